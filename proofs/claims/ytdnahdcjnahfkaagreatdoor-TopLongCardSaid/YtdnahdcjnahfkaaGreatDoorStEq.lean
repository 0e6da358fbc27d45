/- Structs held against each other. It speaks of any program; nothing of the claim's own program stands here. -/
import Derived.Test.YtdnahdcjnahfkaaGreatDoorOps3
import Derived.ChangeKeysEq
import Derived.Laws.Externs
import Derived.Stop.Asserts
import Derived.LaidEql
import Derived.Lib.UnsafeStr
import Derived.Lib.Builder
import Derived.Lib.ItoaLen
import Derived.MapKept
import Derived.Laws.IdiomRangeMap
import Derived.Laws.StructEq
namespace Go.Proofs.YtdnahdcjnahfkaaGreatDoor
open Go
theorem wrap_u8_mod (x : Int) : IntKind.u8.wrap x = x % 256 := by rw [IntKind.wrap_u8]
theorem wrap_u16_mod (x : Int) : IntKind.u16.wrap x = x % 65536 := by rw [IntKind.wrap_u16]
theorem wrap_u32_mod (x : Int) : IntKind.u32.wrap x = x % 4294967296 := by rw [IntKind.wrap_u32]
theorem wrap_u64_mod (x : Int) : IntKind.u64.wrap x = x % 18446744073709551616 := by rw [IntKind.wrap_u64]
theorem ofInt_nat (n x : Nat) (h : x < 2 ^ n) : (BitVec.ofInt n (x : Int)).toNat = x := by
  rw [BitVec.toNat_ofInt, Int.emod_eq_of_lt (Int.natCast_nonneg _) (by exact_mod_cast h)]; simp
theorem iand_u64 {x y : Nat} (hx : x < 18446744073709551616) (hy : y < 18446744073709551616) : iand .u64 x y = ((x &&& y : Nat) : Int) := by
  unfold iand
  rw [show IntKind.u64.bits = 64 from rfl, BitVec.toNat_and, ofInt_nat 64 x (by simpa using hx), ofInt_nat 64 y (by simpa using hy), wrap_u64_mod]
  have := Nat.and_le_left (n := x) (m := y); omega
theorem ior_u64 {x y : Nat} (hx : x < 18446744073709551616) (hy : y < 18446744073709551616) : ior .u64 x y = ((x ||| y : Nat) : Int) := by
  unfold ior
  rw [show IntKind.u64.bits = 64 from rfl, BitVec.toNat_or, ofInt_nat 64 x (by simpa using hx), ofInt_nat 64 y (by simpa using hy), wrap_u64_mod]
  have := Nat.or_lt_two_pow (n := 64) (x := x) (y := y) (by simpa using hx) (by simpa using hy); omega
theorem ixor_u64 {x y : Nat} (hx : x < 18446744073709551616) (hy : y < 18446744073709551616) : ixor .u64 x y = ((x ^^^ y : Nat) : Int) := by
  unfold ixor
  rw [show IntKind.u64.bits = 64 from rfl, BitVec.toNat_xor, ofInt_nat 64 x (by simpa using hx), ofInt_nat 64 y (by simpa using hy), wrap_u64_mod]
  have := Nat.xor_lt_two_pow (n := 64) (x := x) (y := y) (by simpa using hx) (by simpa using hy); omega
theorem iand_u8 {x y : Nat} (hx : x < 256) (hy : y < 256) : iand .u8 x y = ((x &&& y : Nat) : Int) := by
  unfold iand
  rw [show IntKind.u8.bits = 8 from rfl, BitVec.toNat_and, ofInt_nat 8 x (by simpa using hx), ofInt_nat 8 y (by simpa using hy), wrap_u8_mod]
  have := Nat.and_le_left (n := x) (m := y); omega
theorem ior_u8 {x y : Nat} (hx : x < 256) (hy : y < 256) : ior .u8 x y = ((x ||| y : Nat) : Int) := by
  unfold ior
  rw [show IntKind.u8.bits = 8 from rfl, BitVec.toNat_or, ofInt_nat 8 x (by simpa using hx), ofInt_nat 8 y (by simpa using hy), wrap_u8_mod]
  have := Nat.or_lt_two_pow (n := 8) (x := x) (y := y) (by simpa using hx) (by simpa using hy); omega
theorem ishr_nat (k : IntKind) (x y : Nat) (hy : y ≤ k.bits) : ishr k x y = ((x / 2 ^ y : Nat) : Int) := by
  unfold ishr
  rw [Int.toNat_natCast, Nat.min_eq_left hy, Int.fdiv_eq_ediv_of_nonneg _ (by exact Int.pow_nonneg (by decide))]
  rw [Int.natCast_ediv, Int.natCast_pow]; rfl
theorem ishl_u64 (x y : Nat) (hy : y ≤ 64) : ishl .u64 x y = ((x * 2 ^ y % 18446744073709551616 : Nat) : Int) := by
  unfold ishl
  rw [Int.toNat_natCast, show IntKind.u64.bits = 64 from rfl, Nat.min_eq_left hy, wrap_u64_mod, Int.natCast_emod, Int.natCast_mul, Int.natCast_pow]; rfl
theorem and127 (x : Nat) : x &&& 127 = x % 128 := Nat.and_two_pow_sub_one_eq_mod x 7
theorem and1 (x : Nat) : x &&& 1 = x % 2 := Nat.and_two_pow_sub_one_eq_mod x 1
theorem or_disj {n x y : Nat} (h : x < 2 ^ n) : x ||| (y * 2 ^ n) = x + y * 2 ^ n := by
  have := Nat.two_pow_add_eq_or_of_lt h y
  rw [Nat.mul_comm (2 ^ n) y] at this
  rw [Nat.or_comm, ← this, Nat.add_comm]
theorem xor_ones {x : Nat} (n : Nat) (h : x < 2 ^ n) : x ^^^ (2 ^ n - 1) = 2 ^ n - 1 - x := by
  apply Nat.eq_of_testBit_eq
  intro i
  rw [Nat.testBit_xor, Nat.testBit_two_pow_sub_one, show 2 ^ n - 1 - x = 2 ^ n - (x + 1) from by omega, Nat.testBit_two_pow_sub_succ h]
  by_cases hi : i < n
  · simp [hi]
  · have : x.testBit i = false := Nat.testBit_lt_two_pow (Nat.lt_of_lt_of_le h (Nat.pow_le_pow_right (by decide) (by omega)))
    simp [hi, this]
/-! numbers with signs, as numbers without -/
def zz (n : Int) : Nat := if n < 0 then 2 * (-(n + 1)).toNat + 1 else 2 * n.toNat
def uz (v : Nat) : Int := if v % 2 = 1 then -((v / 2 : Nat) : Int) - 1 else ((v / 2 : Nat) : Int)
theorem uz_zz (n : Int) : uz (zz n) = n := by
  unfold uz zz
  by_cases h : n < 0
  · rw [if_pos h, if_pos (by omega)]; omega
  · rw [if_neg h, if_neg (by omega)]; omega
theorem zz_lt {n : Int} (h : inR .i64 n) : zz n < 18446744073709551616 := by
  rw [inR_i64] at h
  unfold zz; split <;> omega
theorem enc_zz {n : Int} (h : inR .i64 n) : ixor .u64 (ishl .u64 (iwrap .u64 n) (1 : Int)) (iwrap .u64 (ishr .i64 n (63 : Int))) = ((zz n : Nat) : Int) := by
  rw [inR_i64] at h
  have h1 : iwrap .u64 n = ((n % 18446744073709551616).toNat : Int) := by unfold iwrap; rw [wrap_u64_mod]; omega
  have h2 : ishr .i64 n (63 : Int) = if n < 0 then -1 else 0 := by
    unfold ishr
    rw [show min (63 : Int).toNat IntKind.i64.bits = 63 from rfl, Int.fdiv_eq_ediv_of_nonneg _ (by decide)]
    split <;> omega
  rw [h1, show (1 : Int) = ((1 : Nat) : Int) from rfl, ishl_u64 _ 1 (by decide), h2]
  by_cases hn : n < 0
  · rw [if_pos hn, show iwrap .u64 (-1) = ((2 ^ 64 - 1 : Nat) : Int) from by decide, ixor_u64 (Nat.mod_lt _ (by decide)) (by decide), xor_ones 64 (by rw [show 2 ^ 64 = 18446744073709551616 from by decide]; exact Nat.mod_lt _ (by decide))]
    unfold zz; rw [if_pos hn]; omega
  · rw [if_neg hn, show iwrap .u64 0 = ((0 : Nat) : Int) from by decide, ixor_u64 (Nat.mod_lt _ (by decide)) (by decide), Nat.xor_zero]
    unfold zz; rw [if_neg hn]; omega
theorem ofInt_neg1 : BitVec.ofInt 64 (-1) = BitVec.allOnes 64 := by decide
theorem dec_uz {v : Nat} (h : v < 18446744073709551616) : ixor .i64 (iwrap .i64 (ishr .u64 (v : Int) (1 : Int))) (-(iwrap .i64 (iand .u64 (v : Int) (1 : Int)))) = uz v := by
  have h1 : iand .u64 (v : Int) (1 : Int) = ((v % 2 : Nat) : Int) := by rw [← and1]; exact iand_u64 h (by decide)
  have h2 : ishr .u64 (v : Int) (1 : Int) = ((v / 2 : Nat) : Int) := by
    have := ishr_nat .u64 v 1 (by decide); rw [Nat.pow_one] at this; exact this
  have h3 : iwrap .i64 ((v / 2 : Nat) : Int) = ((v / 2 : Nat) : Int) := by unfold iwrap; rw [IntKind.wrap_i64]; omega
  have h4 : iwrap .i64 ((v % 2 : Nat) : Int) = ((v % 2 : Nat) : Int) := by unfold iwrap; rw [IntKind.wrap_i64]; omega
  rw [h1, h2, h3, h4]
  unfold ixor
  rw [show IntKind.i64.bits = 64 from rfl, BitVec.toNat_xor, ofInt_nat 64 (v / 2) (by rw [show 2 ^ 64 = 18446744073709551616 from by decide]; omega)]
  unfold uz
  by_cases ho : v % 2 = 1
  · rw [if_pos ho, ho, show (-((1 : Nat) : Int)) = -1 from rfl, ofInt_neg1, BitVec.toNat_allOnes, xor_ones 64 (by rw [show 2 ^ 64 = 18446744073709551616 from by decide]; omega), IntKind.wrap_i64]
    omega
  · have : v % 2 = 0 := by omega
    rw [if_neg ho, this, show (-((0 : Nat) : Int)) = ((0 : Nat) : Int) from rfl, ofInt_nat 64 0 (by decide), Nat.xor_zero, IntKind.wrap_i64]
    omega
/-! numbers, seven bits a byte -/
def vb (u : Nat) : List Int := if h : u < 128 then [(u : Int)] else ((u % 128 + 128 : Nat) : Int) :: vb (u / 128)
termination_by u
decreasing_by omega
theorem vb_lt {u : Nat} (h : u < 128) : vb u = [(u : Int)] := by rw [vb, dif_pos h]
theorem vb_ge {u : Nat} (h : ¬ u < 128) : vb u = ((u % 128 + 128 : Nat) : Int) :: vb (u / 128) := by rw [vb, dif_neg h]
theorem vb_len_le : ∀ (n u : Nat), u < 128 ^ (n + 1) → (vb u).length ≤ n + 1
  | 0, u, h => by rw [vb_lt (by simpa using h)]; simp
  | n + 1, u, h => by
    by_cases hu : u < 128
    · rw [vb_lt hu]; simp
    · rw [vb_ge hu]
      have := vb_len_le n (u / 128) (by rw [Nat.div_lt_iff_lt_mul (by decide), ← Nat.pow_succ]; exact h)
      simp; omega
theorem vb_pos (u : Nat) : 0 < (vb u).length := by
  by_cases hu : u < 128
  · rw [vb_lt hu]; simp
  · rw [vb_ge hu]; simp
theorem vb_ten {u : Nat} (h : u < 18446744073709551616) : (vb u).length ≤ 10 := vb_len_le 9 u (Nat.lt_of_lt_of_le h (by decide))
theorem ior128 {v : Nat} (h : v < 18446744073709551616) : ior .u8 (iwrap .u8 (iand .u64 (v : Int) (127 : Int))) (128 : Int) = ((v % 128 + 128 : Nat) : Int) := by
  have h1 : iand .u64 (v : Int) (127 : Int) = ((v % 128 : Nat) : Int) := by rw [← and127]; exact iand_u64 h (by decide)
  have h2 : iwrap .u8 ((v % 128 : Nat) : Int) = ((v % 128 : Nat) : Int) := by unfold iwrap; rw [wrap_u8_mod]; omega
  rw [h1, h2]
  have := ior_u8 (x := v % 128) (y := 128) (by omega) (by decide)
  rw [or_disj (n := 7) (x := v % 128) (y := 1) (by omega)] at this
  exact this
theorem ior128' {v : Nat} (h : v < 18446744073709551616) : iwrap .u8 (ior .u64 (iand .u64 (v : Int) (127 : Int)) (128 : Int)) = ((v % 128 + 128 : Nat) : Int) := by
  have h1 : iand .u64 (v : Int) (127 : Int) = ((v % 128 : Nat) : Int) := by rw [← and127]; exact iand_u64 h (by decide)
  rw [h1]
  have := ior_u64 (x := v % 128) (y := 128) (by omega) (by decide)
  rw [or_disj (n := 7) (x := v % 128) (y := 1) (by omega)] at this
  rw [show (128 : Int) = ((128 : Nat) : Int) from rfl, this]; unfold iwrap; rw [wrap_u8_mod]; omega
theorem shr7 (v : Nat) : ishr .u64 (v : Int) (7 : Int) = ((v / 128 : Nat) : Int) := ishr_nat .u64 v 7 (by decide)
theorem iwrap8 {v : Nat} (h : v < 128) : iwrap .u8 (v : Int) = (v : Int) := by unfold iwrap; rw [wrap_u8_mod]; omega
end Go.Proofs.YtdnahdcjnahfkaaGreatDoor
namespace Go.Proofs.YtdnahdcjnahfkaaGreatDoor
open Go
def okArr (k : IntKind) (m : Nat) (e : List Int) : Prop := e.length = m ∧ ∀ x ∈ e, inR k x
def okArrB (k : IntKind) (m : Nat) (e : List Int) : Bool := e.length == m && e.all fun x => decide (k.min ≤ x) && decide (x ≤ k.max)
theorem okArr_lit {k : IntKind} {m : Nat} {e : List Int} (h : okArrB k m e = true) : okArr k m e := by
  unfold okArrB at h
  simp only [Bool.and_eq_true, beq_iff_eq, List.all_eq_true, decide_eq_true_eq] at h
  exact ⟨h.1, fun x hx => h.2 x hx⟩
theorem okArr_nil (k : IntKind) : okArr k 0 [] := ⟨rfl, fun _ h => by cases h⟩
theorem okArr_cons {k : IntKind} {m : Nat} {x : Int} {e : List Int} (hx : inR k x) (h : okArr k m e) : okArr k (m + 1) (x :: e) :=
  ⟨by simp [h.1], fun y hy => by cases hy with | head => exact hx | tail _ h1 => exact h.2 y h1⟩
theorem okArr_rep (k : IntKind) (m : Nat) : okArr k m (List.replicate m 0) := ⟨by simp, fun x hx => by
  rw [List.eq_of_mem_replicate hx]; exact ⟨kmin_le, kmax_ge⟩⟩
theorem okArr_get {k : IntKind} {m : Nat} {e : List Int} {i : Int} (h : okArr k m e) (hi : 0 ≤ i ∧ i < (m : Int)) : inR k (lget e i) :=
  h.2 _ (lget_mem ⟨hi.1, by rw [h.1]; exact hi.2⟩)
theorem okArr_set {k : IntKind} {m : Nat} {e : List Int} {i v : Int} (h : okArr k m e) (hv : inR k v) : okArr k m (lset e i v) :=
  ⟨by rw [len_lset]; exact h.1, fun x hx => by
    rcases List.mem_or_eq_of_mem_set hx with h1 | rfl
    · exact h.2 x h1
    · exact hv⟩
theorem okArr.len {k : IntKind} {m : Nat} {e : List Int} (h : okArr k m e) : e.length = m := h.1
def rArr (k : IntKind) (m : Nat) : Rep (List Int) where
  n := m
  ok _ _ cs e := cs = e.map (Value.int k) ∧ okArr k m e
  len h := by rw [h.1, List.length_map]; exact h.2.1
  evo h _ _ := h
  sub h _ := h
  one h c hc := by rw [h.1] at hc; obtain ⟨x, _, rfl⟩ := List.mem_map.1 hc; rfl
theorem rArr_mk {k : IntKind} {m : Nat} {e : List Int} {X : List Nat} {w : World} (h : okArr k m e) : (rArr k m).ok X w (e.map (Value.int k)) e := ⟨rfl, h⟩
theorem map_get {k : IntKind} {e : List Int} {i : Int} (h : inL e i) : (e.map (Value.int k))[i.toNat]? = some (.int k (lget e i)) := by
  rw [List.getElem?_map, List.getElem?_eq_getElem h.lt, lget_eq h]; rfl
theorem map_set {k : IntKind} {e : List Int} {i v : Int} (h : inL e i) : (e.map (Value.int k)).take i.toNat ++ [.int k v] ++ (e.map (Value.int k)).drop (i.toNat + 1) = (lset e i v).map (Value.int k) := by
  unfold lset
  rw [List.map_set, List.set_eq_take_append_cons_drop, if_pos (by simpa using h.lt)]
  simp
section
variable {P : Program} {ops : Array Oper} {Q : Exit → Act → World → Prop} {n : Nat} {f : Nat → Value} {u : List (Nat × Value)} {w : World} {next : Act → World → Prop}
variable {dst : Option Tmp} {ty : TypeId} {pos : String} {aft : Array Edge} {gd : Option (Nat × Bool)}
/-- An element of an array that is a value. -/
theorem x_aget {t et : TypeId} {x ix : Operand} {k k' : IntKind} {m : Nat} {i : Int} {e : List Int} (hx : evf n f u x = .agg (e.map (Value.int k)).toArray) (hi : evf n f u ix = .int k' i)
    (ht : P.underlying t = some (.array m et)) (ha : ∀ w, (isAgg et).run P w = .ok false w) (hs : ∀ w, (sizeOf et).run P w = .ok 1 w) (ok : okArr k m e) (h : 0 ≤ i ∧ i < (m : Int)) :
    (execOp (evf n f u) ⟨dst, .index t x ix, ty, pos, aft, gd⟩).run P w = .ok (.value (.int k (lget e i))) w := by
  have hg := map_get (k := k) (show inL e i from ⟨h.1, by rw [ok.1]; exact h.2⟩)
  simp [execOp, Instr.index, asIntOf, hx, hi, run_underlying ht, h, hs, part, ha]
  rw [List.getElem?_map] at hg
  simp [hg]
/-- The address of an element of an array in a block. -/
theorem x_ixR {t et : TypeId} {x ix : Operand} {b m : Nat} {k : IntKind} {i : Int} (ht : P.underlying t = some (.array m et)) (hs : ∀ w, (sizeOf et).run P w = .ok 1 w)
    (hx : evf n f u x = .pointer (some ⟨b, 0, none⟩)) (hi : evf n f u ix = .int k i) (h : 0 ≤ i ∧ i < (m : Int)) :
    (execOp (evf n f u) ⟨dst, .indexAddr t x ix, ty, pos, aft, gd⟩).run P w = .ok (.value (.pointer (some ⟨b, i.toNat, none⟩))) w := by
  simp [execOp, Instr.indexAt, asIntOf, Instr.sureAddr, hx, hi, run_underlying ht, h, hs, Addr_add]
theorem Blk.acell {b : Nat} {k : IntKind} {e : List Int} {ty : TypeId} {m : Nat} {i : Int} (h : Blk w b (e.map (Value.int k)) ty) (ok : okArr k m e) (hi : 0 ≤ i ∧ i < (m : Int)) : w.cell? ⟨b, i.toNat, none⟩ = some (.int k (lget e i)) :=
  h.cell' i.toNat (map_get ⟨hi.1, by rw [ok.1]; exact hi.2⟩)
theorem Blk.awhole {b : Nat} {k : IntKind} {e : List Int} {ty : TypeId} (h : Blk w b (e.map (Value.int k)) ty) : CellsAt w b 0 (e.map (Value.int k)) := h.cells' 0 (by rw [List.drop_zero, List.take_length])
theorem x_loadA {t : TypeId} {x : Operand} {b o m : Nat} {k : IntKind} (e : List Int) (hx : evf n f u x = .pointer (some ⟨b, o, none⟩)) (ha : ∀ w, (isAgg t).run P w = .ok true w) (hs : ∀ w, (sizeOf t).run P w = .ok m w) (ok : okArr k m e)
    (hc : CellsAt w b o (e.map (Value.int k))) : (execOp (evf n f u) ⟨dst, .load t x, ty, pos, aft, gd⟩).run P w = .ok (.value (.agg (e.map (Value.int k)).toArray)) w :=
  x_loadN (e.map (Value.int k)) hx ha (fun w => by rw [hs, List.length_map, ok.1]) hc
theorem cells_one {v : Value} (h : v.oneCell' = true) : v.cells = #[v] := by cases v <;> first | rfl | cases h
/-- A number stored into an array. -/
theorem o_stA {t bt : TypeId} {x y : Operand} {G X : List Nat} {B b m : Nat} {k : IntKind} {i v : Int} {e : List Int} (hg : Region.wanted ⟨dst, .store t x y, ty, pos, aft, gd⟩ (yielded ops (Fr n f u).tmps) = true)
    (hO : OB G B X w b (e.map (Value.int k)) bt) (hx : evf n f u x = .pointer (some ⟨b, i.toNat, none⟩)) (hy : evf n f u y = .int k v) (hs : ∀ w, (sizeOf t).run P w = .ok 1 w) (ok : okArr k m e) (hi : 0 ≤ i ∧ i < (m : Int))
    (h : ∀ w', Step X w [b] X w' → OB G B X w' b ((lset e i v).map (Value.int k)) bt → next (Fr n f (pusho dst undef u)) w') : OpW P ops Q ⟨dst, .store t x y, ty, pos, aft, gd⟩ n f u w next := by
  have hin : inL e i := ⟨hi.1, by rw [ok.1]; exact hi.2⟩
  refine o_stB _ hg hO hx hy hs ?_ rfl ?_ h
  · rw [Nat.ble_eq, List.length_map]; have := hin.lt; show i.toNat + 1 ≤ _; omega
  · exact map_set hin
/-- A whole array stored into a block. -/
theorem o_stW {t bt : TypeId} {x y : Operand} {G X : List Nat} {B b m : Nat} {k : IntKind} {e e' : List Int} (hg : Region.wanted ⟨dst, .store t x y, ty, pos, aft, gd⟩ (yielded ops (Fr n f u).tmps) = true)
    (hO : OB G B X w b (e.map (Value.int k)) bt) (hx : evf n f u x = .pointer (some ⟨b, 0, none⟩)) (hy : evf n f u y = .agg (e'.map (Value.int k)).toArray) (hs : ∀ w, (sizeOf t).run P w = .ok m w) (ok : okArr k m e) (ok' : okArr k m e')
    (h : ∀ w', Step X w [b] X w' → OB G B X w' b (e'.map (Value.int k)) bt → next (Fr n f (pusho dst undef u)) w') : OpW P ops Q ⟨dst, .store t x y, ty, pos, aft, gd⟩ n f u w next := by
  refine o_stB _ hg hO hx hy (fun w => ?_) ?_ ?_ ?_ h
  · rw [hs]; simp [Value.cells, ok'.1]
  · rw [Nat.ble_eq]; simp [Value.cells, ok.1, ok'.1]
  · simp [Value.cells, Value.oneCell']
  · simp [Value.cells, ok.1, ok'.1]
theorem rs_aggA {tmps : Array Value} {t : Tmp} {ct : TypeId} {b m : Nat} {k : IntKind} {e : List Int} {bt : TypeId} (h : tmps.getD t undef = .pointer (some ⟨b, 0, none⟩)) (ha : ∀ w, (isAgg ct).run P w = .ok true w) (hs : ∀ w, (sizeOf ct).run P w = .ok m w)
    (ok : okArr k m e) (hk : Blk w b (e.map (Value.int k)) bt) : ResV P tmps w (.cell t ct) (.agg (e.map (Value.int k)).toArray) := rs_agg (e.map (Value.int k)) h ha (fun w => by rw [hs, List.length_map, ok.1]) hk.awhole
/-! two arrays held against each other -/
theorem run_eqItems {e : TypeId} {k : IntKind} (hu : P.underlying e = some (.int k)) (ha : ∀ w, (isAgg e).run P w = .ok false w) (d : Nat) (xs ys : List Int) : ∀ (is : List Nat), (∀ i ∈ is, i < xs.length ∧ i < ys.length) →
    (Op.eqItems (d + 1) e 1 (xs.map (Value.int k)).toArray (ys.map (Value.int k)).toArray is).run P w = .ok (is.all fun i => xs.getD i 0 == ys.getD i 0) w
  | [], _ => by simp [Op.eqItems]
  | i :: is, h => by
    have hi := h i (by simp)
    have ih := run_eqItems hu ha d xs ys is (fun j hj => h j (List.mem_cons_of_mem _ hj))
    simp only [Op.eqItems, Sem.run_bind, part, ha, Result.andThen_ok, Nat.mul_one, Bool.false_eq_true, if_false]
    rw [List.getElem?_toArray, List.getElem?_toArray, List.getElem?_map, List.getElem?_map, List.getElem?_eq_getElem hi.1, List.getElem?_eq_getElem hi.2]
    simp only [Option.map_some, Sem.run_pure, Result.andThen_ok, Op.equalIn, Sem.run_bind, run_underlying hu, if_true]
    have e1 : xs.getD i 0 = xs[i] := by simp [List.getD, List.getElem?_eq_getElem hi.1]
    have e2 : ys.getD i 0 = ys[i] := by simp [List.getD, List.getElem?_eq_getElem hi.2]
    rw [List.all_cons, e1, e2]
    cases hb : (xs[i] == ys[i])
    · simp
    · simp [ih]
theorem all_get_eq {xs ys : List Int} {m : Nat} (hx : xs.length = m) (hy : ys.length = m) : ((List.range m).all fun i => xs.getD i 0 == ys.getD i 0) = decide (xs = ys) := by
  rw [Bool.eq_iff_iff, List.all_eq_true, decide_eq_true_eq]
  constructor
  · intro h
    refine List.ext_getElem (by rw [hx, hy]) fun i h1 h2 => ?_
    have := h i (List.mem_range.2 (by omega))
    simpa [List.getD, h1, h2] using this
  · rintro rfl i _; simp
theorem equal_arr {t et : TypeId} {m : Nat} {k : IntKind} {i : TypeInfo} {xs ys : List Int} (ht : P.underlying t = some (.array m et)) (he : P.underlying et = some (.int k)) (hi : P.info? et = some i) (hc : P.cellsOf et = 1) (ha : ∀ w, (isAgg et).run P w = .ok false w)
    (hx : okArr k m xs) (hy : okArr k m ys) : (Op.equal t (.agg (xs.map (Value.int k)).toArray) (.agg (ys.map (Value.int k)).toArray)).run P w = .ok (decide (xs = ys)) w := by
  have h : ∀ d : Nat, (Op.equalIn (d + 1 + 1) t (.agg (xs.map (Value.int k)).toArray) (.agg (ys.map (Value.int k)).toArray)).run P w = .ok (decide (xs = ys)) w := fun d => by
    rw [run_equalIn_array w (d + 1) _ _ ht hi, hc, run_eqItems he ha d xs ys _ (fun j hj => by have := List.mem_range.1 hj; rw [hx.1, hy.1]; exact ⟨this, this⟩), all_get_eq hx.1 hy.1]
  simp only [Op.equal, Op.maxDepth]
  exact h 9998
theorem x_arreq {t t' et : TypeId} {m : Nat} {k : IntKind} {i : TypeInfo} {xs ys : List Int} {x y : Operand} (ht : P.underlying t = some (.array m et)) (he : P.underlying et = some (.int k)) (hi : P.info? et = some i) (hc : P.cellsOf et = 1) (hgd : P.eqGuardType P.depth t = false) (ha : ∀ w, (isAgg et).run P w = .ok false w)
    (hox : okArr k m xs) (hoy : okArr k m ys) (hx : evf n f u x = .agg (xs.map (Value.int k)).toArray) (hy : evf n f u y = .agg (ys.map (Value.int k)).toArray) :
    (execOp (evf n f u) ⟨dst, .binOp .eql t x y t', ty, pos, aft, gd⟩).run P w = .ok (.value (.bool (decide (xs = ys)))) w := by
  simp [execOp, hx, hy, eqGuard, hgd, binOp, equal_arr ht he hi hc ha hox hoy]
theorem x_arrne {t t' et : TypeId} {m : Nat} {k : IntKind} {i : TypeInfo} {xs ys : List Int} {x y : Operand} (ht : P.underlying t = some (.array m et)) (he : P.underlying et = some (.int k)) (hi : P.info? et = some i) (hc : P.cellsOf et = 1) (hgd : P.eqGuardType P.depth t = false) (ha : ∀ w, (isAgg et).run P w = .ok false w)
    (hox : okArr k m xs) (hoy : okArr k m ys) (hx : evf n f u x = .agg (xs.map (Value.int k)).toArray) (hy : evf n f u y = .agg (ys.map (Value.int k)).toArray) :
    (execOp (evf n f u) ⟨dst, .binOp .neq t x y t', ty, pos, aft, gd⟩).run P w = .ok (.value (.bool (!decide (xs = ys)))) w := by
  simp [execOp, hx, hy, eqGuard, hgd, binOp, equal_arr ht he hi hc ha hox hoy]
end
/-! a row that is written out, of data of more than one cell -/
theorem fold_set (off : Nat) : ∀ (c : List Value) (k : Nat) (cells : Array Value), off + k + c.length ≤ cells.size →
    ((c.zipIdx k).foldl (fun (cs : Array Value) (p : Value × Nat) => cs.setIfInBounds (off + p.2) p.1) cells).toList = cells.toList.take (off + k) ++ c ++ cells.toList.drop (off + k + c.length)
  | [], k, cells, _ => by simp
  | x :: c, k, cells, h => by
    simp only [List.length_cons] at h
    rw [List.zipIdx_cons, List.foldl_cons, fold_set off c (k + 1) _ (by simp; omega)]
    have h1 : off + k < cells.toList.length := by simp; omega
    simp only [Array.toList_setIfInBounds, List.length_cons]
    rw [show off + (k + 1) = off + k + 1 from rfl, List.drop_set_of_lt (by omega), show off + k + (c.length + 1) = off + k + 1 + c.length from by omega]
    congr 1
    rw [List.take_succ_eq_append_getElem (by simpa using h1), List.take_set_of_le (Nat.le_refl _)]
    simp
theorem fill_row (sz : Nat) : ∀ (vs : List (List Value)) (j : Nat) (cells : Array Value), (∀ c ∈ vs, c.length = sz) → (j + vs.length) * sz ≤ cells.size →
    ∃ out : Array Value, Instr.fill (fun i => some (i * sz, sz)) cells ((vs.zipIdx j).map fun p => (p.2, Value.agg p.1.toArray)) = some out ∧ out.toList = cells.toList.take (j * sz) ++ vs.flatten ++ cells.toList.drop ((j + vs.length) * sz)
  | [], j, cells, _, _ => ⟨cells, rfl, by simp⟩
  | c :: vs, j, cells, h, hs => by
    have hc := h c (by simp)
    simp only [List.length_cons] at hs
    have hm : (j + (vs.length + 1)) * sz = (j + 1 + vs.length) * sz := by rw [show j + (vs.length + 1) = j + 1 + vs.length from by omega]
    have hm2 : (j + 1) * sz = j * sz + sz := Nat.succ_mul j sz
    have hle : (j + 1) * sz ≤ (j + 1 + vs.length) * sz := Nat.mul_le_mul_right _ (by omega)
    have hf := fold_set (j * sz) c 0 cells (by rw [hc]; omega)
    generalize hn : (c.zipIdx 0).foldl (fun (cs : Array Value) (p : Value × Nat) => cs.setIfInBounds (j * sz + p.2) p.1) cells = cells2 at hf
    have hl2 : cells2.size = cells.size := by
      have := congrArg List.length hf
      simp only [List.length_append, List.length_take, List.length_drop, Array.length_toList] at this
      omega
    obtain ⟨out, ho, hot⟩ := fill_row sz vs (j + 1) cells2 (fun d hd => h d (List.mem_cons_of_mem _ hd)) (by rw [hl2]; omega)
    refine ⟨out, ?_, ?_⟩
    · rw [List.zipIdx_cons, List.map_cons]
      have e : (c.toArray.zipIdx.foldl (fun (cs : Array Value) (p : Value × Nat) => cs.setIfInBounds (j * sz + p.2) p.1) cells) = cells2 := by
        rw [← hn, ← Array.foldl_toList]; simp
      have h1 : ¬ ((Value.agg c.toArray).cells.size ≠ sz || decide (j * sz + (Value.agg c.toArray).cells.size > cells.size)) = true := by
        simp [Value.cells, hc]; omega
      simp only [Instr.fill]
      rw [if_neg h1]
      have e' : (Value.agg c.toArray).cells = c.toArray := rfl
      rw [e']
      exact (congrArg (fun z => Instr.fill (fun i => some (i * sz, sz)) z ((vs.zipIdx (j + 1)).map fun p => (p.2, Value.agg p.1.toArray))) e).trans ho
    · rw [hot, hf, List.flatten_cons]
      have a1 : (cells.toList.take (j * sz + 0)).length = j * sz := by simp; omega
      have t1 : (cells.toList.take (j * sz + 0) ++ c ++ cells.toList.drop (j * sz + 0 + c.length)).take ((j + 1) * sz) = cells.toList.take (j * sz) ++ c := by
        rw [List.take_append_of_le_length (by simp [hc]; omega), List.take_of_length_le (by simp [hc]; omega)]; simp
      have t2 : (cells.toList.take (j * sz + 0) ++ c ++ cells.toList.drop (j * sz + 0 + c.length)).drop ((j + 1 + vs.length) * sz) = cells.toList.drop ((j + (vs.length + 1)) * sz) := by
        have al : (cells.toList.take (j * sz + 0) ++ c).length = (j + 1) * sz := by simp [hc]; omega
        rw [List.drop_append, List.drop_of_length_le (by rw [al]; exact hle), List.nil_append, al, List.drop_drop, hm]
        congr 1
        rw [hc]; omega
      rw [t1, t2, List.length_cons]; simp
theorem x_rowG {P : Program} {n : Nat} {f : Nat → Value} {u : List (Nat × Value)} {w : World} {dst : Option Tmp} {ty : TypeId} {pos : String} {aft : Array Edge} {gd : Option (Nat × Bool)} {t et sz bts m : Nat} {z : Value} {ps : Array (Nat × Operand)} (vs : List (List Value)) (hu : P.underlying t = some (.slice et))
    (hi : (P.info? et).map (fun i => (i.zero, i.size, i.bytes)) = some (some z, sz, bts)) (hs : ∀ w, (sizeOf et).run P w = .ok sz w) (hp : (ps.map fun p => (p.1, evf n f u p.2)) = ((vs.zipIdx 0).map fun p => (p.2, Value.agg p.1.toArray)).toArray)
    (hl : ∀ c ∈ vs, c.length = sz) (hm : vs.length = m) (h24 : Nat.ble (m * sz) 16777216 = true) :
    (execOp (evf n f u) ⟨dst, .buildSlice t m ps, ty, pos, aft, gd⟩).run P w = .ok (.value (.slice (some ⟨w.heap.size, 0, none⟩) m m)) (w.alloc (.cells vs.flatten.toArray et)) := by
  obtain ⟨i, hi1, hi2, hi3, hi4⟩ := info_parts hi
  subst hm
  have h24' : ¬ (16777216 < vs.length * sz) := by have := ble_le h24; omega
  have hp' : ps.toList.map (fun x => (x.1, evf n f u x.2)) = (vs.zipIdx 0).map fun p => (p.2, Value.agg p.1.toArray) := by
    have := congrArg Array.toList hp; simpa using this
  have key : ∀ cells : Array Value, cells.size = vs.length * sz → Instr.fill (fun i => some (i * sz, sz)) cells (ps.toList.map fun x => (x.1, evf n f u x.2)) = some vs.flatten.toArray := by
    intro cells hc
    obtain ⟨out, ho, hot⟩ := fill_row sz vs 0 cells hl (by rw [hc]; simp)
    rw [hp', ho]
    congr 1
    apply Array.ext'
    rw [hot]
    simp [hc]
  by_cases h0 : vs.length * sz = 0
  · have k := key ((Array.range 0).map fun _ => default) (by simp [h0])
    simp [execOp, Instr.buildSlice, run_underlying hu, hs, h0, k, newRow]
  · have k := key ((Array.range (vs.length * sz)).map fun x => z.cells[x % z.cells.size]!) (by simp)
    simp [execOp, Instr.buildSlice, run_underlying hu, hs, h24', h0, k, newRow, zeroValue, typeInfo, hi1, hi2]
end Go.Proofs.YtdnahdcjnahfkaaGreatDoor
namespace Go.Proofs.YtdnahdcjnahfkaaGreatDoor
open Go
section
variable {P : Program} {ops : Array Oper} {Q : Exit → Act → World → Prop} {n : Nat} {f : Nat → Value} {u : List (Nat × Value)} {w : World} {next : Act → World → Prop}
variable {dst : Option Tmp} {ty : TypeId} {pos : String} {aft : Array Edge} {gd : Option (Nat × Bool)}
/-- 'x[:i:i]'. -/
theorem o_slice3F {α : Type} {R : Rep α} {X : List Nat} {t : TypeId} {x hx mx : Operand} {et : TypeId} {a : Option Addr} {m c : Nat} {L : List α} {k k' : IntKind} (hi : Int)
    (ht : P.underlying t = some (.slice et)) (hs : ∀ w, (sizeOf et).run P w = .ok R.n w) (hS : Sl R X w a c L) (hxx : evf n f u x = .slice a m c) (hm : m = L.length)
    (hg : Region.wanted ⟨dst, .slice t x none (some hx) (some mx), ty, pos, aft, gd⟩ (yielded ops (Fr n f u).tmps) = true)
    (hh : evf n f u hx = .int k hi) (hmx : evf n f u mx = .int k' hi) (h1 : 0 ≤ hi ∧ hi ≤ (L.length : Int))
    (h : ∀ a', Sl R X w a' (L.take hi.toNat).length (L.take hi.toNat) → next (Fr n f (pusho dst (.slice a' (L.take hi.toNat).length (L.take hi.toNat).length) u)) w) : OpW P ops Q ⟨dst, .slice t x none (some hx) (some mx), ty, pos, aft, gd⟩ n f u w next := by
  have e : hi = ((hi.toNat : Nat) : Int) := by omega
  have hc := hS.1
  have el : (L.take hi.toNat).length = hi.toNat := by simp; omega
  refine o_slice3 hi.toNat hi.toNat _ ht hs hS hxx hm hg (.inr ⟨k, by show some (evf n f u hx) = _; rw [hh, ← e]⟩) (.inr ⟨k', by show some (evf n f u mx) = _; rw [hmx, ← e]⟩) ⟨Nat.le_refl _, by omega, by omega⟩ rfl fun a' hs' => ?_
  have := h a' (by rw [el]; exact hs')
  rw [el] at this ⊢
  exact this
/-- What is appended, behind what is full: a new block, or nothing is done. -/
theorem run_appF {α : Type} {R : Rep α} {X : List Nat} {t et bytes : TypeId} {a a2 : Option Addr} {c2 : Nat} {L M : List α} (hX : Old X w) (ht : ElemT P t et R.n bytes)
    (hL : Sl R X w a L.length L) (hS : Src R X w a2 c2 M) (hb : (L.length + M.length) * bytes ≤ 140737488355328) :
    ∃ a' c' w', (Builtin.append_ #[t, t] ty #[.slice a L.length L.length, .slice a2 M.length c2]).run P w = .ok (.slice a' (L ++ M).length c') w' ∧ Step X w [] X w' ∧ Sl R X w' a' c' (L ++ M) := by
  obtain ⟨⟨i, z, hi, hz, hsz, hby, hzs⟩, hu, _, hpos, hbp⟩ := ht
  have hlen : L.length + M.length ≤ maxLen := by
    have : L.length + M.length ≤ 140737488355328 := Nat.le_trans (Nat.le_mul_of_pos_right _ hbp) hb
    unfold maxLen; omega
  have hl63 : L.length + M.length ≤ 9223372036854775807 := by unfold maxLen at hlen; omega
  by_cases hM : M = []
  · subst hM
    refine ⟨a, L.length, w, ?_, Step.of0 X (RB.refl _ _ _), by simpa using hL⟩
    rw [List.append_nil]
    have hn : ¬ (9223372036854775807 < (L.length : Int)) := by simp only [List.length_nil, Nat.add_zero] at hl63; omega
    simp [Builtin.append_, run_underlying hu, sizeOf, typeInfo, hi, Builtin.lenOf, Builtin.firstCells, loadCells, loadCellsFrom]
    cases a with
    | some ad => cases a2 <;> simp [storeCells]
    | none =>
      have h0 : L = [] := by
        rcases hL.2.2 with h | ⟨b, o, xs, h, _⟩
        · exact h.1
        · cases h
      subst h0
      cases a2 <;> simp
  rcases hS with ⟨h, _⟩ | ⟨b2, o2, ys, rfl, hc2, hf2⟩
  · exact absurd h hM
  have hMpos : 0 < M.length := by cases M with | nil => exact absurd rfl hM | cons _ _ => simp
  have mk : ∀ (zs : List Value) (cap : Nat), Flat R X w zs (L ++ M) → (L.length + M.length) ≤ cap → cap ≤ maxLen →
      Step X w [] X (w.drew.alloc (.cells (zs.toArray ++ Builtin.zeroCells z.cells (cap - (L.length + M.length))) et)) ∧ Sl R X (w.drew.alloc (.cells (zs.toArray ++ Builtin.zeroCells z.cells (cap - (L.length + M.length))) et)) (some ⟨w.heap.size, 0, none⟩) cap (L ++ M) := by
    intro zs cap hz1 hcap hcm
    have hev : Evo [] w (w.drew.alloc (.cells (zs.toArray ++ Builtin.zeroCells z.cells (cap - (L.length + M.length))) et)) := ⟨rfl, rfl, rfl, by simp, fun b hb _ => RowKit.Below.heap_alloc w.drew _ b hb⟩
    have hs := Step.of0 X hev
    refine ⟨hs, by rw [List.length_append]; exact hcap, hcm, .inr ⟨w.heap.size, 0, zs, rfl, fun hm => Nat.lt_irrefl _ (hX _ hm), by simp, fun j v hj => ?_, hz1.evo hev (Sub.nil _)⟩⟩
    have hk : Blk (w.drew.alloc (.cells (zs.toArray ++ Builtin.zeroCells z.cells (cap - (L.length + M.length))) et)) w.heap.size (zs ++ (Builtin.zeroCells z.cells (cap - (L.length + M.length))).toList) et := by
      have := Blk.new w.drew (zs.toArray ++ Builtin.zeroCells z.cells (cap - (L.length + M.length))) et
      simpa using this
    rw [Nat.zero_add, hk.cell, List.getElem?_append_left (by
      rcases Nat.lt_or_ge j zs.length with h | h
      · exact h
      · simp [List.getElem?_eq_none h] at hj)]
    exact hj
  have cap_ge := grownCap_ge w (L.length + M.length) L.length et
  have cap_le := grownCap_le_maxLen w (L.length + M.length) L.length et hlen
  rcases hL.2.2 with ⟨h0, hcz⟩ | ⟨b, o, xs, rfl, hbX, hbl, hc, hf⟩
  · subst h0
    cases a with
    | none =>
      have hr := run_append_nil (P := P) (w := w) t ty et i z hu hi hz ⟨b2, o2, none⟩ M.length c2 ys (by rw [hsz]; exact hf2.length) (fun j v hj => by rw [Addr_add]; exact hc2 j v hj) hMpos (by simp at hl63; omega) (by
        rw [hby]; simp only [List.length_nil, Nat.zero_add] at hb; omega)
      simp only [List.length_nil, Nat.zero_add] at cap_ge cap_le mk
      obtain ⟨m1, m2⟩ := mk ys _ (by simpa using hf2) cap_ge cap_le
      exact ⟨_, _, _, by simpa using hr, m1, m2⟩
    | some ad =>
      have hr := run_append_grow (P := P) (w := w) t ty et i z hu hi hz ad 0 0 [] (by simp) (fun j v hj => by simp at hj) ⟨b2, o2, none⟩ M.length c2 ys (by rw [hsz]; exact hf2.length) (fun j v hj => by rw [Addr_add]; exact hc2 j v hj) (by omega) (by simp at hl63 ⊢; omega) (by
        rw [hby]; exact growslice_fits (by omega) (by simpa using hb))
      simp only [List.length_nil, Nat.zero_add] at cap_ge cap_le mk
      obtain ⟨m1, m2⟩ := mk ys _ (by simpa using hf2) cap_ge cap_le
      exact ⟨_, _, _, by simpa using hr, m1, m2⟩
  · have hr := run_append_grow (P := P) (w := w) t ty et i z hu hi hz ⟨b, o, none⟩ L.length L.length xs (by rw [hsz]; exact hf.length) (fun j v hj => by rw [Addr_add]; exact hc j v hj) ⟨b2, o2, none⟩ M.length c2 ys (by rw [hsz]; exact hf2.length) (fun j v hj => by rw [Addr_add]; exact hc2 j v hj) (by omega) (by omega) (by
      rw [hby]; exact growslice_fits (by omega) hb)
    obtain ⟨m1, m2⟩ := mk (xs ++ ys) _ (hf.append hf2) cap_ge cap_le
    refine ⟨_, _, _, ?_, m1, m2⟩
    rw [hr]
    simp
theorem o_appF {α : Type} {R : Rep α} {X : List Nat} {t t' et bytes : TypeId} {x y : Operand} {a a2 : Option Addr} {n1 c1 n2 c2 : Nat} {L M : List α}
    (hg : Region.wanted ⟨dst, .call ⟨.builtin .append, #[x, y], #[t, t']⟩, ty, pos, aft, gd⟩ (yielded ops (Fr n f u).tmps) = true)
    (ht : ElemT P t et R.n bytes) (htt : t' = t) (hX : Old X w) (hL : Sl R X w a c1 L) (hc1 : c1 = L.length) (hn1 : n1 = L.length) (hS : Src R X w a2 c2 M) (hn2 : n2 = M.length) (hx : evf n f u x = .slice a n1 c1) (hy : evf n f u y = .slice a2 n2 c2)
    (hb : (L.length + M.length) * bytes ≤ 140737488355328)
    (h : ∀ a' c' w', Step X w [] X w' → Sl R X w' a' c' (L ++ M) → next (Fr n f (pusho dst (.slice a' (L ++ M).length c') u)) w') :
    OpW P ops Q ⟨dst, .call ⟨.builtin .append, #[x, y], #[t, t']⟩, ty, pos, aft, gd⟩ n f u w next := by
  subst hc1; subst hn1; subst hn2; subst htt
  obtain ⟨a', c', w', hr, hs, hS'⟩ := run_appF (P := P) (ty := ty) hX ht hL hS hb
  refine o_val (w' := w') (.slice a' (L ++ M).length c') hg ?_ (h a' c' w' hs hS')
  have hex : (execOp (evf n f u) ⟨dst, .call ⟨.builtin .append, #[x, y], #[t', t']⟩, ty, pos, aft, gd⟩).run P w = ((Builtin.append_ #[t', t'] ty #[.slice a L.length L.length, .slice a2 M.length c2]).run P w).andThen fun v w' => .ok (.value v) w' := by
    unfold execOp
    simp only [resolve, invoke, builtin, Sem.run_bind, Sem.run_pure, Result.andThen_ok, List.map_toArray, List.map_cons, List.map_nil, hx, hy]
  rw [hex, hr]; rfl
end
/-! bytes that are written out, as bytes: the row is marked, and only read from there on -/
section
variable {P : Program} {ops : Array Oper} {Q : Exit → Act → World → Prop} {n : Nat} {f : Nat → Value} {u : List (Nat × Value)} {w : World} {next : Act → World → Prop}
variable {dst : Option Tmp} {ty : TypeId} {pos : String} {aft : Array Edge} {gd : Option (Nat × Bool)}
theorem o_mark {X G : List Nat} {B : Nat} {t et : TypeId} {x : Operand} {b m c : Nat} {L : List Int} (hg : Region.wanted ⟨dst, .convert t t x, ty, pos, aft, gd⟩ (yielded ops (Fr n f u).tmps) = true)
    (ht : P.underlying t = some (.slice et)) (he : P.underlying et = some (.int .u8)) (hO : OS (rInt .u8) G B X w et (some ⟨b, 0, none⟩) m c L) (hx : evf n f u x = .slice (some ⟨b, 0, none⟩) m c)
    (h : ∀ w' X1, Step X w [b] X w' → Sub X1 X → Sl (rInt .u8) X1 w' (some ⟨b, 0, none⟩) c L → (∀ l, Ap l [b] → Sub l X → Sub l X1) → next (Fr n f (pusho dst (.slice (some ⟨b, 0, none⟩) m c) u)) w') :
    OpW P ops Q ⟨dst, .convert t t x, ty, pos, aft, gd⟩ n f u w next := by
  obtain ⟨rfl, ⟨_, hmem, xs, ho, hf⟩, hW⟩ := hO
  obtain ⟨hxl, h2⟩ := ho
  rcases h2 with ⟨h2, _⟩ | ⟨g, cap, cur, hv, _, hg', hnc, hcm, hcs, htake⟩
  · cases h2
  injection hv with e1 e2 e3
  injection e1 with e1; injection e1 with e1 _ _
  subst e1; subst e3
  have hbX : b ∈ X := hmem b (by simp [blkL])
  have hlt : b < w.heap.size := (Array.getElem?_eq_some_iff.1 hg').1
  have hn1 : ¬ ((1 : Nat) = 0) := by decide
  have hE : Evo [b] w (w.freeze ⟨b, cur.size, none⟩ 1) := by
    unfold World.freeze; rw [if_neg hn1]
    refine ⟨rfl, rfl, rfl, by simp, fun k _ hk => ?_⟩
    have : ¬ b = k := fun e => hk (by simp [e])
    simp [Array.getElem?_modify, this]
  have hb' : (w.freeze ⟨b, cur.size, none⟩ 1).heap[b]? = some (.cells cur et (cur.size, cur.size + 1)) := by
    unfold World.freeze; rw [if_neg hn1]
    simp [Array.getElem?_modify, hg']
  have hr : (convert t t (.slice (some ⟨b, 0, none⟩) L.length c)).run P w = .ok (.slice (some ⟨b, 0, none⟩) L.length c) (w.freeze ⟨b, cur.size, none⟩ 1) := by
    simp [convert, run_underlying ht, run_underlying he, markStringish, World.shape?, hg']
  refine o_val (w' := w.freeze ⟨b, cur.size, none⟩ 1) _ hg (by simp [execOp, hx, hr]) (h _ (X.filter fun x => decide (x ≠ b)) (Step.one hE hbX) (fun x hx => (List.mem_filter.1 hx).1) ?_ fun l hl hs x hx => List.mem_filter.2 ⟨hs x hx, ?_⟩)
  · refine ⟨hnc, hcm, .inr ⟨b, 0, xs, rfl, fun hm => ?_, by rw [← Nat.not_le]; intro hle; have := hE.size; omega, fun j v hj => ?_, ?_⟩⟩
    · have := (List.mem_filter.1 hm).2; simp at this
    · have hj2 : cur[j]? = some v := by
        rw [← htake] at hj
        rw [List.getElem?_take] at hj
        split at hj
        · simpa using hj
        · cases hj
      rw [Nat.zero_add]
      simp [World.cell?, hb', hj2]
    · have h3 := Flat.u8 hf
      subst h3
      refine flat_ints L fun y hy => ?_
      obtain ⟨k, hk, rfl⟩ := List.getElem_of_mem hy
      obtain ⟨cs, h4, _⟩ := hf.get k hk
      exact h4.2
  · have := hl x hx; simp at this; simpa using this
end
theorem Sl.u8s {X : List Nat} {w : World} {a : Option Addr} {c : Nat} {L : List Int} {k : IntKind} (h : Sl (rInt k) X w a c L) : ∀ y ∈ L, inR k y := fun y hy => by
  obtain ⟨i, hi, rfl⟩ := List.getElem_of_mem hy
  obtain ⟨b, o, cs, _, _, _, h1, _⟩ := h.at i hi
  exact h1.2
/-! what comes of a region is told to what follows, whatever it is -/
theorem yon0  {R : Prop} {A : (Prop) → Prop} (h : ∀ k : Prop, (R  → k ) → A k) : ∃ k : Prop, (k  → R ) ∧ A k := ⟨R, fun  h => h, h R fun  h => h⟩
theorem yon1 {α0 : Type} {R : α0 → Prop} {A : (α0 → Prop) → Prop} (h : ∀ k : α0 → Prop, (∀ v0, R v0 → k v0) → A k) : ∃ k : α0 → Prop, (∀ v0, k v0 → R v0) ∧ A k := ⟨R, fun _  h => h, h R fun _  h => h⟩
theorem yon2 {α0 : Type} {α1 : Type} {R : α0 → α1 → Prop} {A : (α0 → α1 → Prop) → Prop} (h : ∀ k : α0 → α1 → Prop, (∀ v0 v1, R v0 v1 → k v0 v1) → A k) : ∃ k : α0 → α1 → Prop, (∀ v0 v1, k v0 v1 → R v0 v1) ∧ A k := ⟨R, fun _ _  h => h, h R fun _ _  h => h⟩
theorem yon3 {α0 : Type} {α1 : Type} {α2 : Type} {R : α0 → α1 → α2 → Prop} {A : (α0 → α1 → α2 → Prop) → Prop} (h : ∀ k : α0 → α1 → α2 → Prop, (∀ v0 v1 v2, R v0 v1 v2 → k v0 v1 v2) → A k) : ∃ k : α0 → α1 → α2 → Prop, (∀ v0 v1 v2, k v0 v1 v2 → R v0 v1 v2) ∧ A k := ⟨R, fun _ _ _  h => h, h R fun _ _ _  h => h⟩
theorem yon4 {α0 : Type} {α1 : Type} {α2 : Type} {α3 : Type} {R : α0 → α1 → α2 → α3 → Prop} {A : (α0 → α1 → α2 → α3 → Prop) → Prop} (h : ∀ k : α0 → α1 → α2 → α3 → Prop, (∀ v0 v1 v2 v3, R v0 v1 v2 v3 → k v0 v1 v2 v3) → A k) : ∃ k : α0 → α1 → α2 → α3 → Prop, (∀ v0 v1 v2 v3, k v0 v1 v2 v3 → R v0 v1 v2 v3) ∧ A k := ⟨R, fun _ _ _ _  h => h, h R fun _ _ _ _  h => h⟩
theorem yon5 {α0 : Type} {α1 : Type} {α2 : Type} {α3 : Type} {α4 : Type} {R : α0 → α1 → α2 → α3 → α4 → Prop} {A : (α0 → α1 → α2 → α3 → α4 → Prop) → Prop} (h : ∀ k : α0 → α1 → α2 → α3 → α4 → Prop, (∀ v0 v1 v2 v3 v4, R v0 v1 v2 v3 v4 → k v0 v1 v2 v3 v4) → A k) : ∃ k : α0 → α1 → α2 → α3 → α4 → Prop, (∀ v0 v1 v2 v3 v4, k v0 v1 v2 v3 v4 → R v0 v1 v2 v3 v4) ∧ A k := ⟨R, fun _ _ _ _ _  h => h, h R fun _ _ _ _ _  h => h⟩
theorem yon6 {α0 : Type} {α1 : Type} {α2 : Type} {α3 : Type} {α4 : Type} {α5 : Type} {R : α0 → α1 → α2 → α3 → α4 → α5 → Prop} {A : (α0 → α1 → α2 → α3 → α4 → α5 → Prop) → Prop} (h : ∀ k : α0 → α1 → α2 → α3 → α4 → α5 → Prop, (∀ v0 v1 v2 v3 v4 v5, R v0 v1 v2 v3 v4 v5 → k v0 v1 v2 v3 v4 v5) → A k) : ∃ k : α0 → α1 → α2 → α3 → α4 → α5 → Prop, (∀ v0 v1 v2 v3 v4 v5, k v0 v1 v2 v3 v4 v5 → R v0 v1 v2 v3 v4 v5) ∧ A k := ⟨R, fun _ _ _ _ _ _  h => h, h R fun _ _ _ _ _ _  h => h⟩
theorem yon7 {α0 : Type} {α1 : Type} {α2 : Type} {α3 : Type} {α4 : Type} {α5 : Type} {α6 : Type} {R : α0 → α1 → α2 → α3 → α4 → α5 → α6 → Prop} {A : (α0 → α1 → α2 → α3 → α4 → α5 → α6 → Prop) → Prop} (h : ∀ k : α0 → α1 → α2 → α3 → α4 → α5 → α6 → Prop, (∀ v0 v1 v2 v3 v4 v5 v6, R v0 v1 v2 v3 v4 v5 v6 → k v0 v1 v2 v3 v4 v5 v6) → A k) : ∃ k : α0 → α1 → α2 → α3 → α4 → α5 → α6 → Prop, (∀ v0 v1 v2 v3 v4 v5 v6, k v0 v1 v2 v3 v4 v5 v6 → R v0 v1 v2 v3 v4 v5 v6) ∧ A k := ⟨R, fun _ _ _ _ _ _ _  h => h, h R fun _ _ _ _ _ _ _  h => h⟩
theorem yon8 {α0 : Type} {α1 : Type} {α2 : Type} {α3 : Type} {α4 : Type} {α5 : Type} {α6 : Type} {α7 : Type} {R : α0 → α1 → α2 → α3 → α4 → α5 → α6 → α7 → Prop} {A : (α0 → α1 → α2 → α3 → α4 → α5 → α6 → α7 → Prop) → Prop} (h : ∀ k : α0 → α1 → α2 → α3 → α4 → α5 → α6 → α7 → Prop, (∀ v0 v1 v2 v3 v4 v5 v6 v7, R v0 v1 v2 v3 v4 v5 v6 v7 → k v0 v1 v2 v3 v4 v5 v6 v7) → A k) : ∃ k : α0 → α1 → α2 → α3 → α4 → α5 → α6 → α7 → Prop, (∀ v0 v1 v2 v3 v4 v5 v6 v7, k v0 v1 v2 v3 v4 v5 v6 v7 → R v0 v1 v2 v3 v4 v5 v6 v7) ∧ A k := ⟨R, fun _ _ _ _ _ _ _ _  h => h, h R fun _ _ _ _ _ _ _ _  h => h⟩
theorem apge {w : World} {B b : Nat} (h : ∀ l, Old l w → Ap l [b]) (hB : B ≤ w.heap.size) : B ≤ b := by
  rcases Nat.lt_or_ge b B with hb | hb
  · exact absurd (List.mem_cons_self) (h (List.range B) (fun x hx => Nat.lt_of_lt_of_le (List.mem_range.1 hx) hB) b (List.mem_range.2 hb))
  · exact hb
end Go.Proofs.YtdnahdcjnahfkaaGreatDoor
namespace Go.Proofs.YtdnahdcjnahfkaaGreatDoor
open Go
def PErr.isNo : PErr → Bool
  | .no _ => true
  | _ => false
theorem isNil_eq {e : PErr} (h : e.isNil = true) : e = .nil := by
  cases e with
  | nil => rfl
  | no n => cases h
  | fault p a n => cases h
theorem isNo_eq {e : PErr} (h : e.isNo = true) : ∃ n, e = .no n := by
  cases e with
  | nil => cases h
  | no n => exact ⟨n, rfl⟩
  | fault p a n => cases h
theorem isFault_eq {e : PErr} (h1 : ¬ e.isNil = true) (h2 : ¬ e.isNo = true) : ∃ p a n, e = .fault p a n := by
  cases e with
  | nil => exact absurd rfl h1
  | no n => exact absurd rfl h2
  | fault p a n => exact ⟨p, a, n, rfl⟩
section
variable {tE tP tF : TypeId} {X : List Nat} {w : World} {v : Value}
theorem rErr_inv_nil (h : (rErr tE tP tF).ok X w [v] .nil) : v = .nilIface := by simp only [rErr] at h; injection h
theorem rErr_inv_no {n : Int} (h : (rErr tE tP tF).ok X w [v] (.no n)) : v = .iface tE (.int .i64 n) ∧ inR .i64 n := by obtain ⟨h, hr⟩ := h; injection h with h _; exact ⟨h, hr⟩
theorem rErr_inv_fault {p : ByteArray} {a n : Int} (h : (rErr tE tP tF).ok X w [v] (.fault p a n)) : ∃ b, v = .iface tP (.pointer (some ⟨b, 0, none⟩)) ∧ RO X w b [.string p, .int .i64 a, .iface tE (.int .i64 n)] tF ∧ p.size ≤ maxLen ∧ inR .i64 a ∧ inR .i64 n := by
  obtain ⟨b, h, h1, h2, h3, h4, h5⟩ := h; injection h with h _; exact ⟨b, h, ⟨h1, h2⟩, h3, h4, h5⟩
end
section
variable {P : Program} {ops : Array Oper} {Q : Exit → Act → World → Prop} {n : Nat} {f : Nat → Value} {u : List (Nat × Value)} {w : World} {next : Act → World → Prop}
variable {dst : Option Tmp} {ty : TypeId} {pos : String} {aft : Array Edge} {gd : Option (Nat × Bool)}
/-- A method by its interface: the method of the type that lies behind it is entered. -/
theorem x_invoke {x : Operand} {nm : String} {xs : Array Operand} {tys : Array TypeId} {t : TypeId} {v r : Value} {fid : FuncId} {args : Array Value} (hx : evf n f u x = .iface t v) (hm : ∀ w, (method (P.types.size + Made.depth) t v nm).run P w = .ok (fid, r) w)
    (hc : ∀ (args : Array Value) (w : World), (callFunc fid args).run P w = .ok (.enter fid args) w) (hargs : #[r] ++ xs.map (evf n f u) = args) :
    (execOp (evf n f u) ⟨dst, .call ⟨.invoke x nm, xs, tys⟩, ty, pos, aft, gd⟩).run P w = .ok (.enter fid args) w := by
  subst hargs
  have h1 : (#[Value.iface t v] ++ xs.map (evf n f u)).extract 1 (#[Value.iface t v] ++ xs.map (evf n f u)).size = xs.map (evf n f u) := by
    apply Array.ext'; simp
    exact List.take_of_length_le (by simp)
  simp only [execOp, resolve, hx, invoke, Sem.run_bind, Sem.run_pure, Result.andThen_ok]
  have h0 : (#[Value.iface t v] ++ xs.map (evf n f u))[0]? = some (Value.iface t v) := by rw [Array.getElem?_append_left (by simp)]; rfl
  simp only [h0, h1, callMethod, Sem.run_bind, run_program, Result.andThen_ok, hm, hc]
/-- .. whose text the model holds. -/
theorem x_invext {x : Operand} {nm : String} {xs : Array Operand} {tys : Array TypeId} {t : TypeId} {v r res : Value} {fid : FuncId} {fn : Func} {e : Array Value → Sem Value} (hx : evf n f u x = .iface t v) (hm : ∀ w, (method (P.types.size + Made.depth) t v nm).run P w = .ok (fid, r) w)
    (hf : P.funcs[fid]? = some fn) (h1 : (fn.name == "runtime.NumGoroutine") = false) (h2 : fn.body.isNone = true) (h3 : Extern.findNext fn = none) (h4 : Extern.find fn = some e) (args : Array Value) (hargs : #[r] ++ xs.map (evf n f u) = args) (hr : (e args).run P w = .ok res w) :
    (execOp (evf n f u) ⟨dst, .call ⟨.invoke x nm, xs, tys⟩, ty, pos, aft, gd⟩).run P w = .ok (.value res) w := by
  subst hargs
  have h5 : (#[Value.iface t v] ++ xs.map (evf n f u)).extract 1 (#[Value.iface t v] ++ xs.map (evf n f u)).size = xs.map (evf n f u) := by
    apply Array.ext'; simp
    exact List.take_of_length_le (by simp)
  simp only [execOp, resolve, hx, invoke, Sem.run_bind, Sem.run_pure, Result.andThen_ok]
  have h0 : (#[Value.iface t v] ++ xs.map (evf n f u))[0]? = some (Value.iface t v) := by rw [Array.getElem?_append_left (by simp)]; rfl
  have hcall := run_callFunc_extern hf h1 h2 h3 h4 (#[r] ++ xs.map (evf n f u)) w
  simp only [h0, h5, callMethod, Sem.run_bind, run_program, Result.andThen_ok, hm, hcall, hr]
/-- A call of a function whose text the model holds. -/
theorem x_ext {fid : FuncId} {xs : Array Operand} {tys : Array TypeId} {fn : Func} {e : Array Value → Sem Value} {res : Value} {w' : World} (hf : P.funcs[fid]? = some fn) (h1 : (fn.name == "runtime.NumGoroutine") = false) (h2 : fn.body.isNone = true) (h3 : Extern.findNext fn = none) (h4 : Extern.find fn = some e)
    (args : Array Value) (hargs : xs.map (evf n f u) = args) (hr : (e args).run P w = .ok res w') :
    (execOp (evf n f u) ⟨dst, .call ⟨.value (.func fid), xs, tys⟩, ty, pos, aft, gd⟩).run P w = .ok (.value res) w' := by
  subst hargs
  have hcall := run_callFunc_extern hf h1 h2 h3 h4 (xs.map (evf n f u)) w
  rw [hr] at hcall
  simp only [execOp, resolve, evf, Deferred.ofValue]
  simpa [invoke] using hcall
theorem x_tassert {x : Operand} {xT I t : TypeId} {v r : Value} (hx : evf n f u x = .iface t v) (h : ∀ (v : Value) (xT : TypeId) (w : World), (Instr.typeAssert (.iface t v) xT I true).run P w = .ok (.tuple #[r, .bool false]) w) :
    (execOp (evf n f u) ⟨dst, .typeAssert x xT I true, ty, pos, aft, gd⟩).run P w = .ok (.value (.tuple #[r, .bool false])) w := by
  have := h v xT w
  simp [execOp, hx, this]
theorem x_tasserts {x : Operand} {xT I t : TypeId} {v : Value} (hx : evf n f u x = .iface t v) (h : ∀ (v : Value) (xT : TypeId) (w : World), (Instr.typeAssert (.iface t v) xT I true).run P w = .ok (.tuple #[.iface t v, .bool true]) w) :
    (execOp (evf n f u) ⟨dst, .typeAssert x xT I true, ty, pos, aft, gd⟩).run P w = .ok (.value (.tuple #[.iface t v, .bool true])) w := by
  have := h v xT w
  simp [execOp, hx, this]
theorem x_tassertn {x : Operand} {xT I : TypeId} (hx : evf n f u x = .nilIface) (h : ∀ (w : World), (Instr.typeAssert .nilIface xT I true).run P w = .ok (.tuple #[.nilIface, .bool false]) w) :
    (execOp (evf n f u) ⟨dst, .typeAssert x xT I true, ty, pos, aft, gd⟩).run P w = .ok (.value (.tuple #[.nilIface, .bool false])) w := by
  have := h w
  simp [execOp, hx, this]
/-- Two errors held against each other: of other types; of one type of numbers. -/
theorem x_if_ne {ti t' : TypeId} {ms : Array (String × TypeId)} {x y : Operand} {tx ty' : TypeId} {vx vy : Value} (hi : P.underlying ti = some (.interface ms)) (hx : evf n f u x = .iface tx vx) (hy : evf n f u y = .iface ty' vy) (hne : Nat.beq tx ty' = false) :
    (execOp (evf n f u) ⟨dst, .binOp .eql ti x y t', ty, pos, aft, gd⟩).run P w = .ok (.value (.bool false)) w := by
  have hne' : tx ≠ ty' := fun e => by rw [e, Nat.beq_refl] at hne; cases hne
  simp [execOp, hx, hy, eqGuard, run_eql_iface_types tx ty' vx vy hi hne' w]
theorem x_if_nil {ti t' : TypeId} {ms : Array (String × TypeId)} {x y : Operand} {t : TypeId} {v : Value} (hi : P.underlying ti = some (.interface ms)) (hx : evf n f u x = .nilIface) (hy : evf n f u y = .iface t v) :
    (execOp (evf n f u) ⟨dst, .binOp .eql ti x y t', ty, pos, aft, gd⟩).run P w = .ok (.value (.bool false)) w := by
  have h : ∀ d : Nat, (Op.equalIn (d + 1) ti .nilIface (.iface t v)).run P w = .ok false w := fun d => by simp [Op.equalIn, run_underlying hi]
  have h2 : (Op.equal ti .nilIface (.iface t v)).run P w = .ok false w := by simp only [Op.equal, Op.maxDepth]; exact h 9999
  simp [execOp, hx, hy, eqGuard, binOp, h2]
theorem x_if_num {ti t' tE : TypeId} {ms : Array (String × TypeId)} {x y : Operand} {k : IntKind} {a b : Int} {i : TypeInfo} (hi : P.underlying ti = some (.interface ms)) (hE : P.underlying tE = some (.int k)) (hI : P.info? tE = some i) (hcmp : i.comparable = true)
    (hx : evf n f u x = .iface tE (.int k a)) (hy : evf n f u y = .iface tE (.int k b)) :
    (execOp (evf n f u) ⟨dst, .binOp .eql ti x y t', ty, pos, aft, gd⟩).run P w = .ok (.value (.bool (decide (a = b)))) w := by
  have h : ∀ d : Nat, (Op.equalIn (d + 1 + 1) ti (.iface tE (.int k a)) (.iface tE (.int k b))).run P w = .ok (decide (a = b)) w := fun d => by
    rw [Op.equalIn]
    simp only [Sem.run_bind, run_underlying hi, Result.andThen_ok]
    simp [typeInfo, hI, hcmp, Op.equalIn, run_underlying hE]; rfl
  have h2 : (Op.equal ti (.iface tE (.int k a)) (.iface tE (.int k b))).run P w = .ok (decide (a = b)) w := by simp only [Op.equal, Op.maxDepth]; exact h 9998
  simp [execOp, hx, hy, eqGuard, binOp, h2]
end
/-! a variable of a package, that is only read -/
def GV (X : List Nat) (w : World) (g : Nat) (cs : List Value) : Prop := g ∉ X ∧ ∃ t fr, w.heap[g]? = some (.cells cs.toArray t fr)
section
variable {X X' F : List Nat} {w w' : World} {g : Nat} {cs : List Value}
theorem GV.lt (h : GV X w g cs) : g < w.heap.size := by obtain ⟨_, t, fr, h⟩ := h; exact (Array.getElem?_eq_some_iff.1 h).1
theorem GV.step (h : GV X w g cs) (s : Step X w F X' w') : GV X' w' g cs := by
  have hl := h.lt
  obtain ⟨h1, t, fr, h2⟩ := h
  exact ⟨fun hm => by rcases s.new g hm with h3 | h3; exact h1 h3; omega, t, fr, (s.evo.keep g hl (fun hm => h1 (s.sub g hm))).trans h2⟩
theorem GV.less (h : GV X w g cs) (s : Sub X' X) : GV X' w g cs := ⟨fun hm => h.1 (s g hm), h.2⟩
theorem GV.evo0 (h : GV X w g cs) (e : Evo [] w w') : GV X w' g cs := by
  have hl := h.lt
  obtain ⟨h1, t, fr, h2⟩ := h
  exact ⟨h1, t, fr, (e.keep g hl (fun hm => by cases hm)).trans h2⟩
theorem GV.cell (h : GV X w g cs) (o : Nat) {v : Value} (hv : cs[o]? = some v) : w.cell? ⟨g, o, none⟩ = some v := by
  obtain ⟨_, t, fr, h⟩ := h; simp [World.cell?, h, hv]
theorem GV.of_var {P : Program} {nm : String} {cs : List Value} (hg : P.globalNamed nm = some g) (h : w.var? P nm = some cs.toArray) : GV [] w g cs := by
  unfold World.var? at h
  rw [hg] at h
  simp only [Option.bind_some] at h
  split at h
  · rename_i c t fr hk
    injection h with h
    exact ⟨fun h => (by cases h), t, fr, by rw [← h]; exact hk⟩
  · cases h
theorem GV.var {P : Program} {nm : String} (hg : P.globalNamed nm = some g) (h : GV X w g cs) : w.var? P nm = some cs.toArray := by
  obtain ⟨_, t, fr, h⟩ := h
  unfold World.var?
  rw [hg]
  simp only [Option.bind_some]
  rw [h]
end
end Go.Proofs.YtdnahdcjnahfkaaGreatDoor
namespace Go.Proofs.YtdnahdcjnahfkaaGreatDoor
open Go
/-- a pointer to the block itself, or none -/
def oSelf (b : Nat) : Obj Bool where
  ok F _ _ cs d := F = [] ∧ cs = [cond d (.pointer (some ⟨b, 0, none⟩)) (.pointer none)]
  step h _ _ := h
  mem h := by rw [h.1]; exact Sub.nil _
  old h := by rw [h.1]; exact Old.nil _
  less h _ _ := h
theorem oSelf_mk {b : Nat} {X : List Nat} {w : World} {d : Bool} : (oSelf b).ok [] X w [cond d (.pointer (some ⟨b, 0, none⟩)) (.pointer none)] d := ⟨rfl, rfl⟩
section
variable {P : Program} {ops : Array Oper} {Q : Exit → Act → World → Prop} {n : Nat} {f : Nat → Value} {u : List (Nat × Value)} {w : World} {next : Act → World → Prop}
variable {dst : Option Tmp} {ty : TypeId} {pos : String} {aft : Array Edge} {gd : Option (Nat × Bool)}
theorem x_self_eq {t t' : TypeId} {x y : Operand} {e : TypeId} {b : Nat} {d : Bool} (ht : P.underlying t = some (.pointer e)) (hx : evf n f u x = cond d (.pointer (some ⟨b, 0, none⟩)) (.pointer none)) (hy : evf n f u y = .pointer none) :
    (execOp (evf n f u) ⟨dst, .binOp .eql t x y t', ty, pos, aft, gd⟩).run P w = .ok (.value (.bool (!d))) w := by
  cases d with
  | true => exact x_pnil_eq ht hx hy
  | false =>
    have hx : evf n f u x = .pointer none := hx
    have h : ∀ d : Nat, (Op.equalIn (d + 1) t (.pointer none) (.pointer none)).run P w = .ok true w := fun d => by simp [Op.equalIn, run_underlying ht]
    have h2 : (Op.equal t (.pointer none) (.pointer none)).run P w = .ok true w := by simp only [Op.equal, Op.maxDepth]; exact h 9999
    simp [execOp, hx, hy, eqGuard, binOp, h2]
theorem x_self_ne {t t' : TypeId} {x y : Operand} {e : TypeId} {b : Nat} {d : Bool} {j : TypeInfo} (ht : P.underlying t = some (.pointer e)) (he : P.info? e = some j) (hx : evf n f u x = cond d (.pointer (some ⟨b, 0, none⟩)) (.pointer none)) (hy : evf n f u y = .pointer (some ⟨b, 0, none⟩)) :
    (execOp (evf n f u) ⟨dst, .binOp .neq t x y t', ty, pos, aft, gd⟩).run P w = .ok (.value (.bool (!d))) w := by
  cases d with
  | true =>
    have hx : evf n f u x = .pointer (some ⟨b, 0, none⟩) := hx
    simp [execOp, hx, hy, eqGuard, Lib.run_neq_ptr_same w ⟨b, 0, none⟩ ht he]
  | false =>
    have hx : evf n f u x = .pointer none := hx
    have h : ∀ d : Nat, (Op.equalIn (d + 1) t (.pointer none) (.pointer (some ⟨b, 0, none⟩))).run P w = .ok false w := fun d => by simp [Op.equalIn, run_underlying ht]
    have h2 : (Op.equal t (.pointer none) (.pointer (some ⟨b, 0, none⟩))).run P w = .ok false w := by simp only [Op.equal, Op.maxDepth]; exact h 9999
    simp [execOp, hx, hy, eqGuard, binOp, h2]
theorem Blk.shape {b : Nat} {cs : List Value} {t : TypeId} (h : Blk w b cs t) : w.shape? b = some (t, cs.length) := by
  unfold World.shape?; rw [h]; simp
theorem x_tounsafe {s d t bt : TypeId} {x : Operand} {b : Nat} {cs : List Value} {j : TypeInfo} (hk : Blk w b cs bt) (hpos : Nat.blt 0 cs.length = true) (hs : P.underlying s = some (.pointer t)) (hd : P.underlying d = some .unsafePointer) (ht : P.info? t = some j) (hj : Nat.beq j.size 0 = false)
    (hx : evf n f u x = .pointer (some ⟨b, 0, none⟩)) : (execOp (evf n f u) ⟨dst, .convert s d x, ty, pos, aft, gd⟩).run P w = .ok (.value (.pointer (some ⟨b, 0, none⟩))) w := by
  have hj' : j.size ≠ 0 := fun e => by rw [e] at hj; cases hj
  have := Lib.run_to_unsafe w (src := s) (dst := d) (t := t) (e := bt) (cells := cs.length) ⟨b, 0, none⟩ hs hd ht hj' hk.shape (blt_lt hpos)
  simp [execOp, hx, this]
theorem x_fromunsafe {s d t bt : TypeId} {x : Operand} {b : Nat} {cs : List Value} {j : TypeInfo} (hk : Blk w b cs bt) (hs : P.underlying s = some .unsafePointer) (hd : P.underlying d = some (.pointer t)) (ht : P.info? t = some j) (hl : liesAt P P.depth bt (cs.length / P.cellsOf bt) 0 t 1 = true)
    (hx : evf n f u x = .pointer (some ⟨b, 0, none⟩)) : (execOp (evf n f u) ⟨dst, .convert s d x, ty, pos, aft, gd⟩).run P w = .ok (.value (.pointer (some ⟨b, 0, none⟩))) w := by
  have := Lib.run_from_unsafe w (src := s) (dst := d) (u := t) (e := bt) (cells := cs.length) ⟨b, 0, none⟩ hs hd ht hk.shape hl
  simp [execOp, hx, this]
/-- Where a slice of ours has its data. -/
theorem o_sdata {X G : List Nat} {B : Nat} {t et e : TypeId} {x : Operand} {a : Option Addr} {n1 c : Nat} {L : List Int} (hg : Region.wanted ⟨dst, .call ⟨.builtin .unsafeSliceData, #[x], #[t]⟩, ty, pos, aft, gd⟩ (yielded ops (Fr n f u).tmps) = true)
    (hty : P.underlying ty = some (.pointer e)) (hO : OS (rInt .u8) G B X w et a n1 c L) (hx : evf n f u x = .slice a n1 c)
    (h : ∀ p w', Step X w [] X w' → (L = [] ∨ p = a) → next (Fr n f (pusho dst (.pointer p) u)) w') : OpW P ops Q ⟨dst, .call ⟨.builtin .unsafeSliceData, #[x], #[t]⟩, ty, pos, aft, gd⟩ n f u w next := by
  have hex : (execOp (evf n f u) ⟨dst, .call ⟨.builtin .unsafeSliceData, #[x], #[t]⟩, ty, pos, aft, gd⟩).run P w = ((Builtin.unsafeSliceData_ #[t] ty #[.slice a n1 c]).run P w).andThen fun v w' => .ok (.value v) w' := by
    unfold execOp
    simp only [resolve, invoke, builtin, Sem.run_bind, Sem.run_pure, Result.andThen_ok, List.map_toArray, List.map_cons, List.map_nil, hx]
  have h0 := Step.of0 X (RB.refl w.heap.size [] w)
  obtain ⟨rfl, ⟨_, _, xs, ho, hf⟩, _⟩ := hO
  rcases ho.2 with ⟨hv, hz⟩ | ⟨g, cap, cur, hv, _, hg', hnc, _, hcs, _⟩
  · injection hv with e1 e2 e3; subst e1; subst e3
    refine o_val (w' := w) _ hg (by rw [hex, Lib.run_unsafeSliceData_nil]; rfl) (h none w h0 (.inr rfl))
  · injection hv with e1 e2 e3; subst e1; subst e3
    by_cases hc : c = 0
    · subst hc
      have hL : L = [] := List.eq_nil_of_length_eq_zero (by omega)
      have hsh : w.shape? g = some (et, cur.size) := by unfold World.shape?; rw [hg']
      refine o_val (w' := w.alloc (.view ⟨g, 0, none⟩ e)) _ hg (by rw [hex, Lib.run_unsafeSliceData_zero w #[t] ty e hty ⟨g, 0, none⟩ L.length _ hsh]; rfl) (h _ _ (Step.of0 X (Evo.alloc w _)) (.inl hL))
    · refine o_val (w' := w) _ hg (by rw [hex, Lib.run_unsafeSliceData_row w #[t] ty ⟨g, 0, none⟩ L.length c hc]; rfl) (h _ w h0 (.inr rfl))
theorem freeze_evo (w : World) (b : Nat) (k : Nat) : Evo [b] w (w.freeze ⟨b, 0, none⟩ k) := by
  unfold World.freeze
  split
  · exact RB.refl _ _ _
  · refine ⟨rfl, rfl, rfl, by simp, fun x _ hk => ?_⟩
    have : ¬ b = x := fun e => hk (by simp [e])
    simp [Array.getElem?_modify, this]
/-- .. taken as a text: nobody writes it from there on. -/
theorem o_ustr {X G : List Nat} {B : Nat} {t ti et : TypeId} {x y : Operand} {a p : Option Addr} {n1 c : Nat} {L : List Int} (hg : Region.wanted ⟨dst, .call ⟨.builtin .unsafeString, #[x, y], #[t, ti]⟩, ty, pos, aft, gd⟩ (yielded ops (Fr n f u).tmps) = true)
    (ht : P.underlying t = some (.pointer et)) (hc : P.cellsOf et = 1) (hO : OS (rInt .u8) G B X w et a n1 c L) (hp : L = [] ∨ p = a) (hx : evf n f u x = .pointer p) (hy : evf n f u y = .int .i64 (L.length : Int))
    (h : ∀ w', Step X w (blkL a) X w' → next (Fr n f (pusho dst (.string (strOfNums L)) u)) w') : OpW P ops Q ⟨dst, .call ⟨.builtin .unsafeString, #[x, y], #[t, ti]⟩, ty, pos, aft, gd⟩ n f u w next := by
  have hex : (execOp (evf n f u) ⟨dst, .call ⟨.builtin .unsafeString, #[x, y], #[t, ti]⟩, ty, pos, aft, gd⟩).run P w = ((Builtin.unsafeString_ #[t, ti] ty #[.pointer p, .int .i64 (L.length : Int)]).run P w).andThen fun v w' => .ok (.value v) w' := by
    unfold execOp
    simp only [resolve, invoke, builtin, Sem.run_bind, Sem.run_pure, Result.andThen_ok, List.map_toArray, List.map_cons, List.map_nil, hx, hy]
  have hS := hO.rd
  obtain ⟨rfl, ⟨_, hmem, xs, ho, hf⟩, _⟩ := hO
  by_cases hL : L = []
  · subst hL
    refine o_val (w' := w) _ hg ?_ (h w ⟨RB.refl _ _ _, hmem, Sub.refl _, fun _ h => .inl h⟩)
    have h0 : (([] : List Int).length : Int) = 0 := rfl
    rw [hex, h0, Lib.run_unsafeString_none]; rfl
  · rcases ho.2 with ⟨_, hz⟩ | ⟨g, cap, cur, hv, _, hg', hnc, hcm, hcs, htake⟩
    · exact absurd (List.eq_nil_of_length_eq_zero hz) hL
    injection hv with e1 e2 e3; subst e1; subst e3
    obtain rfl := hp.resolve_left hL
    have hsh : w.shape? g = some (et, cur.size) := by unfold World.shape?; rw [hg']
    have hu := Sl.u8s hS
    have hcur : cur.size = c := by have h1 : (rInt .u8).n = 1 := rfl; rw [h1] at hcs; omega
    have hlen : (L.map fun z => UInt8.ofNat z.toNat).length = L.length := List.length_map _
    have hr := Lib.run_unsafeString_row (P := P) w t ti ty et ht hc g cur.size hsh (L.map fun z => UInt8.ofNat z.toNat) (by simpa using hL) (by rw [hlen]; omega) (by rw [hlen]; exact hS.len) (fun j v hj => by
      have hx2 := Flat.u8 hf
      rw [List.getElem?_map] at hj
      cases hk : L[j]? with
      | none => rw [hk] at hj; cases hj
      | some z =>
        rw [hk] at hj; injection hj with hj
        have hz := hu z (List.mem_of_getElem? hk)
        rw [inR_u8] at hz
        have hcell := ho.cells (g := g) rfl j (.int .u8 z) (by rw [hx2, List.getElem?_map, hk]; rfl)
        rw [hcell, ← hj]
        congr 2
        simp only [UInt8.toNat_ofNat']
        omega)
    rw [hlen] at hr
    refine o_val (w' := w.freeze ⟨g, 0, none⟩ L.length) _ hg (by rw [hex, hr]; rfl) (h _ (Step.one (freeze_evo w g L.length) (hmem g (by simp [blkL]))))
/-! values that are asked for their types -/
open Go.Extern
theorem rlm_ (z : Sem Value) (f : TypeId → Addr → Nat → Nat → Sem Value) (v : Value) : ReflectliteValue.method z f #[v] = (do match ← ReflectliteValue.parts v with | none => z | some (t, a, fl) => f t a fl (fl % 32)) := rfl
theorem run_visnil {t e : TypeId} {W : World} {H : Value} {a p : Addr} {z : Sem Value} (hu : P.underlying t = some (.pointer e)) (hp : ∀ w, (ReflectliteValue.parts (.agg #[H, .pointer (some a), .int .u64 150])).run P w = .ok (some (t, a, 150)) w) (ha : W.cell? a = some (.pointer (some p))) :
    (ReflectliteValue.method z ReflectliteValue.isNil #[.agg #[H, .pointer (some a), .int .u64 150]]).run P W = .ok (.bool false) W := by
  rw [rlm_]
  simp only [Sem.run_bind, hp, Result.andThen]
  simp [ReflectliteValue.isNil, loadVar, isAgg, underlying, hu, ha, Result.andThen]
theorem run_velem {t e : TypeId} {W : World} {H H' : Value} {a p : Addr} {z : Sem Value} (hu : P.underlying t = some (.pointer e)) (hp : ∀ w, (ReflectliteValue.parts (.agg #[H, .pointer (some a), .int .u64 150])).run P w = .ok (some (t, a, 150)) w) (ha : W.cell? a = some (.pointer (some p)))
    (he : ∀ w, (Rtype.elem? t).run P w = .ok (some e) w) (hm : ∀ w, (ReflectliteValue.mk e p ReflectliteValue.flagAddr).run P w = .ok (.agg #[H', .pointer (some p), .int .u64 406]) w) :
    (ReflectliteValue.method z ReflectliteValue.elem #[.agg #[H, .pointer (some a), .int .u64 150]]).run P W = .ok (.agg #[H', .pointer (some p), .int .u64 406]) W := by
  rw [rlm_]
  simp only [Sem.run_bind, hp, Result.andThen]
  simp [ReflectliteValue.elem, loadVar, isAgg, underlying, hu, ha, Result.andThen, he, hm]
theorem rls_ (v x : Value) : ReflectliteValue.set #[v, x] = (do
    let (some (dst, a, fl), some (src, b, _)) := (← ReflectliteValue.parts v, ← ReflectliteValue.parts x)
      | unsupported (.noEntry "extern/(internal/reflectlite.Value).Set.zeroValue")
    if fl / ReflectliteValue.flagAddr % 2 == 0 then unsupported (.noEntry "extern/(internal/reflectlite.Value).Set.unaddressable")
    let val ← loadVar src b
    if ← Rtype.directlyAssignable dst src then storeVar dst a val
    else if ← Rtype.implements dst src then
      if (← Rtype.kind src) == 20 then
        match val with
        | .nilIface => unsupported (.noEntry "extern/reflectlite: a nil value of one interface type handed on as a value of another")
        | _ => storeVar dst a val
      else storeVar dst a (.iface src val)
    else panicString ("reflectlite.Set: value of type " ++ (← Rtype.spelt src) ++ " is not assignable to type " ++ (← Rtype.spelt dst))
    pure (.tuple #[])) := rfl
/-- A call of a function whose text the model holds, as far as that text. -/
theorem x_extr {fid : FuncId} {xs : Array Operand} {tys : Array TypeId} {fn : Func} {e : Array Value → Sem Value} (hf : P.funcs[fid]? = some fn) (h1 : (fn.name == "runtime.NumGoroutine") = false) (h2 : fn.body.isNone = true) (h3 : Extern.findNext fn = none) (h4 : Extern.find fn = some e)
    (args : Array Value) (hargs : xs.map (evf n f u) = args) : (execOp (evf n f u) ⟨dst, .call ⟨.value (.func fid), xs, tys⟩, ty, pos, aft, gd⟩).run P w = ((e args).run P w).andThen fun v w' => .ok (.value v) w' := by
  subst hargs
  have hcall := run_callFunc_extern hf h1 h2 h3 h4 (xs.map (evf n f u)) w
  simp only [execOp, resolve, evf, Deferred.ofValue]
  simpa [invoke] using hcall
/-- What an interface holds, in a block of its own. -/
theorem o_valof {op : Op} {X : List Nat} {B : Nat} {t : TypeId} {v H : Value} {k : Int} (hB : B ≤ w.heap.size) (hg : Region.wanted ⟨dst, op, ty, pos, aft, gd⟩ (yielded ops (Fr n f u).tmps) = true)
    (hr : (execOp (evf n f u) ⟨dst, op, ty, pos, aft, gd⟩).run P w = .ok (.value (.agg #[H, .pointer (some ⟨w.heap.size, 0, none⟩), .int .u64 k])) (w.alloc (.cells #[v] t)))
    (h : ∀ b w' X', Step X w [] X' w' → OB [] B X' w' b [v] t → (∀ l, Old l w → Ap l [b]) → next (Fr n f (pusho dst (.agg #[H, .pointer (some ⟨b, 0, none⟩), .int .u64 k]) u)) w') : OpW P ops Q ⟨dst, op, ty, pos, aft, gd⟩ n f u w next := by
  obtain ⟨s, o, p⟩ := ob_new (X := X) (cs := [v]) (t := t) hB rfl (Evo.alloc w _) (by have := Blk.new w #[v] t; simpa using this)
  exact o_val _ hg hr (h _ _ _ s o p)
/-- What a value that was asked for its type points to is turned. -/
theorem o_vset {op : Op} {X G : List Nat} {B b b2 : Nat} {t e bt : TypeId} {p : Addr} {old H : Value} (hg : Region.wanted ⟨dst, op, ty, pos, aft, gd⟩ (yielded ops (Fr n f u).tmps) = true)
    (hO : OB G B X w b [old] bt) (hc : w.cell? ⟨b2, 0, none⟩ = some (.pointer (some p))) (hu : P.underlying t = some (.pointer e)) (hs : ∀ w, (sizeOf t).run P w = .ok 1 w)
    (hp1 : ∀ w, (ReflectliteValue.parts (.agg #[H, .pointer (some ⟨b, 0, none⟩), .int .u64 406])).run P w = .ok (some (t, ⟨b, 0, none⟩, 406)) w)
    (hp2 : ∀ w, (ReflectliteValue.parts (.agg #[H, .pointer (some ⟨b2, 0, none⟩), .int .u64 150])).run P w = .ok (some (t, ⟨b2, 0, none⟩, 150)) w)
    (hd : ∀ w, (Rtype.directlyAssignable t t).run P w = .ok true w)
    (hex : (execOp (evf n f u) ⟨dst, op, ty, pos, aft, gd⟩).run P w = ((ReflectliteValue.set #[.agg #[H, .pointer (some ⟨b, 0, none⟩), .int .u64 406], .agg #[H, .pointer (some ⟨b2, 0, none⟩), .int .u64 150]]).run P w).andThen fun v w' => .ok (.value v) w')
    (h : ∀ w', Step X w [b] X w' → OB G B X w' b [.pointer (some p)] bt → next (Fr n f (pusho dst (.tuple #[]) u)) w') : OpW P ops Q ⟨dst, op, ty, pos, aft, gd⟩ n f u w next := by
  have hst := run_storeCells_at (P := P) b 0 bt [.pointer (some p)] 0 #[old] w hO.2.1 (by simp) (fun u hu => by simp at hu; subst hu; rfl)
  have hrun : (ReflectliteValue.set #[.agg #[H, .pointer (some ⟨b, 0, none⟩), .int .u64 406], .agg #[H, .pointer (some ⟨b2, 0, none⟩), .int .u64 150]]).run P w = .ok (.tuple #[]) (w.setRow b #[.pointer (some p)]) := by
    rw [rls_]
    simp only [Sem.run_bind, hp1, hp2, Result.andThen]
    simp at hst
    simp [ReflectliteValue.flagAddr, loadVar, isAgg, underlying, hu, hc, Result.andThen, hd, storeVar, hs, Value.cells, hst]
  have he : Evo [b] w (w.setRow b #[.pointer (some p)]) := ⟨rfl, rfl, rfl, by simp, fun k _ hk => setRow_other w b k _ (fun e => hk (by simp [e]))⟩
  refine o_val (w' := w.setRow b #[.pointer (some p)]) _ hg (by rw [hex, hrun]; rfl) (h _ (Step.one he hO.1) ⟨hO.1, setRow_heap w b _ _ _ _ hO.2.1, hO.2.2⟩)
theorem x_ptro_eq {α : Type} {R : Rep α} {et : TypeId} {X : List Nat} {v : Value} {pd : Option α} {t t' : TypeId} {x y : Operand} {e : TypeId} (hr : (rPtrO R et).ok X w [v] pd) (ht : P.underlying t = some (.pointer e)) (hx : evf n f u x = v) (hy : evf n f u y = .pointer none) :
    (execOp (evf n f u) ⟨dst, .binOp .eql t x y t', ty, pos, aft, gd⟩).run P w = .ok (.value (.bool pd.isNone)) w := by
  cases pd with
  | none =>
    have h : ([v] : List Value) = [.pointer none] := hr
    injection h with h _; subst h
    exact x_self_eq (b := 0) (d := false) ht hx hy
  | some d =>
    obtain ⟨b, cs, h, _, _, _⟩ := hr
    injection h with h _; subst h
    exact x_pnil_eq ht hx hy
theorem x_ptro_ne {α : Type} {R : Rep α} {et : TypeId} {X : List Nat} {v : Value} {pd : Option α} {t t' : TypeId} {x y : Operand} {e : TypeId} (hr : (rPtrO R et).ok X w [v] pd) (ht : P.underlying t = some (.pointer e)) (hx : evf n f u x = v) (hy : evf n f u y = .pointer none) :
    (execOp (evf n f u) ⟨dst, .binOp .neq t x y t', ty, pos, aft, gd⟩).run P w = .ok (.value (.bool (!pd.isNone))) w := by
  cases pd with
  | none =>
    have h : ([v] : List Value) = [.pointer none] := hr
    injection h with h _; subst h
    have h : ∀ d : Nat, (Op.equalIn (d + 1) t (.pointer none) (.pointer none)).run P w = .ok true w := fun d => by simp [Op.equalIn, run_underlying ht]
    have h2 : (Op.equal t (.pointer none) (.pointer none)).run P w = .ok true w := by simp only [Op.equal, Op.maxDepth]; exact h 9999
    simp [execOp, hx, hy, eqGuard, binOp, h2]
  | some d =>
    obtain ⟨b, cs, h, _, _, _⟩ := hr
    injection h with h _; subst h
    exact x_pnil_ne ht hx hy
end
end Go.Proofs.YtdnahdcjnahfkaaGreatDoor
namespace Go.Proofs.YtdnahdcjnahfkaaGreatDoor
open Go
/-! plain -/
def mlook {α : Type} : List (ByteArray × α) → ByteArray → Option α
  | [], _ => none
  | p :: r, k => if p.1 = k then some p.2 else mlook r k
def mhas {α : Type} (L : List (ByteArray × α)) (k : ByteArray) : Bool := (mlook L k).isSome
def mgetD {α : Type} [Inhabited α] (L : List (ByteArray × α)) (k : ByteArray) : α := (mlook L k).getD default
def mset {α : Type} : List (ByteArray × α) → ByteArray → α → List (ByteArray × α)
  | [], k, v => [(k, v)]
  | p :: r, k, v => if p.1 = k then (k, v) :: r else p :: mset r k v
def mdel {α : Type} : List (ByteArray × α) → ByteArray → List (ByteArray × α)
  | [], _ => []
  | p :: r, k => if p.1 = k then r else p :: mdel r k
/-! in memory -/
def vcell (ag : Bool) (cs : List Value) : Value := match ag with | true => .agg cs.toArray | false => cs.headD undef
section
variable {α : Type} (R : Rep α) (ag : Bool) (X : List Nat) (w : World)
def EntOK (e : MapEntry) (p : ByteArray × α) : Prop := e.key = .string p.1 ∧ p.1.size ≤ maxLen ∧ ∃ cs, e.val = vcell ag cs ∧ R.ok X w cs p.2
def EntsOK : List MapEntry → List (ByteArray × α) → Prop
  | [], L => L = []
  | e :: es, L => ∃ p r, L = p :: r ∧ EntOK R ag X w e p ∧ EntsOK es r
def Borns (es : List MapEntry) (clk : Nat) : Prop := (es.map (·.born)).Pairwise (· < ·) ∧ ∀ e ∈ es, e.born < clk
def MapAt (r : Nat) (L : List (ByteArray × α)) : Prop := ∃ es clk, w.heap[r]? = some (.map es clk) ∧ EntsOK R ag X w es.toList L ∧ Borns es.toList clk
end
section
variable {α : Type} {R : Rep α} {ag : Bool} {X X' F G : List Nat} {w w' : World} {r B : Nat} {L : List (ByteArray × α)}
theorem EntOK.step {e : MapEntry} {p : ByteArray × α} (h : EntOK R ag X w e p) (s : Step X w F X' w') : EntOK R ag X' w' e p := by
  obtain ⟨h1, h2, cs, h3, h4⟩ := h; exact ⟨h1, h2, cs, h3, R.step h4 s⟩
theorem EntOK.less {e : MapEntry} {p : ByteArray × α} (h : EntOK R ag X w e p) (s : Sub X' X) : EntOK R ag X' w e p := by
  obtain ⟨h1, h2, cs, h3, h4⟩ := h; exact ⟨h1, h2, cs, h3, R.less h4 s⟩
theorem EntsOK.step (s : Step X w F X' w') : ∀ {es : List MapEntry} {L : List (ByteArray × α)}, EntsOK R ag X w es L → EntsOK R ag X' w' es L
  | [], _, h => h
  | _ :: _, _, ⟨p, r, e, h1, h2⟩ => ⟨p, r, e, h1.step s, EntsOK.step s h2⟩
theorem EntsOK.less (s : Sub X' X) : ∀ {es : List MapEntry} {L : List (ByteArray × α)}, EntsOK R ag X w es L → EntsOK R ag X' w es L
  | [], _, h => h
  | _ :: _, _, ⟨p, r, e, h1, h2⟩ => ⟨p, r, e, h1.less s, EntsOK.less s h2⟩
theorem EntsOK.length : ∀ {es : List MapEntry} {L : List (ByteArray × α)}, EntsOK R ag X w es L → es.length = L.length
  | [], _, h => by rw [show _ = [] from h]; rfl
  | _ :: _, _, ⟨p, r, e, h1, h2⟩ => by rw [e]; simp [EntsOK.length h2]
theorem EntsOK.snoc {e' : MapEntry} {p' : ByteArray × α} (h' : EntOK R ag X w e' p') : ∀ {es : List MapEntry} {L : List (ByteArray × α)}, EntsOK R ag X w es L → EntsOK R ag X w (es ++ [e']) (L ++ [p'])
  | [], _, h => by rw [show _ = [] from h]; exact ⟨p', [], rfl, h', rfl⟩
  | _ :: _, _, ⟨p, r, e, h1, h2⟩ => by rw [e]; exact ⟨p, r ++ [p'], rfl, h1, EntsOK.snoc h' h2⟩
theorem MapAt.step (h : MapAt R ag X w r L) (s : Step X w F X' w') (hr : r ∉ F) : MapAt R ag X' w' r L := by
  obtain ⟨es, clk, hb, he, hc⟩ := h
  refine ⟨es, clk, ?_, he.step s, hc⟩
  rw [s.evo.keep r (Array.getElem?_eq_some_iff.1 hb).1 hr]; exact hb
theorem MapAt.lt (h : MapAt R ag X w r L) : r < w.heap.size := by obtain ⟨es, clk, hb, _⟩ := h; exact (Array.getElem?_eq_some_iff.1 hb).1
theorem MapAt.less (h : MapAt R ag X w r L) (s : Sub X' X) : MapAt R ag X' w r L := by obtain ⟨es, clk, hb, he, hc⟩ := h; exact ⟨es, clk, hb, he.less s, hc⟩
/-- A map of ours. -/
def OM {α : Type} (R : Rep α) (ag : Bool) (G : List Nat) (B : Nat) (X : List Nat) (w : World) (r : Nat) (L : List (ByteArray × α)) : Prop := r ∈ X ∧ MapAt R ag X w r L ∧ Wr G B [r]
theorem OM.step (h : OM R ag G B X w r L) (s : Step X w F X' w') (p : Ap [r] F) : OM R ag G B X' w' r L := ⟨s.up r h.1, h.2.1.step s (p r (by simp)), h.2.2⟩
theorem OM.step0 (h : OM R ag G B X w r L) (s : Step X w [] X' w') : OM R ag G B X' w' r L := h.step s (Ap.nil_r _)
theorem OM.old (h : OM R ag G B X w r L) : Old [r] w := fun x hx => by simp at hx; subst hx; exact h.2.1.lt
theorem OM.mem (h : OM R ag G B X w r L) : Sub [r] X := fun x hx => by simp at hx; subst hx; exact h.1
theorem OM.less (h : OM R ag G B X w r L) (s : Sub X' X) (m : Sub [r] X') : OM R ag G B X' w r L := ⟨m r (by simp), h.2.1.less s, h.2.2⟩
theorem OM.wr (h : OM R ag G B X w r L) : Wr G B [r] := h.2.2
theorem OM.re {H : List Nat} {B' : Nat} (h : OM R ag G B X w r L) (k : Wr H B' [r]) : OM R ag H B' X w r L := ⟨h.1, h.2.1, k⟩
end
/-- .. as a part of an object. -/
def oMp {α : Type} (R : Rep α) (ag : Bool) : Obj (List (ByteArray × α)) where
  ok F X w cs d := ∃ r, cs = [.map (some r)] ∧ F = [r] ∧ r ∈ X ∧ MapAt R ag X w r d
  step := by rintro F X w cs d G X' w' ⟨r, rfl, rfl, hr, h⟩ s p; exact ⟨r, rfl, rfl, s.up r hr, h.step s (p r (by simp))⟩
  mem := by rintro F X w cs d ⟨r, rfl, rfl, hr, h⟩; exact fun x hx => by simp at hx; subst hx; exact hr
  old := by rintro F X w cs d ⟨r, rfl, rfl, hr, h⟩; exact fun x hx => by simp at hx; subst hx; exact h.lt
  less := by rintro F X w cs d X' ⟨r, rfl, rfl, hr, h⟩ s m; exact ⟨r, rfl, rfl, m r (by simp), h.less s⟩
theorem oMp_mk {α : Type} {R : Rep α} {ag : Bool} {X G : List Nat} {w : World} {r B : Nat} {L : List (ByteArray × α)} (h : OM R ag G B X w r L) : (oMp R ag).ok [r] X w [.map (some r)] L := ⟨r, rfl, rfl, h.1, h.2.1⟩
theorem ba_beq (a b : ByteArray) : (a == b) = decide (a = b) := by
  cases a with | mk x => cases b with | mk y =>
  show (x == y) = _
  by_cases h : x = y
  · subst h; simp
  · have h2 : ¬ (ByteArray.mk x = ByteArray.mk y) := fun e => h (by injection e)
    rw [decide_eq_false h2]; simpa using h
/-! looking for a key -/
section
variable {α : Type} {R : Rep α} {ag : Bool} {X : List Nat} {w : World}
theorem findNow_cons {k : ByteArray} {e : MapEntry} {p : ByteArray × α} {es : List MapEntry} {i : Nat} (h : EntOK R ag X w e p) :
    Instr.findNow .string (.string k) (e :: es) i = if p.1 = k then some (some (i, e.val)) else Instr.findNow .string (.string k) es (i + 1) := by
  obtain ⟨h1, _, _⟩ := h
  have hs : Instr.sameNow .string (.string k) e.key = some (k == p.1) := by rw [h1]; rfl
  show (match Instr.sameNow .string (.string k) e.key with | some true => some (some (i, e.val)) | some false => Instr.findNow .string (.string k) es (i + 1) | none => none) = _
  rw [hs]
  by_cases hk : p.1 = k
  · have : (k == p.1) = true := by rw [ba_beq, decide_eq_true hk.symm]
    rw [this, if_pos hk]
  · have : (k == p.1) = false := by rw [ba_beq, decide_eq_false (fun h => hk h.symm)]
    rw [this, if_neg hk]
theorem findNow_ok (k : ByteArray) : ∀ {es : List MapEntry} {L : List (ByteArray × α)} (i : Nat), EntsOK R ag X w es L →
    (mlook L k = none ∧ Instr.findNow .string (.string k) es i = some none ∧ (∀ v, mset L k v = L ++ [(k, v)]) ∧ mdel L k = L) ∨
    ∃ (v : α) (j : Nat) (e : MapEntry), mlook L k = some v ∧ Instr.findNow .string (.string k) es i = some (some (i + j, e.val)) ∧ es[j]? = some e ∧ EntOK R ag X w e (k, v) ∧
      (∀ (v' : α) (e' : MapEntry), EntOK R ag X w e' (k, v') → EntsOK R ag X w (es.set j e') (mset L k v')) ∧ EntsOK R ag X w (es.eraseIdx j) (mdel L k)
  | [], L, i, h => by
    obtain rfl : L = [] := h
    exact .inl ⟨rfl, rfl, fun _ => rfl, rfl⟩
  | e :: es, L, i, h => by
    obtain ⟨p, r, rfl, h1, h2⟩ := h
    rw [findNow_cons h1]
    by_cases hk : p.1 = k
    · refine .inr ⟨p.2, 0, e, by simp [mlook, hk], by rw [if_pos hk]; rfl, rfl, by rw [← hk]; exact h1, fun v' e' h' => ?_, ?_⟩
      · simp only [mset, if_pos hk, List.set_cons_zero]; exact ⟨_, _, rfl, h', h2⟩
      · simp only [mdel, if_pos hk, List.eraseIdx_cons_zero]; exact h2
    · rw [if_neg hk]
      rcases findNow_ok k (i + 1) h2 with ⟨h3, h4, h5, h6⟩ | ⟨v, j, e0, h3, h4, h5, h6, h7, h8⟩
      · refine .inl ⟨by simp [mlook, hk, h3], h4, fun v => by simp [mset, hk, h5], by simp [mdel, hk, h6]⟩
      · refine .inr ⟨v, j + 1, e0, by simp [mlook, hk, h3], by rw [h4]; congr 3; omega, by simpa using h5, h6, fun v' e' h' => ?_, ?_⟩
        · simp only [mset, if_neg hk, List.set_cons_succ]; exact ⟨_, _, rfl, h1, h7 v' e' h'⟩
        · simp only [mdel, if_neg hk, List.eraseIdx_cons_succ]; exact ⟨_, _, rfl, h1, h8⟩
theorem Borns.set {es : List MapEntry} {clk j : Nat} {e e' : MapEntry} (h : Borns es clk) (hj : es[j]? = some e) (hb : e'.born = e.born) : Borns (es.set j e') clk := by
  have hm : (es.set j e').map (·.born) = es.map (·.born) := by
    rw [List.map_set, hb]
    have : (es.map (·.born))[j]? = some e.born := by rw [List.getElem?_map, hj]; rfl
    apply List.ext_getElem?
    intro i
    rw [List.getElem?_set]
    split
    · rename_i hij; subst hij; split
      · exact this.symm
      · rename_i hlt; rw [List.getElem?_eq_none (by omega)] at this; cases this
    · rfl
  refine ⟨by rw [hm]; exact h.1, fun x hx => ?_⟩
  have : x.born ∈ (es.set j e').map (·.born) := List.mem_map.2 ⟨x, hx, rfl⟩
  rw [hm] at this
  obtain ⟨y, hy, he⟩ := List.mem_map.1 this
  rw [← he]; exact h.2 y hy
theorem Borns.erase {es : List MapEntry} {clk : Nat} (h : Borns es clk) (j : Nat) : Borns (es.eraseIdx j) clk :=
  ⟨h.1.sublist ((List.eraseIdx_sublist _ _).map _), fun x hx => h.2 x ((List.eraseIdx_sublist _ _).subset hx)⟩
theorem Borns.push {es : List MapEntry} {clk : Nat} (h : Borns es clk) (e : MapEntry) (he : e.born = clk) : Borns (es ++ [e]) (clk + 1) := by
  refine ⟨?_, fun x hx => ?_⟩
  · rw [List.map_append, List.pairwise_append]
    refine ⟨h.1, by simp, fun a ha b hb => ?_⟩
    obtain ⟨y, hy, rfl⟩ := List.mem_map.1 ha
    simp at hb; subst hb; rw [he]; exact h.2 y hy
  · rcases List.mem_append.1 hx with h1 | h1
    · have := h.2 x h1; omega
    · simp at h1; subst h1; omega
end
/-! the operations -/
def World.setB (w : World) (r : Nat) (o : Go.Obj) : World := { w with heap := w.heap.setIfInBounds r o }
theorem run_setObj {P : Program} {w : World} {r clk : Nat} {es : Array MapEntry} (o : Go.Obj) (hb : w.heap[r]? = some (.map es clk)) : (setObj r o).run P w = .ok () (World.setB w r o) := by simp [setObj, Sem.run, hb, World.setB]
theorem run_getObj {P : Program} {w : World} {r clk : Nat} {es : Array MapEntry} (hb : w.heap[r]? = some (.map es clk)) : (getObj r).run P w = .ok (.map es clk) w := by simp [getObj, Sem.run, hb]
theorem setB_at {w : World} {r : Nat} {o0 : Go.Obj} (o : Go.Obj) (hb : w.heap[r]? = some o0) : (World.setB w r o).heap[r]? = some o := by
  have := (Array.getElem?_eq_some_iff.1 hb).1; simp [World.setB, this]
theorem Evo.setB (w : World) (r : Nat) (o : Go.Obj) : Evo [r] w (World.setB w r o) := ⟨rfl, rfl, rfl, by simp [World.setB], fun b _ hn => by
  have : r ≠ b := fun e => hn (by simp [e])
  simp [World.setB, this]⟩
theorem run_checkKey_str {P : Program} {kt : TypeId} (b : Bool) (k : ByteArray) (w : World) (hk : P.underlying kt = some .string) : (Instr.checkKey b 10000 kt (.string k)).run P w = .ok () w := by
  have : ∀ n, (Instr.checkKey b (n + 1) kt (.string k)).run P w = .ok () w := fun n => by simp [Instr.checkKey, run_underlying hk]
  exact this 9999
theorem run_findKey_str {P : Program} {kt : TypeId} {k : ByteArray} {es : List MapEntry} {x : Option (Nat × Value)} (w : World) (hk : P.underlying kt = some .string) (h : Instr.findNow .string (.string k) es 0 = some x) :
    (Instr.findKey kt (.string k) es).run P w = .ok x w := by simp [Instr.findKey, run_underlying hk, h]
section
variable {α : Type} {R : Rep α} {ag : Bool} {X G : List Nat} {B r : Nat} {L : List (ByteArray × α)}
variable {P : Program} {ops : Array Oper} {Q : Exit → Act → World → Prop} {n : Nat} {f : Nat → Value} {u : List (Nat × Value)} {w : World} {next : Act → World → Prop}
variable {dst : Option Tmp} {ty : TypeId} {pos : String} {aft : Array Edge} {gd : Option (Nat × Bool)}
/-- What a look-up finds, in each world where the map is as here. -/
def LookAt (r : Nat) (w : World) (k : ByteArray) (v z : Value) (b : Bool) : Prop := ∀ (P : Program) (w' : World) (t kt et s bts : Nat) (ok : Bool), w'.heap[r]? = w.heap[r]? → P.underlying t = some (.map kt et) → P.underlying kt = some .string →
  (P.info? et).map (fun i => (i.zero, i.size, i.bytes)) = some (some z, s, bts) → (Instr.lookup t (.map (some r)) (.string k) ok).run P w' = .ok (cond ok (.tuple #[v, .bool b]) v) w'
theorem run_zero {P : Program} {et s bts : Nat} {z : Value} (w : World) (h : (P.info? et).map (fun i => (i.zero, i.size, i.bytes)) = some (some z, s, bts)) : (zeroValue et).run P w = .ok z w := by
  obtain ⟨i, hi1, hi2, _, _⟩ := info_parts h
  simp [zeroValue, typeInfo, hi1, hi2]
theorem MapAt.look [Inhabited α] (h : MapAt R ag X w r L) (k : ByteArray) (z : List Value) (hz : ∀ X w, R.ok X w z default) :
    ∃ cs, R.ok X w cs (mgetD L k) ∧ LookAt r w k (vcell ag cs) (vcell ag z) (mhas L k) := by
  obtain ⟨es, clk, hb, he, hc⟩ := h
  rcases findNow_ok k 0 he with ⟨h1, h2, _, _⟩ | ⟨v, j, e, h1, h2, h3, h4, _, _⟩
  · refine ⟨z, by unfold mgetD; rw [h1]; exact hz X w, fun P w' t kt et s bts ok hw ht hk hzv => ?_⟩
    rw [hb] at hw
    have hf := run_findKey_str (P := P) w' hk h2
    cases ok <;> simp [Instr.lookup, run_underlying ht, run_getObj hw, run_checkKey_str _ k w' hk, hf, run_zero w' hzv, Result.andThen, mhas, h1]
  · obtain ⟨_, _, cs, hv, hr⟩ := h4
    refine ⟨cs, by unfold mgetD; rw [h1]; exact hr, fun P w' t kt et s bts ok hw ht hk hzv => ?_⟩
    rw [hb] at hw
    have hf := run_findKey_str (P := P) w' hk h2
    cases ok <;> simp [Instr.lookup, run_underlying ht, run_getObj hw, run_checkKey_str _ k w' hk, hf, Result.andThen, mhas, h1, hv]
theorem OM.keep {w' : World} {X' F : List Nat} (h : OM R ag G B X w r L) (s : Step X w F X' w') (p : Ap [r] F) : w'.heap[r]? = w.heap[r]? := s.evo.keep r h.2.1.lt (p r (by simp))
theorem x_lookup {w0 : World} {t kt et s bts : Nat} {x y : Operand} {k : ByteArray} {v z : Value} {b : Bool} (hx : evf n f u x = .map (some r)) (hy : evf n f u y = .string k) (h : LookAt r w0 k v z b) (hw : w.heap[r]? = w0.heap[r]?)
    (ht : P.underlying t = some (.map kt et)) (hk : P.underlying kt = some .string) (hi : (P.info? et).map (fun i => (i.zero, i.size, i.bytes)) = some (some z, s, bts)) :
    (execOp (evf n f u) ⟨dst, .lookup t x y false, ty, pos, aft, gd⟩).run P w = .ok (.value v) w := by
  have := h P w t kt et s bts false hw ht hk hi
  simp [execOp, hx, hy, this]
theorem x_lookup2 {w0 : World} {t kt et s bts : Nat} {x y : Operand} {k : ByteArray} {v z : Value} {b : Bool} (hx : evf n f u x = .map (some r)) (hy : evf n f u y = .string k) (h : LookAt r w0 k v z b) (hw : w.heap[r]? = w0.heap[r]?)
    (ht : P.underlying t = some (.map kt et)) (hk : P.underlying kt = some .string) (hi : (P.info? et).map (fun i => (i.zero, i.size, i.bytes)) = some (some z, s, bts)) :
    (execOp (evf n f u) ⟨dst, .lookup t x y true, ty, pos, aft, gd⟩).run P w = .ok (.value (.tuple #[v, .bool b])) w := by
  have := h P w t kt et s bts true hw ht hk hi
  simp [execOp, hx, hy, this]
/-- 'm[k] = v'. -/
theorem o_mapset {t kt et : TypeId} {x y z : Operand} {k : ByteArray} {cs : List Value} {d : α} (hg : Region.wanted ⟨dst, .mapUpdate t x y z, ty, pos, aft, gd⟩ (yielded ops (Fr n f u).tmps) = true)
    (hO : OM R ag G B X w r L) (ht : P.underlying t = some (.map kt et)) (hk : P.underlying kt = some .string) (hx : evf n f u x = .map (some r)) (hy : evf n f u y = .string k) (hz : evf n f u z = vcell ag cs)
    (hR : R.ok X w cs d) (hsz : k.size ≤ maxLen) (h : ∀ w', Step X w [r] X w' → OM R ag G B X w' r (mset L k d) → next (Fr n f (pusho dst undef u)) w') :
    OpW P ops Q ⟨dst, .mapUpdate t x y z, ty, pos, aft, gd⟩ n f u w next := by
  obtain ⟨hrX, ⟨es, clk, hb, he, hc⟩, hw⟩ := hO
  have hst : ∀ o, Step X w [r] X (World.setB w r o) := fun o => Step.one (Evo.setB w r o) hrX
  rcases findNow_ok k 0 he with ⟨h1, h2, h3, _⟩ | ⟨v, j, e, h1, h2, h3, h4, h5, _⟩
  · have hf := run_findKey_str (P := P) w hk h2
    refine o_skip hg (w' := World.setB w r (.map (es.push { key := .string k, val := vcell ag cs, born := clk }) (clk + 1))) ?_ (h _ (hst _) ⟨hrX, ⟨_, _, setB_at _ hb, ?_, ?_⟩, hw⟩)
    · simp [execOp, hx, hy, hz, Instr.mapUpdate, run_underlying ht, run_getObj hb, run_checkKey_str _ k w hk, hf, run_setObj _ hb, Result.andThen]
    · rw [h3, Array.toList_push]
      exact ((he.snoc (e' := { key := .string k, val := vcell ag cs, born := clk }) (p' := (k, d)) ⟨rfl, hsz, cs, rfl, hR⟩).step (hst _))
    · rw [Array.toList_push]; exact hc.push _ rfl
  · have hf := run_findKey_str (P := P) w hk h2
    rw [Nat.zero_add] at hf
    have hej : es[j]? = some e := by rw [← Array.getElem?_toList]; exact h3
    have hkey : e.key = .string k := h4.1
    have hsame : Instr.sameBits 10000 (.string k) (.string k) = true := by
      have : ∀ m, Instr.sameBits (m + 1) (.string k) (.string k) = true := fun m => by simp [Instr.sameBits, ba_beq]
      exact this 9999
    have hstay : (Instr.keyThatStays (.string k) (.string k)).run P w = .ok (.string k) w := by simp [Instr.keyThatStays, hsame]
    have hmod : (es.modify j fun e => { e with key := .string k, val := vcell ag cs }).toList = es.toList.set j { key := .string k, val := vcell ag cs, born := e.born } := by
      rw [Array.toList_modify]
      apply List.ext_getElem?
      intro i
      rw [List.getElem?_modify, List.getElem?_set]
      by_cases hij : j = i
      · subst hij; have hlt := (List.getElem?_eq_some_iff.1 h3).1; simp at hlt; rw [Array.getElem?_eq_getElem hlt] at hej; injection hej with hej; simp [hlt, hej]
      · simp [hij]
    refine o_skip hg (w' := World.setB w r (.map (es.modify j fun e => { e with key := .string k, val := vcell ag cs }) clk)) ?_ (h _ (hst _) ⟨hrX, ⟨_, _, setB_at _ hb, ?_, ?_⟩, hw⟩)
    · simp [execOp, hx, hy, hz, Instr.mapUpdate, run_underlying ht, run_getObj hb, run_checkKey_str _ k w hk, hf, hej, hkey, hstay, run_setObj _ hb, Result.andThen]
    · rw [hmod]
      exact (h5 d { key := .string k, val := vcell ag cs, born := e.born } ⟨rfl, hsz, cs, rfl, hR⟩).step (hst _)
    · rw [hmod]; exact hc.set h3 rfl
/-- 'delete(m, k)'. -/
theorem o_mapdel {t kt kt' et : TypeId} {x y : Operand} {k : ByteArray} (hg : Region.wanted ⟨dst, .call ⟨.builtin .delete, #[x, y], #[t, kt']⟩, ty, pos, aft, gd⟩ (yielded ops (Fr n f u).tmps) = true)
    (hO : OM R ag G B X w r L) (ht : P.underlying t = some (.map kt et)) (hk : P.underlying kt = some .string) (hx : evf n f u x = .map (some r)) (hy : evf n f u y = .string k)
    (h : ∀ w', Step X w [r] X w' → OM R ag G B X w' r (mdel L k) → next (Fr n f (pusho dst (.tuple #[]) u)) w') :
    OpW P ops Q ⟨dst, .call ⟨.builtin .delete, #[x, y], #[t, kt']⟩, ty, pos, aft, gd⟩ n f u w next := by
  obtain ⟨hrX, ⟨es, clk, hb, he, hc⟩, hw⟩ := hO
  have hst : ∀ o, Step X w [r] X (World.setB w r o) := fun o => Step.one (Evo.setB w r o) hrX
  have hex : ∀ w', (Builtin.delete_ #[t, kt'] ty #[.map (some r), .string k]).run P w = .ok (.tuple #[]) w' → (execOp (evf n f u) ⟨dst, .call ⟨.builtin .delete, #[x, y], #[t, kt']⟩, ty, pos, aft, gd⟩).run P w = .ok (.value (.tuple #[])) w' := fun w' hr => by
    unfold execOp
    simp only [resolve, invoke, builtin, Sem.run_bind, Sem.run_pure, Result.andThen_ok, List.map_toArray, List.map_cons, List.map_nil, hx, hy]
    rw [hr]; rfl
  rcases findNow_ok k 0 he with ⟨h1, h2, _, h3⟩ | ⟨v, j, e, h1, h2, h3, h4, _, h5⟩
  · have hf := run_findKey_str (P := P) w hk h2
    refine o_val (w' := World.setB w r (.map es clk)) _ hg (hex _ ?_) (h _ (hst _) ⟨hrX, ⟨_, _, setB_at _ hb, by rw [h3]; exact he.step (hst _), hc⟩, hw⟩)
    simp [Builtin.delete_, run_underlying ht, run_getObj hb, run_checkKey_str _ k w hk, hf, run_setObj _ hb, Result.andThen]
  · have hf := run_findKey_str (P := P) w hk h2
    rw [Nat.zero_add] at hf
    have hel : (es.eraseIdxIfInBounds j).toList = es.toList.eraseIdx j := by simp
    refine o_val (w' := World.setB w r (.map (es.eraseIdxIfInBounds j) clk)) _ hg (hex _ ?_) (h _ (hst _) ⟨hrX, ⟨_, _, setB_at _ hb, by rw [hel]; exact h5.step (hst _), by rw [hel]; exact hc.erase j⟩, hw⟩)
    simp [Builtin.delete_, run_underlying ht, run_getObj hb, run_checkKey_str _ k w hk, hf, run_setObj _ hb, Result.andThen]
theorem om_new {w' : World} (hB : B ≤ w.heap.size) (hb : r = w.heap.size) (he : Evo [] w w') (hm : MapAt R ag X w' r L) (hX : ∀ X', (∀ b ∈ X', b ∈ X ∨ w.heap.size ≤ b) → MapAt R ag X' w' r L) : Step X w [] (r :: X) w' ∧ OM R ag [] B (r :: X) w' r L ∧ ∀ l, Old l w → Ap l [r] := by
  have hlt := hm.lt
  refine ⟨Step.fresh X he r (by omega) hlt, ⟨List.mem_cons_self, hX _ fun b hb => ?_, fun x hx => by simp at hx; subst hx; exact .inr (by omega)⟩, fun l hl x hx hm => by simp at hm; subst hm; have := hl x hx; omega⟩
  cases hb with
  | head => exact .inr (by omega)
  | tail _ h => exact .inl h
/-- 'map[K]V{}'. -/
theorem o_mkmap {t : TypeId} (hB : B ≤ w.heap.size) (hg : Region.wanted ⟨dst, .makeMap t none, ty, pos, aft, gd⟩ (yielded ops (Fr n f u).tmps) = true)
    (h : ∀ r w' X', Step X w [] X' w' → OM R ag [] B X' w' r ([] : List (ByteArray × α)) → (∀ l, Old l w → Ap l [r]) → next (Fr n f (pusho dst (.map (some r)) u)) w') : OpW P ops Q ⟨dst, .makeMap t none, ty, pos, aft, gd⟩ n f u w next := by
  have hev := Evo.alloc w (.map #[] 0)
  have hm : ∀ X, MapAt R ag X (w.alloc (.map #[] 0)) w.heap.size ([] : List (ByteArray × α)) := fun X => ⟨#[], 0, heap_alloc_new w _, rfl, by simp, by simp⟩
  obtain ⟨s, o, p⟩ := om_new (R := R) (ag := ag) (X := X) (B := B) (L := []) hB rfl hev (hm X) fun X' _ => hm X'
  refine o_val (w' := w.alloc (.map #[] 0)) _ hg ?_ (h w.heap.size _ _ s o p)
  simp [execOp, Instr.makeMap, newObj, Sem.run]
/-- A map held against nil. -/
theorem equal_map_nil {t kt et : TypeId} (ht : P.underlying t = some (.map kt et)) : (Op.equal t (.map (some r)) (.map none)).run P w = .ok false w := by
  have h : ∀ d : Nat, (Op.equalIn (d + 1) t (.map (some r)) (.map none)).run P w = .ok false w := fun d => by simp [Op.equalIn, run_underlying ht]
  simp only [Op.equal, Op.maxDepth]
  exact h 9999
theorem x_mnil_eq {t t' kt et : TypeId} {x y : Operand} (ht : P.underlying t = some (.map kt et)) (hx : evf n f u x = .map (some r)) (hy : evf n f u y = .map none) :
    (execOp (evf n f u) ⟨dst, .binOp .eql t x y t', ty, pos, aft, gd⟩).run P w = .ok (.value (.bool false)) w := by
  simp [execOp, hx, hy, eqGuard, binOp, equal_map_nil ht]
theorem x_mnil_ne {t t' kt et : TypeId} {x y : Operand} (ht : P.underlying t = some (.map kt et)) (hx : evf n f u x = .map (some r)) (hy : evf n f u y = .map none) :
    (execOp (evf n f u) ⟨dst, .binOp .neq t x y t', ty, pos, aft, gd⟩).run P w = .ok (.value (.bool true)) w := by
  simp [execOp, hx, hy, eqGuard, binOp, equal_map_nil ht]
/-- What stands behind an interface is of the type that is asked for. -/
theorem x_assert_map {t xT kt et : TypeId} {x : Operand} {v : Value} (ht : P.underlying t = some (.map kt et)) (hx : evf n f u x = .iface t v) :
    (execOp (evf n f u) ⟨dst, .typeAssert x xT t false, ty, pos, aft, gd⟩).run P w = .ok (.value v) w := by
  simp [execOp, hx, Instr.typeAssert, run_underlying ht, go_sem, Result.andThen]
/-- maps.clone: a new map that holds the same. -/
theorem o_mapclone {fid : FuncId} {fn : Func} {t : TypeId} {x : Operand} {tys : Array TypeId} (hB : B ≤ w.heap.size) (hg : Region.wanted ⟨dst, .call ⟨.value (.func fid), #[x], tys⟩, ty, pos, aft, gd⟩ (yielded ops (Fr n f u).tmps) = true)
    (hf : P.funcs[fid]? = some fn) (h1 : (fn.name == "runtime.NumGoroutine") = false) (h2 : fn.body.isNone = true) (h3 : Extern.findNext fn = none) (h4 : Extern.find fn = some Extern.MapsClone.clone)
    (hO : OM R ag G B X w r L) (hx : evf n f u x = .iface t (.map (some r)))
    (h : ∀ r' w' X', Step X w [] X' w' → OM R ag [] B X' w' r' L → (∀ l, Old l w → Ap l [r']) → next (Fr n f (pusho dst (.iface t (.map (some r'))) u)) w') :
    OpW P ops Q ⟨dst, .call ⟨.value (.func fid), #[x], tys⟩, ty, pos, aft, gd⟩ n f u w next := by
  obtain ⟨hrX, ⟨es, clk, hb, he, hc⟩, hw⟩ := hO
  have hev := Evo.alloc w (.map es clk)
  have hlt : w.heap.size < (w.alloc (.map es clk)).heap.size := by simp
  have hs := Step.fresh X hev w.heap.size (Nat.le_refl _) hlt
  have hm : MapAt R ag (w.heap.size :: X) (w.alloc (.map es clk)) w.heap.size L := ⟨es, clk, heap_alloc_new w _, he.step hs, hc⟩
  refine o_val (w' := w.alloc (.map es clk)) _ hg ?_ (h w.heap.size _ _ hs ⟨List.mem_cons_self, hm, fun x hx => by simp at hx; subst hx; exact .inr hB⟩ fun l hl x hx hm => by simp at hm; subst hm; exact absurd (hl _ hx) (Nat.lt_irrefl _))
  have hcall := run_callFunc_extern hf h1 h2 h3 h4 #[.iface t (.map (some r))] w
  have hclone : (Extern.MapsClone.clone #[.iface t (.map (some r))]).run P w = .ok (.iface t (.map (some w.heap.size))) (w.alloc (.map es clk)) := by
    have e : Extern.MapsClone.clone #[.iface t (.map (some r))] = (getObj r >>= fun o => match o with
      | .map entries clock => (newObj (.map entries clock) >>= fun n => pure (.iface t (.map (some n))))
      | _ => stuck "maps.clone: a map expected") := rfl
    rw [e]
    simp [MapKept.run_getObj_map hb, Result.andThen, go_sem]
  rw [hclone] at hcall
  have hargs : (#[x] : Array Operand).map (evf n f u) = #[.iface t (.map (some r))] := by simp [hx]
  generalize (#[x] : Array Operand) = xs at hargs
  rw [← hargs] at hcall
  simp only [execOp, resolve, evf, Deferred.ofValue]
  simpa [invoke] using hcall
/-- 'len(m)'. -/
theorem x_maplen {t kt et : TypeId} {x : Operand} (ht : P.underlying t = some (.map kt et)) (hO : OM R ag G B X w r L) (hx : evf n f u x = .map (some r)) :
    (execOp (evf n f u) ⟨dst, .call ⟨.builtin .len, #[x], #[t]⟩, ty, pos, aft, gd⟩).run P w = .ok (.value (.int .i64 (L.length : Int))) w := by
  obtain ⟨hrX, ⟨es, clk, hb, he, hc⟩, hw⟩ := hO
  have hl : es.size = L.length := by rw [← he.length]; simp
  have hr : (Builtin.len_ #[t] ty #[.map (some r)]).run P w = .ok (.int .i64 (L.length : Int)) w := by
    simp [Builtin.len_, run_underlying ht, run_getObj hb, Result.andThen, goInt, hl]
  unfold execOp
  simp only [resolve, invoke, builtin, Sem.run_bind, Sem.run_pure, Result.andThen_ok, List.map_toArray, List.map_cons, List.map_nil, hx]
  rw [hr]; rfl
end
end Go.Proofs.YtdnahdcjnahfkaaGreatDoor
namespace Go.Proofs.YtdnahdcjnahfkaaGreatDoor
open Go
section
variable {α : Type} (R : Rep α) (ag : Bool) (X : List Nat) (w : World)
def ItAt (it r : Nat) (L rest : List (ByteArray × α)) (cur : Option (ByteArray × Value)) : Prop := ∃ es clk seen, w.heap[it]? = some (.mapIter (some r) clk seen clk) ∧ w.heap[r]? = some (.map es clk) ∧ EntsOK R ag X w es.toList L ∧ Borns es.toList clk ∧
  EntsOK R ag X w (es.toList.filter fun e => !seen.contains e.born) rest ∧ ∀ k v, cur = some (k, v) → ∃ e ∈ es.toList, seen.back? = some e.born ∧ e.key = .string k ∧ e.val = v
/-- A walk through a map, where it stands: L: what the map holds; rest: what is left. -/
def IT (G : List Nat) (B : Nat) (it r : Nat) (L rest : List (ByteArray × α)) (cur : Option (ByteArray × Value)) : Prop := it ∈ X ∧ ItAt R ag X w it r L rest cur ∧ Wr G B [it]
end
section
variable {α : Type} {R : Rep α} {ag : Bool} {X X' F G : List Nat} {w w' : World} {it r B : Nat} {L rest : List (ByteArray × α)} {cur : Option (ByteArray × Value)}
theorem IT.lt (h : IT R ag X w G B it r L rest cur) : it < w.heap.size := by obtain ⟨_, ⟨es, clk, seen, h1, _⟩, _⟩ := h; exact (Array.getElem?_eq_some_iff.1 h1).1
theorem IT.step (h : IT R ag X w G B it r L rest cur) (s : Step X w F X' w') (p : Ap [it] F) (q : Ap [r] F) : IT R ag X' w' G B it r L rest cur := by
  obtain ⟨hX, ⟨es, clk, seen, h1, h2, h3, h4, h5, h6⟩, hw⟩ := h
  refine ⟨s.up it hX, ⟨es, clk, seen, ?_, ?_, h3.step s, h4, h5.step s, h6⟩, hw⟩
  · rw [s.evo.keep it (Array.getElem?_eq_some_iff.1 h1).1 (p it (by simp))]; exact h1
  · rw [s.evo.keep r (Array.getElem?_eq_some_iff.1 h2).1 (q r (by simp))]; exact h2
theorem IT.step0 (h : IT R ag X w G B it r L rest cur) (s : Step X w [] X' w') : IT R ag X' w' G B it r L rest cur := h.step s (Ap.nil_r _) (Ap.nil_r _)
theorem IT.old (h : IT R ag X w G B it r L rest cur) : Old [it] w := fun x hx => by simp at hx; subst hx; exact h.lt
theorem IT.mem (h : IT R ag X w G B it r L rest cur) : Sub [it] X := fun x hx => by simp at hx; subst hx; exact h.1
theorem IT.less (h : IT R ag X w G B it r L rest cur) (s : Sub X' X) (m : Sub [it] X') : IT R ag X' w G B it r L rest cur := by
  obtain ⟨hX, ⟨es, clk, seen, h1, h2, h3, h4, h5, h6⟩, hw⟩ := h
  exact ⟨m it (by simp), ⟨es, clk, seen, h1, h2, h3.less s, h4, h5.less s, h6⟩, hw⟩
theorem IT.wr (h : IT R ag X w G B it r L rest cur) : Wr G B [it] := h.2.2
theorem IT.re {H : List Nat} {B' : Nat} (h : IT R ag X w G B it r L rest cur) (k : Wr H B' [it]) : IT R ag X w H B' it r L rest cur := ⟨h.1, h.2.1, k⟩
theorem IT.drop (h : IT R ag X w G B it r L rest cur) : IT R ag X w G B it r L rest none := by
  obtain ⟨hX, ⟨es, clk, seen, h1, h2, h3, h4, h5, h6⟩, hw⟩ := h
  exact ⟨hX, ⟨es, clk, seen, h1, h2, h3, h4, h5, fun k v h => by cases h⟩, hw⟩
theorem EntsOK.split {e : MapEntry} : ∀ {l1 l2 : List MapEntry} {rest : List (ByteArray × α)}, EntsOK R ag X w (l1 ++ e :: l2) rest → ∃ pr p po, rest = pr ++ p :: po ∧ EntOK R ag X w e p ∧ EntsOK R ag X w (l1 ++ l2) (pr ++ po)
  | [], l2, rest, h => by obtain ⟨p, r, rfl, h1, h2⟩ := h; exact ⟨[], p, r, rfl, h1, h2⟩
  | x :: l1, l2, rest, h => by
    obtain ⟨p0, r, rfl, h1, h2⟩ := h
    obtain ⟨pr, p, po, rfl, h3, h4⟩ := EntsOK.split (l1 := l1) h2
    exact ⟨p0 :: pr, p, po, rfl, h3, ⟨p0, pr ++ po, rfl, h1, h4⟩⟩
theorem filter_ne_born {l1 l2 : List MapEntry} {e : MapEntry} (h : ((l1 ++ e :: l2).map (·.born)).Pairwise (· < ·)) : (l1 ++ e :: l2).filter (fun x => !(x.born == e.born)) = l1 ++ l2 := by
  rw [List.map_append, List.map_cons, List.pairwise_append, List.pairwise_cons] at h
  obtain ⟨_, ⟨h2, _⟩, h3⟩ := h
  rw [List.filter_append, List.filter_cons]
  simp only [beq_self_eq_true, Bool.not_true, Bool.false_eq_true, if_false]
  rw [List.filter_eq_self.2, List.filter_eq_self.2]
  · intro x hx
    have := h2 x.born (List.mem_map.2 ⟨x, hx, rfl⟩)
    simp; omega
  · intro x hx
    have := h3 x.born (List.mem_map.2 ⟨x, hx, rfl⟩) e.born (by simp)
    simp; omega
end
theorem run_getObj_it {P : Program} {w : World} {it : Nat} {m : Option Nat} {a b : Nat} {s : Array Nat} (hb : w.heap[it]? = some (.mapIter m a s b)) : (getObj it).run P w = .ok (.mapIter m a s b) w := by simp [getObj, Sem.run, hb]
theorem run_setObj_it {P : Program} {w : World} {it : Nat} {m : Option Nat} {a b : Nat} {s : Array Nat} (o : Go.Obj) (hb : w.heap[it]? = some (.mapIter m a s b)) : (setObj it o).run P w = .ok () (World.setB w it o) := by simp [setObj, Sem.run, hb, World.setB]
/-- 'next': nothing is left; or one that is left comes out. -/
theorem run_next_it {P : Program} {w : World} {ty : TypeId} {it r clk : Nat} {seen : Array Nat} {es : Array MapEntry} (hi : w.heap[it]? = some (.mapIter (some r) clk seen clk)) (hb : w.heap[r]? = some (.map es clk)) (hc : Borns es.toList clk) :
    (es.toList.filter (fun e => !seen.contains e.born) = [] ∧ (Instr.next (.pointer (some ⟨it, 0, none⟩)) false ty).run P w = .ok (.tuple #[.bool false]) w) ∨
    ∃ l1 e l2 w1, es.toList.filter (fun e => !seen.contains e.born) = l1 ++ e :: l2 ∧ (w1 = w ∨ w1 = w.drew) ∧
      (Instr.next (.pointer (some ⟨it, 0, none⟩)) false ty).run P w = .ok (.tuple #[.bool true, e.key, e.val]) (World.setB w1 it (.mapIter (some r) clk (seen.push e.born) clk)) := by
  have htest := next_test_false seen es clk clk (fun x hx => hc.2 x hx) (Nat.le_refl _)
  simp only [Instr.next, Sem.run_bind, run_getObj_it hi, run_getObj hb, Result.andThen, htest, Bool.false_eq_true, if_false]
  have hmem : ∀ x ∈ (Array.filter (fun e => !seen.contains e.born) es).toList, x.born < clk := fun x hx => hc.2 x (by simp at hx ⊢; exact hx.1)
  have hfl : (Array.filter (fun e => !seen.contains e.born) es).toList = es.toList.filter (fun e => !seen.contains e.born) := by simp
  rw [← hfl]
  generalize Array.filter (fun e => !seen.contains e.born) es = L at hmem ⊢
  have e1 : L.filter (fun x => decide (x.born < clk)) = L := Array.filter_eq_self.2 (fun x hx => by simpa using hmem x (by simpa using hx))
  have e2 : L.filter (fun x => decide (x.born ≥ clk)) = #[] := by
    rw [Array.filter_eq_empty_iff]
    intro x hx
    have := hmem x (by simpa using hx)
    simp; omega
  simp only [e1, e2, Array.append_empty]
  by_cases h0 : L.size = 0
  · left
    have : L = #[] := Array.eq_empty_of_size_eq_zero h0
    subst this
    exact ⟨rfl, by simp [choose, Sem.run, Question.forced]⟩
  · right
    have hne : L.isEmpty = false := by simp [Array.isEmpty, h0]
    simp only [hne, Bool.false_eq_true, if_false, Array.empty_append, Array.size_map]
    have hch : ∃ (j : Nat) (w1 : World), j < L.size ∧ (w1 = w ∨ w1 = w.drew) ∧ (choose (Question.mapNext L.size)).run P w = .ok j w1 := by
      by_cases hf : L.size ≤ 1
      · exact ⟨0, w, by omega, .inl rfl, by simp [choose, Sem.run, Question.forced, hf]⟩
      · exact ⟨_, w.drew, Nat.mod_lt _ (by omega), .inr rfl, by
          simp only [choose, Sem.run, Question.forced, decide_eq_true_eq, hf, if_false, Question.cut]
          rfl⟩
    obtain ⟨j, w1, hj, hw1, hrun⟩ := hch
    have hi1 : w1.heap[it]? = some (.mapIter (some r) clk seen clk) := by rcases hw1 with rfl | rfl <;> exact hi
    have hjl : j < L.toList.length := by simpa using hj
    refine ⟨L.toList.take j, L[j], L.toList.drop (j + 1), w1, ?_, hw1, ?_⟩
    · have : L[j] = L.toList[j] := by simp
      rw [this, ← List.drop_eq_getElem_cons hjl, List.take_append_drop]
    · simp only [hrun, Array.getElem?_map, Array.getElem?_eq_getElem hj, Option.map_some, Sem.run_bind, run_setObj_it _ hi1, Result.andThen]
      rfl
section
variable {α : Type} {R : Rep α} {ag : Bool} {X G G' : List Nat} {B it r : Nat} {L rest : List (ByteArray × α)}
variable {P : Program} {ops : Array Oper} {Q : Exit → Act → World → Prop} {n : Nat} {f : Nat → Value} {u : List (Nat × Value)} {w : World} {next : Act → World → Prop}
variable {dst : Option Tmp} {ty : TypeId} {pos : String} {aft : Array Edge} {gd : Option (Nat × Bool)}
theorem o_range {t kt et : TypeId} {x : Operand} (hB : B ≤ w.heap.size) (hg : Region.wanted ⟨dst, .range t x, ty, pos, aft, gd⟩ (yielded ops (Fr n f u).tmps) = true)
    (hO : OM R ag G B X w r L) (ht : P.underlying t = some (.map kt et)) (hx : evf n f u x = .map (some r))
    (h : ∀ it w' X', Step X w [] X' w' → IT R ag X' w' [] B it r L L none → (∀ l, Old l w → Ap l [it]) → next (Fr n f (pusho dst (.pointer (some ⟨it, 0, none⟩)) u)) w') : OpW P ops Q ⟨dst, .range t x, ty, pos, aft, gd⟩ n f u w next := by
  obtain ⟨hrX, ⟨es, clk, hb, he, hc⟩, hw⟩ := hO
  have hev := Evo.alloc w (.mapIter (some r) clk #[] clk)
  have hlt : w.heap.size < (w.alloc (.mapIter (some r) clk #[] clk)).heap.size := by simp
  have hs := Step.fresh X hev w.heap.size (Nat.le_refl _) hlt
  refine o_val (w' := w.alloc (.mapIter (some r) clk #[] clk)) _ hg ?_ (h w.heap.size _ _ hs ⟨List.mem_cons_self, ⟨es, clk, #[], heap_alloc_new w _, ?_, he.step hs, hc, ?_, fun k v h => by cases h⟩, fun x hx => by simp at hx; subst hx; exact .inr hB⟩ fun l hl x hx hm => by simp at hm; subst hm; exact absurd (hl _ hx) (Nat.lt_irrefl _))
  · simp [execOp, hx, run_range_map w t kt et r es clk ht hb]
  · rw [heap_alloc_old w _ (Array.getElem?_eq_some_iff.1 hb).1]; exact hb
  · have : es.toList.filter (fun e => !(#[] : Array Nat).contains e.born) = es.toList := List.filter_eq_self.2 fun x _ => by simp
    rw [this]; exact he.step hs
theorem o_next {x : Operand} {cur : Option (ByteArray × Value)} (hg : Region.wanted ⟨dst, .next x false, ty, pos, aft, gd⟩ (yielded ops (Fr n f u).tmps) = true)
    (hI : IT R ag X w G B it r L rest cur) (hx : evf n f u x = .pointer (some ⟨it, 0, none⟩))
    (h0 : rest = [] → next (Fr n f (pusho dst (.tuple #[.bool false]) u)) w)
    (h1 : ∀ pr k v po cs w', rest = pr ++ (k, v) :: po → Step X w [it] X w' → IT R ag X w' G B it r L (pr ++ po) (some (k, vcell ag cs)) → R.ok X w' cs v → k.size ≤ maxLen → next (Fr n f (pusho dst (.tuple #[.bool true, .string k, vcell ag cs]) u)) w') :
    OpW P ops Q ⟨dst, .next x false, ty, pos, aft, gd⟩ n f u w next := by
  obtain ⟨hX, ⟨es, clk, seen, hi, hb, he, hc, hr, _⟩, hw⟩ := hI
  rcases run_next_it (P := P) (ty := ty) hi hb hc with ⟨hnil, hrun⟩ | ⟨l1, e, l2, w1, hsp, hw1, hrun⟩
  · rw [hnil] at hr
    refine o_val (w' := w) _ hg ?_ (h0 hr)
    simp [execOp, hx, hrun]
  · rw [hsp] at hr
    obtain ⟨pr, ⟨k, v⟩, po, rfl, hk, hrest⟩ := hr.split
    have hE1 : Evo [] w w1 := by rcases hw1 with rfl | rfl; exact RB.refl _ _ _; exact ⟨rfl, rfl, rfl, Nat.le_refl _, fun _ _ _ => rfl⟩
    have hh : w1.heap = w.heap := by rcases hw1 with rfl | rfl <;> rfl
    have hE : Evo [it] w (World.setB w1 it (.mapIter (some r) clk (seen.push e.born) clk)) := by
      refine ⟨?_, ?_, ?_, ?_, fun b _ hn => ?_⟩
      · rcases hw1 with rfl | rfl <;> rfl
      · rcases hw1 with rfl | rfl <;> rfl
      · rcases hw1 with rfl | rfl <;> rfl
      · simp [World.setB, hh]
      · have : it ≠ b := fun e => hn (by simp [e])
        simp [World.setB, this, hh]
    have hs : Step X w [it] X (World.setB w1 it (.mapIter (some r) clk (seen.push e.born) clk)) := Step.one hE hX
    have hrit : r ≠ it := fun e => by rw [e, hi] at hb; cases hb
    obtain ⟨hkey, hksz, cs, hval, hok⟩ := hk
    have hem : e ∈ es.toList := by
      have : e ∈ es.toList.filter (fun e => !seen.contains e.born) := by rw [hsp]; simp
      exact (List.mem_filter.1 this).1
    refine o_val _ hg ?_ (h1 pr k v po cs _ rfl hs ⟨hX, ⟨es, clk, seen.push e.born, ?_, ?_, he.step hs, hc, ?_, ?_⟩, hw⟩ (R.step hok hs) hksz)
    · simp only [execOp, hx, Sem.run_bind, hrun, Result.andThen, hkey, hval]; rfl
    · have hit := (Array.getElem?_eq_some_iff.1 hi).1; simp [World.setB, hh, hit]
    · simp [World.setB, hh, Ne.symm hrit, hb]
    · have hf : es.toList.filter (fun x => !(seen.push e.born).contains x.born) = l1 ++ l2 := by
        have : es.toList.filter (fun x => !(seen.push e.born).contains x.born) = (es.toList.filter fun x => !seen.contains x.born).filter fun x => !(x.born == e.born) := by
          rw [List.filter_filter]
          congr 1
          funext x
          rw [Array.contains_push]
          cases seen.contains x.born <;> cases (x.born == e.born) <;> rfl
        rw [this, hsp]
        refine filter_ne_born ?_
        rw [← hsp]
        exact hc.1.sublist (List.filter_sublist.map _)
      rw [hf]; exact hrest.step hs
    · intro k' v' hkv
      injection hkv with hkv; injection hkv with e1 e2
      subst e1; subst e2
      exact ⟨e, hem, by simp, hkey, hval⟩
/-- The round's key and value. -/
theorem x_entry {x : Operand} {k : ByteArray} {v : Value} (hI : IT R ag X w G B it r L rest (some (k, v))) (hx : evf n f u x = .pointer (some ⟨it, 0, none⟩)) :
    (execOp (evf n f u) ⟨dst, .entry x, ty, pos, aft, gd⟩).run P w = .ok (.value (.tuple #[.string k, v])) w := by
  obtain ⟨hX, ⟨es, clk, seen, hi, hb, he, hc, hr, h6⟩, hw⟩ := hI
  obtain ⟨e, hem, hback, hkey, hval⟩ := h6 k v rfl
  have hnd : (es.toList.map (·.born)).Nodup := hc.1.imp fun h => Nat.ne_of_lt h
  have hf := find_born e es.toList hnd hem
  have hf2 : es.find? (fun x => x.born == e.born) = some e := by rw [← Array.find?_toList]; exact hf
  simp [execOp, hx, Instr.entry, run_getObj_it hi, run_getObj hb, hback, hf2, hkey, hval, Result.andThen]
end
end Go.Proofs.YtdnahdcjnahfkaaGreatDoor
namespace Go.Proofs.YtdnahdcjnahfkaaGreatDoor
open Go
section
variable {α : Type} {R : Rep α} {ag : Bool} {X X' F G : List Nat} {w w' : World} {it r B : Nat} {L rest : List (ByteArray × α)} {cur : Option (ByteArray × Value)}
/-- A map that is only looked at. -/
def RM {α : Type} (R : Rep α) (ag : Bool) (X : List Nat) (w : World) (r : Nat) (L : List (ByteArray × α)) : Prop := r ∉ X ∧ MapAt R ag X w r L
theorem RM.step (h : RM R ag X w r L) (s : Step X w F X' w') : RM R ag X' w' r L :=
  ⟨fun hm => by rcases s.new r hm with h3 | h3; exact h.1 h3; exact absurd h.2.lt (by omega), h.2.step s fun hm => h.1 (s.sub r hm)⟩
theorem RM.less (h : RM R ag X w r L) (s : Sub X' X) : RM R ag X' w r L := ⟨fun hm => h.1 (s r hm), h.2.less s⟩
theorem OM.rm (h : OM R ag G B X w r L) : RM R ag [] w r L := ⟨fun h => (by cases h), h.2.1.less (Sub.nil _)⟩
theorem RM.evo0 (h : RM R ag X w r L) (e : Evo [] w w') : RM R ag X w' r L := h.step (Step.of0 X e)
/-- A walk through a map that is only looked at. -/
def ITR {α : Type} (R : Rep α) (ag : Bool) (X : List Nat) (w : World) (G : List Nat) (B : Nat) (it r : Nat) (L rest : List (ByteArray × α)) (cur : Option (ByteArray × Value)) : Prop := r ∉ X ∧ r < w.heap.size ∧ IT R ag X w G B it r L rest cur
theorem ITR.step (h : ITR R ag X w G B it r L rest cur) (s : Step X w F X' w') (p : Ap [it] F) : ITR R ag X' w' G B it r L rest cur :=
  ⟨fun hm => by rcases s.new r hm with h3 | h3; exact h.1 h3; exact absurd h.2.1 (by omega), Nat.lt_of_lt_of_le h.2.1 s.evo.size, h.2.2.step s p fun x hx hm => by simp at hx; subst hx; exact h.1 (s.sub x hm)⟩
theorem ITR.step0 (h : ITR R ag X w G B it r L rest cur) (s : Step X w [] X' w') : ITR R ag X' w' G B it r L rest cur := h.step s (Ap.nil_r _)
theorem ITR.old (h : ITR R ag X w G B it r L rest cur) : Old [it] w := h.2.2.old
theorem ITR.mem (h : ITR R ag X w G B it r L rest cur) : Sub [it] X := h.2.2.mem
theorem ITR.less (h : ITR R ag X w G B it r L rest cur) (s : Sub X' X) (m : Sub [it] X') : ITR R ag X' w G B it r L rest cur := ⟨fun hm => h.1 (s r hm), h.2.1, h.2.2.less s m⟩
theorem ITR.wr (h : ITR R ag X w G B it r L rest cur) : Wr G B [it] := h.2.2.wr
theorem ITR.re {H : List Nat} {B' : Nat} (h : ITR R ag X w G B it r L rest cur) (k : Wr H B' [it]) : ITR R ag X w H B' it r L rest cur := ⟨h.1, h.2.1, h.2.2.re k⟩
theorem ITR.drop (h : ITR R ag X w G B it r L rest cur) : ITR R ag X w G B it r L rest none := ⟨h.1, h.2.1, h.2.2.drop⟩
end
section
variable {α : Type} {R : Rep α} {ag : Bool} {X G : List Nat} {it r B : Nat} {L rest : List (ByteArray × α)}
variable {P : Program} {ops : Array Oper} {Q : Exit → Act → World → Prop} {n : Nat} {f : Nat → Value} {u : List (Nat × Value)} {w : World} {next : Act → World → Prop}
variable {dst : Option Tmp} {ty : TypeId} {pos : String} {aft : Array Edge} {gd : Option (Nat × Bool)}
theorem o_rangeR {t kt et : TypeId} {x : Operand} (hB : B ≤ w.heap.size) (hg : Region.wanted ⟨dst, .range t x, ty, pos, aft, gd⟩ (yielded ops (Fr n f u).tmps) = true)
    (hO : RM R ag X w r L) (ht : P.underlying t = some (.map kt et)) (hx : evf n f u x = .map (some r))
    (h : ∀ it w' X', Step X w [] X' w' → ITR R ag X' w' [] B it r L L none → (∀ l, Old l w → Ap l [it]) → next (Fr n f (pusho dst (.pointer (some ⟨it, 0, none⟩)) u)) w') : OpW P ops Q ⟨dst, .range t x, ty, pos, aft, gd⟩ n f u w next := by
  have hrlt := hO.2.lt
  obtain ⟨hrX, ⟨es, clk, hb, he, hc⟩⟩ := hO
  have hev := Evo.alloc w (.mapIter (some r) clk #[] clk)
  have hlt : w.heap.size < (w.alloc (.mapIter (some r) clk #[] clk)).heap.size := by simp
  have hs := Step.fresh X hev w.heap.size (Nat.le_refl _) hlt
  refine o_val (w' := w.alloc (.mapIter (some r) clk #[] clk)) _ hg ?_ (h w.heap.size _ _ hs ⟨fun hm => ?_, by omega, List.mem_cons_self, ⟨es, clk, #[], heap_alloc_new w _, ?_, he.step hs, hc, ?_, fun k v h => by cases h⟩, fun x hx => by simp at hx; subst hx; exact .inr hB⟩ fun l hl x hx hm => by simp at hm; subst hm; exact absurd (hl _ hx) (Nat.lt_irrefl _))
  · simp [execOp, hx, run_range_map w t kt et r es clk ht hb]
  · rcases List.mem_cons.1 hm with h3 | h3
    · omega
    · exact hrX h3
  · rw [heap_alloc_old w _ (Array.getElem?_eq_some_iff.1 hb).1]; exact hb
  · have : es.toList.filter (fun e => !(#[] : Array Nat).contains e.born) = es.toList := List.filter_eq_self.2 fun x _ => by simp
    rw [this]; exact he.step hs
theorem o_nextR {x : Operand} {cur : Option (ByteArray × Value)} (hg : Region.wanted ⟨dst, .next x false, ty, pos, aft, gd⟩ (yielded ops (Fr n f u).tmps) = true)
    (hI : ITR R ag X w G B it r L rest cur) (hx : evf n f u x = .pointer (some ⟨it, 0, none⟩))
    (h0 : rest = [] → next (Fr n f (pusho dst (.tuple #[.bool false]) u)) w)
    (h1 : ∀ pr k v po cs w', rest = pr ++ (k, v) :: po → Step X w [it] X w' → ITR R ag X w' G B it r L (pr ++ po) (some (k, vcell ag cs)) → R.ok X w' cs v → k.size ≤ maxLen → next (Fr n f (pusho dst (.tuple #[.bool true, .string k, vcell ag cs]) u)) w') :
    OpW P ops Q ⟨dst, .next x false, ty, pos, aft, gd⟩ n f u w next :=
  o_next hg hI.2.2 hx h0 fun pr k v po cs w' hr hs hi hok hsz => h1 pr k v po cs w' hr hs ⟨hI.1, Nat.lt_of_lt_of_le hI.2.1 hs.evo.size, hi⟩ hok hsz
theorem x_entryR {x : Operand} {k : ByteArray} {v : Value} (hI : ITR R ag X w G B it r L rest (some (k, v))) (hx : evf n f u x = .pointer (some ⟨it, 0, none⟩)) :
    (execOp (evf n f u) ⟨dst, .entry x, ty, pos, aft, gd⟩).run P w = .ok (.value (.tuple #[.string k, v])) w := x_entry hI.2.2 hx
/-- 's[:n:n]': the slice itself, with no room. -/
theorem o_slice3K {t : TypeId} {x hx mx : Operand} {et : TypeId} {a : Option Addr} {m c sz : Nat} {k k' : IntKind} (ht : P.underlying t = some (.slice et)) (hs : ∀ w, (sizeOf et).run P w = .ok sz w) (hxx : evf n f u x = .slice a m c) (hmc : m ≤ c)
    (hg : Region.wanted ⟨dst, .slice t x none (some hx) (some mx), ty, pos, aft, gd⟩ (yielded ops (Fr n f u).tmps) = true) (hh : evf n f u hx = .int k (m : Int)) (hmx : evf n f u mx = .int k' (m : Int))
    (h : next (Fr n f (pusho dst (.slice a m m) u)) w) : OpW P ops Q ⟨dst, .slice t x none (some hx) (some mx), ty, pos, aft, gd⟩ n f u w next := by
  refine o_pv _ hg (x_slice (lo := 0) (hi := m) (mx := m) ht hs hxx (.inl ⟨rfl, rfl⟩) (.inr ⟨k, by show some (evf n f u hx) = _; rw [hh]⟩) (.inr ⟨k', by show some (evf n f u mx) = _; rw [hmx]⟩) hmc (Nat.zero_le _) (Nat.le_refl _) hmc) ?_
  have e : (if m = 0 then a else a.map (·.add (0 * sz))) = a := by
    split
    · rfl
    · cases a with
      | none => rfl
      | some ad => simp [Addr.add]
  simp only [Nat.sub_zero]
  rw [e]; exact h
end
theorem OS.nc {α : Type} {R : Rep α} {X G : List Nat} {w : World} {B n c : Nat} {ty : TypeId} {a : Option Addr} {L : List α} (h : OS R G B X w ty a n c L) : n ≤ c := by rw [h.1]; exact h.rd.1
theorem Sl.clip {α : Type} {R : Rep α} {X : List Nat} {w : World} {a : Option Addr} {c : Nat} {L : List α} (h : Sl R X w a c L) : Sl R X w a L.length L := by
  obtain ⟨h1, h2, h3⟩ := h
  refine ⟨Nat.le_refl _, by omega, ?_⟩
  rcases h3 with ⟨h3, _⟩ | h3
  · exact .inl ⟨h3, fun _ => by rw [h3]; rfl⟩
  · exact .inr h3
theorem Sl.clipN {α : Type} {R : Rep α} {X : List Nat} {w : World} {a : Option Addr} {c n : Nat} {L : List α} (h : Sl R X w a c L) (e : n = L.length) : Sl R X w a n L := e ▸ h.clip
/-- A cell that is as it was. -/
def Pin (w w' : World) (b off : Nat) : Prop := ∀ v, w.cell? ⟨b, off, none⟩ = some v → w'.cell? ⟨b, off, none⟩ = some v
theorem pin_mk {G G' X X' : List Nat} {B B' b off : Nat} {w w' : World} {cs cs' : List Value} {ty ty' : TypeId} {v : Value} (h : OB G B X w b cs ty) (h' : OB G' B' X' w' b cs' ty') (e : cs[off]? = some v) (e' : cs'[off]? = some v) : Pin w w' b off := fun u hu => by
  have h1 := h.2.1.cell' off e
  rw [h1] at hu; injection hu with hu; subst hu
  exact h'.2.1.cell' off e'
theorem map_inj {w : World} {p : Addr} {r r2 : Nat} (h : w.cell? p = some (.map (some r))) (h2 : w.cell? p = some (.map (some r2))) : r2 = r := by
  rw [h] at h2; injection h2 with h2; injection h2 with h2; injection h2 with h2; exact h2.symm
end Go.Proofs.YtdnahdcjnahfkaaGreatDoor
namespace Go.Proofs.YtdnahdcjnahfkaaGreatDoor
open Go
section
variable {P : Program} {w : World} {d : Nat} {xs ys : Array Value} {f : Field} {fs : List Field} {q : Prop} [Decidable q]
theorem eqF_nil : (Op.eqFields d xs ys []).run P w = .ok (decide True) w := by simp [Op.eqFields]
theorem eqF_int {k k' : IntKind} {a b : Int} (hn : (f.name == "_") = false) (h1 : (part f.type xs f.offset).run P w = .ok (.int k a) w) (h2 : (part f.type ys f.offset).run P w = .ok (.int k b) w) (hu : P.underlying f.type = some (.int k'))
    (h : (Op.eqFields (d + 1) xs ys fs).run P w = .ok (decide q) w) : (Op.eqFields (d + 1) xs ys (f :: fs)).run P w = .ok (decide (a = b ∧ q)) w := by
  have hn : f.name ≠ "_" := by simpa using hn
  simp only [Op.eqFields, if_pos hn, Sem.run_bind, h1, h2, Result.andThen_ok, run_equalIn_int w d f.type k k' a b hu]
  by_cases e : a = b
  · subst e; simp [h]
  · have : (a == b) = false := by simpa using e
    simp [this, e]
theorem eqF_str {a b : ByteArray} (hn : (f.name == "_") = false) (h1 : (part f.type xs f.offset).run P w = .ok (.string a) w) (h2 : (part f.type ys f.offset).run P w = .ok (.string b) w) (hu : P.underlying f.type = some .string)
    (h : (Op.eqFields (d + 1) xs ys fs).run P w = .ok (decide q) w) : (Op.eqFields (d + 1) xs ys (f :: fs)).run P w = .ok (decide (a = b ∧ q)) w := by
  have hn : f.name ≠ "_" := by simpa using hn
  simp only [Op.eqFields, if_pos hn, Sem.run_bind, h1, h2, Result.andThen_ok, run_equalIn_string w d f.type a b hu, ← beq_toListBytes]
  by_cases e : a = b
  · subst e; simp [h, ba_beq]
  · have : (a == b) = false := by rw [ba_beq]; exact decide_eq_false e
    simp [this, e]
end
section
variable {P : Program} {n : Nat} {f : Nat → Value} {u : List (Nat × Value)} {w : World}
variable {dst : Option Tmp} {ty : TypeId} {pos : String} {aft : Array Edge} {gd : Option (Nat × Bool)}
theorem x_steq {t t' : TypeId} {x y : Operand} {xs ys : Array Value} {q : Prop} [Decidable q] (fs : List Field) (hx : evf n f u x = .agg xs) (hy : evf n f u y = .agg ys) (ht : P.underlying t = some (.struct (P.fieldsOf t))) (hp : P.stoodInHeld t = false) (hm : P.eqGuardType P.depth t = false) (hfs : (P.fieldsOf t).toList = fs)
    (h : (Op.eqFields 9999 xs ys fs).run P w = .ok (decide q) w) : (execOp (evf n f u) ⟨dst, .binOp .eql t x y t', ty, pos, aft, gd⟩).run P w = .ok (.value (.bool (decide q))) w := by
  subst hfs
  have h1 : (Op.equalIn 10000 t (.agg xs) (.agg ys)).run P w = .ok (decide q) w := (run_equalIn_struct w 9999 t xs ys ht hp).trans h
  simp [execOp, hx, hy, run_eqGuard_agg w .eql t x y xs ys hm, run_eql_struct, h1, Result.andThen]
theorem x_stne {t t' : TypeId} {x y : Operand} {xs ys : Array Value} {q : Prop} [Decidable q] (fs : List Field) (hx : evf n f u x = .agg xs) (hy : evf n f u y = .agg ys) (ht : P.underlying t = some (.struct (P.fieldsOf t))) (hp : P.stoodInHeld t = false) (hm : P.eqGuardType P.depth t = false) (hfs : (P.fieldsOf t).toList = fs)
    (h : (Op.eqFields 9999 xs ys fs).run P w = .ok (decide q) w) : (execOp (evf n f u) ⟨dst, .binOp .neq t x y t', ty, pos, aft, gd⟩).run P w = .ok (.value (.bool (!decide q))) w := by
  subst hfs
  have h1 : (Op.equalIn 10000 t (.agg xs) (.agg ys)).run P w = .ok (decide q) w := (run_equalIn_struct w 9999 t xs ys ht hp).trans h
  simp [execOp, hx, hy, run_eqGuard_agg w .neq t x y xs ys hm, run_neq_struct, h1, Result.andThen]
end
/-- An element of a slice that is ours: what it points to is read only. -/
theorem OS.atX {α : Type} [Inhabited α] {R : Rep α} {X G : List Nat} {w : World} {B n c : Nat} {ty : TypeId} {a : Option Addr} {L : List α} (h : OS R G B X w ty a n c L) (i : Int) (hi : inL L i) :
    ∃ b o cs, a = some ⟨b, o, none⟩ ∧ b ∉ ([] : List Nat) ∧ b < w.heap.size ∧ R.ok X w cs (lget L i) ∧ CellsAt w b (o + i.toNat * R.n) cs := by
  have hlt := hi.lt
  obtain ⟨_, ⟨_, _, xs, ho, hx⟩, _⟩ := h
  rcases ho.2 with ⟨_, h2⟩ | ⟨g, cap, cur, hv, _, hg, _, _, _, _⟩
  · omega
  · injection hv with e1 e2 e3; subst e1
    obtain ⟨cs, h1, h2⟩ := hx.get i.toNat hlt
    rw [lget_eq hi] at h1
    refine ⟨g, 0, cs, rfl, (fun h => by cases h), (Array.getElem?_eq_some_iff.1 hg).1, h1, fun j u hj => ?_⟩
    have := ho.cells (g := g) rfl _ u (h2 j u hj)
    have hadd : (⟨g, 0, none⟩ : Addr).add (i.toNat * R.n + j) = ⟨g, 0 + i.toNat * R.n + j, none⟩ := by unfold Addr.add; split <;> simp_all
    rwa [hadd] at this
theorem new_of {B : Nat} {w : World} {m : List Nat} (hw : B ≤ w.heap.size) (n : ∀ l, Old l w → Ap l m) : ∀ x ∈ m, B ≤ x := fun x hx => by
  rcases Nat.lt_or_ge x B with h | h
  · exact absurd hx (n [x] (fun b hb => by simp at hb; subst hb; omega) x (by simp))
  · exact h
theorem new_app {B : Nat} {w : World} {m m' : List Nat} (hw : B ≤ w.heap.size) (hm : ∀ x ∈ m, B ≤ x) (n : ∀ l, Ap l m → Old l w → Ap l m') : ∀ x ∈ m', B ≤ x := fun x hx => by
  rcases Nat.lt_or_ge x B with h | h
  · exact absurd hx (n [x] (fun b hb hb2 => by simp at hb; subst hb; have := hm b hb2; omega) (fun b hb => by simp at hb; subst hb; omega) x (by simp))
  · exact h
end Go.Proofs.YtdnahdcjnahfkaaGreatDoor
