/- The evaluator: operands and constants. It speaks of any program; nothing of the claim's own program stands here. -/
import Derived.Test.YtfgmmabggjjhgaaGreatDoorEvD
import Derived.Laws.Strings3
import Derived.Laws.StructEq
set_option linter.unusedVariables false
set_option linter.unusedSimpArgs false
namespace Go.Proofs.YtfgmmabggjjhgaaGreatDoor.Ev
open Go

/-- What an operation on two values yields. -/
def BinT (E : Env) (op : BinOp) (x y r : AV) : Prop :=
  ∀ ρ v u, VR E ρ x v → VR E ρ y u → ∃ z, VR E ρ r z ∧ ∀ (P : Program) (w : World) (t : TypeId), (binOp op t v u).run P w = .ok z w

section
variable {F : Facts} {E : Env}

/-! ### Numbers -/
noncomputable def int2K (x y : AV) (c : IntKind → Int → Int → Bool) : Bool := intK x fun k a => intK y fun k' b => ifK (kindEq k k') (c k a b) false
theorem int2K_some {x y : AV} {c : IntKind → Int → Int → Bool} (h : int2K x y c = true) : ∃ k a b, x = .int k a ∧ y = .int k b ∧ c k a b = true := by
  replace h := intK_some h
  obtain ⟨k, a, rfl, h⟩ := h
  replace h := intK_some h
  obtain ⟨k', b, rfl, h⟩ := h
  replace h := ifK_and h
  obtain ⟨hk, h⟩ := h
  have := kindEq_of hk; subst this
  exact ⟨k, a, b, rfl, rfl, h⟩

noncomputable def iAdd (x y : AV) (c : AV → Bool) : Bool := int2K x y fun k a b => wrapK k (Int.add a b) fun r => c (.int k r)
noncomputable def iSub (x y : AV) (c : AV → Bool) : Bool := int2K x y fun k a b => wrapK k (Int.sub a b) fun r => c (.int k r)
noncomputable def iMul (x y : AV) (c : AV → Bool) : Bool := int2K x y fun k a b => wrapK k (Int.mul a b) fun r => c (.int k r)
noncomputable def iQuo (x y : AV) (c : AV → Bool) : Bool := int2K x y fun k a b => ifK (beqI b 0) false (wrapK k (Int.tdiv a b) fun r => c (.int k r))
noncomputable def remL (i m : Nat) (l : List (Nat × Nat × Nat)) (c : Nat → Bool) : Bool :=
  @List.rec (Nat × Nat × Nat) (fun _ => Bool) false (fun p _ ih => ifK (Nat.beq p.1 i) (ifK (Nat.beq p.2.1 m) (c p.2.2) ih) ih) l
theorem remL_some {i m : Nat} {c : Nat → Bool} : ∀ {l : List (Nat × Nat × Nat)}, remL i m l c = true → ∃ r, (i, m, r) ∈ l ∧ c r = true
  | [], h => by cases h
  | p :: l, h => by
    change ifK (Nat.beq p.1 i) (ifK (Nat.beq p.2.1 m) (c p.2.2) (remL i m l c)) (remL i m l c) = true at h
    have rest : remL i m l c = true → ∃ r, (i, m, r) ∈ p :: l ∧ c r = true := fun h => by
      obtain ⟨r, h1, h2⟩ := remL_some h; exact ⟨r, List.mem_cons_of_mem _ h1, h2⟩
    cases h1 : Nat.beq p.1 i with
    | false => rw [h1] at h; exact rest h
    | true =>
      rw [h1] at h
      change ifK (Nat.beq p.2.1 m) (c p.2.2) (remL i m l c) = true at h
      cases h2 : Nat.beq p.2.1 m with
      | false => rw [h2] at h; exact rest h
      | true =>
        rw [h2] at h
        refine ⟨p.2.2, ?_, h⟩
        have e1 := beq_of h1; have e2 := beq_of h2
        subst e1; subst e2
        exact List.mem_cons_self
noncomputable def iRem (F : Facts) (x y : AV) (c : AV → Bool) : Bool :=
  numK x (fun k a => intK y fun k' b => ifK (kindEq k k') (ifK (beqI b 0) false (forceI (Int.tmod a b) fun r => c (.int k r))) false) (fun _ _ => false)
    (fun k i => intK y fun k' b => ifK (kindEq k k') (@Int.rec (fun _ => Bool) (fun m => ifK (Nat.beq m 0) false (remL i m F.rems fun r => c (.int k (Int.ofNat r)))) (fun _ => false) b) false)
noncomputable def bitK (f : Nat → Nat → Nat) (slow : IntKind → Int → Int → Int) (k : IntKind) (a b : Int) (c : Int → Bool) : Bool :=
  @Int.rec (fun _ => Bool) (fun m => @Int.rec (fun _ => Bool) (fun n => ifK (Nat.blt m (limN k)) (ifK (Nat.blt n (limN k)) (forceN (f m n) fun r => c (Int.ofNat r)) (forceI (slow k (Int.ofNat m) (Int.ofNat n)) c)) (forceI (slow k (Int.ofNat m) (Int.ofNat n)) c))
    (fun n => forceI (slow k (Int.ofNat m) (Int.negSucc n)) c) b) (fun m => forceI (slow k (Int.negSucc m) b) c) a
noncomputable def sAnd (k : IntKind) (a b : Int) : Int := k.wrap (BitVec.ofInt k.bits a &&& BitVec.ofInt k.bits b).toNat
noncomputable def sOr (k : IntKind) (a b : Int) : Int := k.wrap (BitVec.ofInt k.bits a ||| BitVec.ofInt k.bits b).toNat
noncomputable def sXor (k : IntKind) (a b : Int) : Int := k.wrap (BitVec.ofInt k.bits a ^^^ BitVec.ofInt k.bits b).toNat
noncomputable def sAndNot (k : IntKind) (a b : Int) : Int := k.wrap (BitVec.ofInt k.bits a &&& ~~~BitVec.ofInt k.bits b).toNat
noncomputable def iAnd (x y : AV) (c : AV → Bool) : Bool := int2K x y fun k a b => bitK Nat.land sAnd k a b fun r => c (.int k r)
noncomputable def iOr (x y : AV) (c : AV → Bool) : Bool := int2K x y fun k a b => bitK Nat.lor sOr k a b fun r => c (.int k r)
noncomputable def iXor (x y : AV) (c : AV → Bool) : Bool := int2K x y fun k a b => bitK Nat.xor sXor k a b fun r => c (.int k r)
noncomputable def iAndNot (x y : AV) (c : AV → Bool) : Bool := int2K x y fun k a b => forceI (sAndNot k a b) fun r => c (.int k r)
noncomputable def bitsN (k : IntKind) : Nat := @IntKind.rec (fun _ => Nat) 8 16 32 64 8 16 32 64 k
noncomputable def iShl (x y : AV) (c : AV → Bool) : Bool :=
  intK x fun k a => intK y fun _ b => @Int.rec (fun _ => Bool) (fun n => ifK (Nat.ble n (bitsN k)) (wrapK k (Int.mul a (Int.ofNat (Nat.pow 2 n))) fun r => c (.int k r)) false) (fun _ => false) b
noncomputable def iShr (x y : AV) (c : AV → Bool) : Bool :=
  intK x fun k a => intK y fun _ b => @Int.rec (fun _ => Bool) (fun n => ifK (Nat.ble n (bitsN k)) (forceI (Int.fdiv a (Int.ofNat (Nat.pow 2 n))) fun r => c (.int k r)) false) (fun _ => false) b

theorem limN_le (k : IntKind) : limN k ≤ 2 ^ k.bits := by cases k <;> simp [limN, IntKind.bits]
theorem limN_pow (k : IntKind) : ∃ j, limN k = 2 ^ j := by
  cases k
  · exact ⟨7, rfl⟩
  · exact ⟨15, rfl⟩
  · exact ⟨31, rfl⟩
  · exact ⟨63, rfl⟩
  · exact ⟨8, rfl⟩
  · exact ⟨16, rfl⟩
  · exact ⟨32, rfl⟩
  · exact ⟨64, rfl⟩
theorem wrap_lim (k : IntKind) {m : Nat} (h : m < limN k) : k.wrap (m : Int) = (m : Int) := by
  refine wrap_in k ?_ ?_
  · cases k <;> simp [IntKind.min, IntKind.signed, IntKind.bits]
  · cases k <;> simp [limN] at h <;> simp [IntKind.max, IntKind.signed, IntKind.bits] <;> omega
theorem ofInt_toNat (k : IntKind) {m : Nat} (h : m < limN k) : (BitVec.ofInt k.bits (Int.ofNat m)).toNat = m := by
  have := limN_le k
  simp only [Int.ofNat_eq_natCast, BitVec.ofInt_natCast, BitVec.toNat_ofNat]
  exact Nat.mod_eq_of_lt (by omega)
theorem bitK_some {f : Nat → Nat → Nat} {slow : IntKind → Int → Int → Int} {k : IntKind} {a b : Int} {c : Int → Bool} (hf : ∀ m n, m < limN k → n < limN k → slow k (Int.ofNat m) (Int.ofNat n) = Int.ofNat (f m n))
    (h : bitK f slow k a b c = true) : c (slow k a b) = true := by
  cases a with
  | ofNat m =>
    cases b with
    | ofNat n =>
      change ifK (Nat.blt m (limN k)) (ifK (Nat.blt n (limN k)) (forceN (f m n) fun r => c (Int.ofNat r)) (forceI (slow k (Int.ofNat m) (Int.ofNat n)) c)) (forceI (slow k (Int.ofNat m) (Int.ofNat n)) c) = true at h
      rw [forceN_eq, forceI_eq] at h
      cases h1 : Nat.blt m (limN k) with
      | false => rw [h1] at h; exact h
      | true =>
        rw [h1] at h
        change ifK (Nat.blt n (limN k)) (c (Int.ofNat (f m n))) (c (slow k (Int.ofNat m) (Int.ofNat n))) = true at h
        cases h2 : Nat.blt n (limN k) with
        | false => rw [h2] at h; exact h
        | true => rw [h2] at h; rw [hf m n (blt_of h1) (blt_of h2)]; exact h
    | negSucc n => change forceI (slow k (Int.ofNat m) (Int.negSucc n)) c = true at h; rwa [forceI_eq] at h
  | negSucc m => change forceI (slow k (Int.negSucc m) b) c = true at h; rwa [forceI_eq] at h
theorem fast_and (k : IntKind) (m n : Nat) (hm : m < limN k) (hn : n < limN k) : sAnd k (Int.ofNat m) (Int.ofNat n) = Int.ofNat (Nat.land m n) := by
  unfold sAnd
  rw [BitVec.toNat_and, ofInt_toNat k hm, ofInt_toNat k hn]
  obtain ⟨j, hj⟩ := limN_pow k
  rw [hj] at hm hn
  exact wrap_lim k (by rw [hj]; exact Nat.and_lt_two_pow _ hn)
theorem fast_or (k : IntKind) (m n : Nat) (hm : m < limN k) (hn : n < limN k) : sOr k (Int.ofNat m) (Int.ofNat n) = Int.ofNat (Nat.lor m n) := by
  unfold sOr
  rw [BitVec.toNat_or, ofInt_toNat k hm, ofInt_toNat k hn]
  obtain ⟨j, hj⟩ := limN_pow k
  rw [hj] at hm hn
  exact wrap_lim k (by rw [hj]; exact Nat.or_lt_two_pow hm hn)
theorem fast_xor (k : IntKind) (m n : Nat) (hm : m < limN k) (hn : n < limN k) : sXor k (Int.ofNat m) (Int.ofNat n) = Int.ofNat (Nat.xor m n) := by
  unfold sXor
  rw [BitVec.toNat_xor, ofInt_toNat k hm, ofInt_toNat k hn]
  obtain ⟨j, hj⟩ := limN_pow k
  rw [hj] at hm hn
  exact wrap_lim k (by rw [hj]; exact Nat.xor_lt_two_pow hm hn)

/-- A law that is told of numbers alone. -/
theorem BinT.of_int {op : BinOp} {k k' : IntKind} {a b : Int} {r : AV} {z : Value} (hr : ∀ ρ, VR E ρ r z) (h : ∀ (P : Program) (w : World) (t : TypeId), (binOp op t (.int k a) (.int k' b)).run P w = .ok z w) : BinT E op (.int k a) (.int k' b) r := by
  intro ρ v u hv hu
  simp only [VR] at hv hu
  subst hv; subst hu
  exact ⟨z, hr ρ, h⟩
theorem BinT.int {op : BinOp} {k k' : IntKind} {a b r : Int} (h : ∀ (P : Program) (w : World) (t : TypeId), (binOp op t (.int k a) (.int k' b)).run P w = .ok (.int k r) w) : BinT E op (.int k a) (.int k' b) (.int k r) :=
  .of_int (fun ρ => by simp only [VR]) h
theorem binOp_bits {op : BinOp} {t : TypeId} {k : IntKind} {a b : Int} (hop : op = .and ∨ op = .or ∨ op = .xor ∨ op = .andNot) : binOp op t (.int k a) (.int k b) = Op.intBits op k a b := by
  rcases hop with rfl | rfl | rfl | rfl <;> simp [binOp]
theorem iAdd_some {x y : AV} {c : AV → Bool} (h : iAdd x y c = true) : ∃ r, c r = true ∧ BinT E .add x y r := by
  replace h := int2K_some h
  obtain ⟨k, a, b, rfl, rfl, h⟩ := h
  rw [wrapK_eq] at h
  exact ⟨_, h, .int fun P w t => by simp [binOp, Op.intArith]⟩
theorem iSub_some {x y : AV} {c : AV → Bool} (h : iSub x y c = true) : ∃ r, c r = true ∧ BinT E .sub x y r := by
  replace h := int2K_some h
  obtain ⟨k, a, b, rfl, rfl, h⟩ := h
  rw [wrapK_eq] at h
  exact ⟨_, h, .int fun P w t => by simp [binOp, Op.intArith]; rfl⟩
theorem iMul_some {x y : AV} {c : AV → Bool} (h : iMul x y c = true) : ∃ r, c r = true ∧ BinT E .mul x y r := by
  replace h := int2K_some h
  obtain ⟨k, a, b, rfl, rfl, h⟩ := h
  rw [wrapK_eq] at h
  exact ⟨_, h, .int fun P w t => by simp [binOp, Op.intArith]⟩
theorem notz {b : Int} {t : Bool} (h : ifK (beqI b 0) false t = true) : b ≠ 0 ∧ t = true := by
  rw [ifK_eq, beqI_eq] at h
  by_cases h0 : b = 0
  · simp [h0] at h
  · simp [h0] at h; exact ⟨h0, h⟩
theorem iQuo_some {x y : AV} {c : AV → Bool} (h : iQuo x y c = true) : ∃ r, c r = true ∧ BinT E .quo x y r := by
  replace h := int2K_some h
  obtain ⟨k, a, b, rfl, rfl, h⟩ := h
  replace h := notz h
  obtain ⟨h0, h⟩ := h
  rw [wrapK_eq] at h
  exact ⟨_, h, .int fun P w t => by simp [binOp, Op.intDiv, h0]⟩
theorem iRem_some (hF : F.Of E) {x y : AV} {c : AV → Bool} (h : iRem F x y c = true) : ∃ r, c r = true ∧ BinT E .rem x y r := by
  replace h := numK_some h
  rcases h with ⟨k, a, rfl, h⟩ | ⟨_, _, _, h⟩ | ⟨k, i, rfl, h⟩
  · replace h := intK_some h
    obtain ⟨k', b, rfl, h⟩ := h
    replace h := ifK_and h
    obtain ⟨hk, h⟩ := h
    have := kindEq_of hk; subst this
    replace h := notz h
    obtain ⟨h0, h⟩ := h
    rw [forceI_eq] at h
    exact ⟨_, h, .int fun P w t => by simp [binOp, Op.intDiv, h0]⟩
  · cases h
  · replace h := intK_some h
    obtain ⟨k', b, rfl, h⟩ := h
    replace h := ifK_and h
    obtain ⟨hk, h⟩ := h
    have := kindEq_of hk; subst this
    cases b with
    | negSucc n => cases h
    | ofNat m =>
      change ifK (Nat.beq m 0) false (remL i m F.rems fun r => c (.int k (Int.ofNat r))) = true at h
      have hm : m ≠ 0 := fun e => by subst e; cases h
      have h : remL i m F.rems (fun r => c (.int k (Int.ofNat r))) = true := by
        rw [ifK_eq] at h
        cases hb : Nat.beq m 0 with
        | true => exact absurd (beq_of hb) hm
        | false => rw [hb] at h; exact h
      replace h := remL_some h
      obtain ⟨r, hr, h⟩ := h
      have hmod := hF.rems _ hr
      refine ⟨_, h, fun ρ v u hv hu => ?_⟩
      simp only [VR] at hv hu
      subst hv; subst hu
      refine ⟨.int k (Int.ofNat r), by simp only [VR], fun P w t => ?_⟩
      have : Int.tmod (E.arg i : Int) (Int.ofNat m) = Int.ofNat r := by
        rw [show (E.arg i : Int) = Int.ofNat (E.arg i) from rfl]
        show Int.ofNat (E.arg i % m) = Int.ofNat r
        rw [hmod]
      simp [binOp, Op.intDiv, hm]
      exact this
theorem iAnd_some {x y : AV} {c : AV → Bool} (h : iAnd x y c = true) : ∃ r, c r = true ∧ BinT E .and x y r := by
  replace h := int2K_some h
  obtain ⟨k, a, b, rfl, rfl, h⟩ := h
  exact ⟨_, bitK_some (fast_and k) h, .int fun P w t => by rw [binOp_bits (by simp)]; rfl⟩
theorem iOr_some {x y : AV} {c : AV → Bool} (h : iOr x y c = true) : ∃ r, c r = true ∧ BinT E .or x y r := by
  replace h := int2K_some h
  obtain ⟨k, a, b, rfl, rfl, h⟩ := h
  exact ⟨_, bitK_some (fast_or k) h, .int fun P w t => by rw [binOp_bits (by simp)]; rfl⟩
theorem iXor_some {x y : AV} {c : AV → Bool} (h : iXor x y c = true) : ∃ r, c r = true ∧ BinT E .xor x y r := by
  replace h := int2K_some h
  obtain ⟨k, a, b, rfl, rfl, h⟩ := h
  exact ⟨_, bitK_some (fast_xor k) h, .int fun P w t => by rw [binOp_bits (by simp)]; rfl⟩
theorem iAndNot_some {x y : AV} {c : AV → Bool} (h : iAndNot x y c = true) : ∃ r, c r = true ∧ BinT E .andNot x y r := by
  replace h := int2K_some h
  obtain ⟨k, a, b, rfl, rfl, h⟩ := h
  rw [forceI_eq] at h
  exact ⟨_, h, .int fun P w t => by rw [binOp_bits (by simp)]; rfl⟩
theorem bitsN_eq (k : IntKind) : bitsN k = k.bits := by cases k <;> rfl
theorem pow_cast (n : Nat) : Int.ofNat (Nat.pow 2 n) = (2 : Int) ^ n := by
  show ((2 ^ n : Nat) : Int) = _
  simp
theorem iShl_some {x y : AV} {c : AV → Bool} (h : iShl x y c = true) : ∃ r, c r = true ∧ BinT E .shl x y r := by
  replace h := intK_some h
  obtain ⟨k, a, rfl, h⟩ := h
  replace h := intK_some h
  obtain ⟨k', b, rfl, h⟩ := h
  cases b with
  | negSucc n => cases h
  | ofNat n =>
    replace h := ifK_and h
    obtain ⟨hn, h⟩ := h
    have hn := ble_of hn
    rw [bitsN_eq] at hn
    rw [wrapK_eq] at h
    refine ⟨_, h, .of_int (z := .int k (k.wrap (a * 2 ^ n))) (fun ρ => by simp only [VR]; rw [pow_cast]; rfl) fun P w t => ?_⟩
    have h1 : ¬ ((n : Int) < 0) := by omega
    simp [binOp, Op.shift, h1, Nat.min_eq_left hn]
theorem iShr_some {x y : AV} {c : AV → Bool} (h : iShr x y c = true) : ∃ r, c r = true ∧ BinT E .shr x y r := by
  replace h := intK_some h
  obtain ⟨k, a, rfl, h⟩ := h
  replace h := intK_some h
  obtain ⟨k', b, rfl, h⟩ := h
  cases b with
  | negSucc n => cases h
  | ofNat n =>
    replace h := ifK_and h
    obtain ⟨hn, h⟩ := h
    have hn := ble_of hn
    rw [bitsN_eq] at hn
    rw [forceI_eq] at h
    refine ⟨_, h, .of_int (z := .int k (a.fdiv (2 ^ n))) (fun ρ => by simp only [VR]; rw [pow_cast]) fun P w t => ?_⟩
    have h1 : ¬ ((n : Int) < 0) := by omega
    simp [binOp, Op.shift, h1, Nat.min_eq_left hn]

/-! ### The order of two numbers: 0, 1, 2 -/
noncomputable def ordI (a b : Int) (c : Nat → Bool) : Bool := ifK (bltI a b) (c 0) (ifK (beqI a b) (c 1) (c 2))
noncomputable def symN (i : Nat) (n : Int) (lt gt : Bool) : Bool := ifK (bltI n 97) gt (ifK (bltI 122 n) lt false)
noncomputable def ordK (x y : AV) (c : Nat → Bool) : Bool :=
  numK x (fun k a => numK y (fun k' b => ifK (kindEq k k') (ordI a b c) false) (fun k' j => ifK (kindEq k k') (symN j a (c 2) (c 0)) false) (fun _ _ => false))
    (fun k i => numK y (fun k' b => ifK (kindEq k k') (symN i b (c 0) (c 2)) false) (fun k' j => ifK (kindEq k k') (ifK (Nat.beq i j) (c 1) false) false) (fun _ _ => false)) (fun _ _ => false)
/-- What the number says of two numbers. -/
def OrdIs (n : Nat) (a b : Int) : Prop := (n = 0 ∧ a < b) ∨ (n = 1 ∧ a = b) ∨ (n = 2 ∧ b < a)
theorem ordI_some {a b : Int} {c : Nat → Bool} (h : ordI a b c = true) : ∃ n, c n = true ∧ OrdIs n a b := by
  unfold ordI at h
  rw [ifK_eq, ifK_eq, bltI_eq, beqI_eq] at h
  by_cases h1 : a < b
  · simp [h1] at h; exact ⟨0, h, .inl ⟨rfl, h1⟩⟩
  · by_cases h2 : a = b
    · simp [h1, h2] at h; exact ⟨1, h, .inr (.inl ⟨rfl, h2⟩)⟩
    · simp [h1, h2] at h; exact ⟨2, h, .inr (.inr ⟨rfl, by omega⟩)⟩
theorem symN_some {i : Nat} {n : Int} {lt gt : Bool} (h : symN i n lt gt = true) : (gt = true ∧ ∀ j, n < (E.letter j : Int)) ∨ (lt = true ∧ ∀ j, (E.letter j : Int) < n) := by
  unfold symN at h
  rw [ifK_eq, ifK_eq, bltI_eq, bltI_eq] at h
  by_cases h1 : n < 97
  · simp [h1] at h; exact .inl ⟨h, fun j => by have := E.lo j; omega⟩
  · by_cases h2 : 122 < n
    · simp [h1, h2] at h; exact .inr ⟨h, fun j => by have := E.hi j; omega⟩
    · simp [h1, h2] at h
theorem ordK_some {x y : AV} {c : Nat → Bool} (h : ordK x y c = true) : ∃ n, c n = true ∧ ∀ ρ v u, VR E ρ x v → VR E ρ y u → ∃ k a b, v = .int k a ∧ u = .int k b ∧ OrdIs n a b := by
  replace h := numK_some h
  rcases h with ⟨k, a, rfl, h⟩ | ⟨k, i, rfl, h⟩ | ⟨_, _, _, h⟩
  · replace h := numK_some h
    rcases h with ⟨k', b, rfl, h⟩ | ⟨k', j, rfl, h⟩ | ⟨_, _, _, h⟩
    · replace h := ifK_and h
      obtain ⟨hk, h⟩ := h
      have := kindEq_of hk; subst this
      obtain ⟨n, hn, ho⟩ := ordI_some h
      refine ⟨n, hn, fun ρ v u hv hu => ?_⟩
      simp only [VR] at hv hu
      exact ⟨k, a, b, hv, hu, ho⟩
    · replace h := ifK_and h
      obtain ⟨hk, h⟩ := h
      have := kindEq_of hk; subst this
      replace h := symN_some (E := E) h
      rcases h with ⟨hc, ho⟩ | ⟨hc, ho⟩
      · exact ⟨0, hc, fun ρ v u hv hu => by simp only [VR] at hv hu; exact ⟨k, _, _, hv, hu, .inl ⟨rfl, ho j⟩⟩⟩
      · exact ⟨2, hc, fun ρ v u hv hu => by simp only [VR] at hv hu; exact ⟨k, _, _, hv, hu, .inr (.inr ⟨rfl, ho j⟩)⟩⟩
    · cases h
  · replace h := numK_some h
    rcases h with ⟨k', b, rfl, h⟩ | ⟨k', j, rfl, h⟩ | ⟨_, _, _, h⟩
    · replace h := ifK_and h
      obtain ⟨hk, h⟩ := h
      have := kindEq_of hk; subst this
      replace h := symN_some (E := E) h
      rcases h with ⟨hc, ho⟩ | ⟨hc, ho⟩
      · exact ⟨2, hc, fun ρ v u hv hu => by simp only [VR] at hv hu; exact ⟨k, _, _, hv, hu, .inr (.inr ⟨rfl, ho i⟩)⟩⟩
      · exact ⟨0, hc, fun ρ v u hv hu => by simp only [VR] at hv hu; exact ⟨k, _, _, hv, hu, .inl ⟨rfl, ho i⟩⟩⟩
    · replace h := ifK_and h
      obtain ⟨hk, h⟩ := h
      have := kindEq_of hk; subst this
      replace h := ifK_and h
      obtain ⟨hij, h⟩ := h
      have := beq_of hij; subst this
      exact ⟨1, h, fun ρ v u hv hu => by simp only [VR] at hv hu; exact ⟨k, _, _, hv, hu, .inr (.inl ⟨rfl, rfl⟩)⟩⟩
    · cases h
  · cases h

noncomputable def isN (n m : Nat) (c : AV → Bool) : Bool := ifK (Nat.beq n m) (c (.bool true)) (c (.bool false))
noncomputable def notN (n m : Nat) (c : AV → Bool) : Bool := ifK (Nat.beq n m) (c (.bool false)) (c (.bool true))
theorem isN_some {n m : Nat} {c : AV → Bool} (h : isN n m c = true) : c (.bool (decide (n = m))) = true := by
  unfold isN at h
  rw [ifK_eq] at h
  by_cases e : n = m
  · subst e; simpa using h
  · cases hb : Nat.beq n m with
    | true => exact absurd (beq_of hb) e
    | false => rw [hb] at h; rw [decide_eq_false e]; exact h
theorem notN_some {n m : Nat} {c : AV → Bool} (h : notN n m c = true) : c (.bool (!decide (n = m))) = true := by
  unfold notN at h
  rw [ifK_eq] at h
  by_cases e : n = m
  · subst e; simpa using h
  · cases hb : Nat.beq n m with
    | true => exact absurd (beq_of hb) e
    | false => rw [hb] at h; rw [decide_eq_false e]; exact h
noncomputable def iLss (x y : AV) (c : AV → Bool) : Bool := ordK x y fun n => isN n 0 c
noncomputable def iGeq (x y : AV) (c : AV → Bool) : Bool := ordK x y fun n => notN n 0 c
noncomputable def iGtr (x y : AV) (c : AV → Bool) : Bool := atlK y (fun q m => intK x fun q' a => ifK (kindEq q' q) (ifK (bltI (Int.ofNat m) a) false (c (.bool false))) false) (ordK x y fun n => isN n 2 c)
noncomputable def iLeq (x y : AV) (c : AV → Bool) : Bool := ordK x y fun n => notN n 2 c
theorem iCmp_some {op : BinOp} {x y : AV} {c : AV → Bool} {g : Nat → (AV → Bool) → Bool} (f : Nat → Bool) (hg : ∀ n, g n c = true → c (.bool (f n)) = true) (h : ordK x y (fun n => g n c) = true)
    (ho : ∀ n a b, OrdIs n a b → ∀ k (P : Program) (w : World) (t : TypeId), (binOp op t (.int k a) (.int k b)).run P w = .ok (.bool (f n)) w) : ∃ r, c r = true ∧ BinT E op x y r := by
  obtain ⟨n, hn, hb⟩ := ordK_some (E := E) h
  refine ⟨_, hg n hn, fun ρ v u hv hu => ?_⟩
  obtain ⟨k, a, b, rfl, rfl, hO⟩ := hb ρ v u hv hu
  exact ⟨_, by simp only [VR], ho n a b hO k⟩
theorem iLss_some {x y : AV} {c : AV → Bool} (h : iLss x y c = true) : ∃ r, c r = true ∧ BinT E .lss x y r :=
  iCmp_some (g := fun n c => isN n 0 c) _ (fun _ => isN_some) h fun n a b ho k P w t => by
    have : decide (a < b) = decide (n = 0) := decide_eq_decide.2 (by unfold OrdIs at ho; omega)
    simp [binOp, Op.intCmp, this]
theorem iGeq_some {x y : AV} {c : AV → Bool} (h : iGeq x y c = true) : ∃ r, c r = true ∧ BinT E .geq x y r :=
  iCmp_some (g := fun n c => notN n 0 c) _ (fun _ => notN_some) h fun n a b ho k P w t => by
    have : decide (b ≤ a) = !decide (n = 0) := by
      rw [← decide_not]; exact decide_eq_decide.2 (by unfold OrdIs at ho; omega)
    simp [binOp, Op.intCmp, this]
theorem iGtr_old {x y : AV} {c : AV → Bool} (h : (ordK x y fun n => isN n 2 c) = true) : ∃ r, c r = true ∧ BinT E .gtr x y r :=
  iCmp_some (g := fun n c => isN n 2 c) _ (fun _ => isN_some) h fun n a b ho k P w t => by
    have : decide (b < a) = decide (n = 2) := decide_eq_decide.2 (by unfold OrdIs at ho; omega)
    simp [binOp, Op.intCmp, this]
theorem iGtr_some {x y : AV} {c : AV → Bool} (h : iGtr x y c = true) : ∃ r, c r = true ∧ BinT E .gtr x y r := by
  unfold iGtr at h
  replace h := atlK_some h
  rcases h with ⟨q, m, rfl, h⟩ | h
  · replace h := intK_some h
    obtain ⟨q', a, rfl, h⟩ := h
    replace h := ifK_and h
    obtain ⟨hq, h⟩ := h
    have := kindEq_of hq; subst this
    rw [ifK_eq, bltI_eq] at h
    by_cases hlt : (Int.ofNat m) < a
    · rw [decide_eq_true hlt] at h; cases h
    · rw [decide_eq_false hlt] at h
      refine ⟨_, h, fun ρ v u hv hu => ?_⟩
      simp only [VR] at hv hu
      obtain ⟨m', rfl, hm'⟩ := hu
      subst hv
      have : ¬ ((m' : Int) < a) := by
        have : (Int.ofNat m) = (m : Int) := rfl
        omega
      exact ⟨.bool false, by simp only [VR], fun P w t => by simp [binOp, Op.intCmp, this]⟩
  · exact iGtr_old h
theorem iLeq_some {x y : AV} {c : AV → Bool} (h : iLeq x y c = true) : ∃ r, c r = true ∧ BinT E .leq x y r :=
  iCmp_some (g := fun n c => notN n 2 c) _ (fun _ => notN_some) h fun n a b ho k P w t => by
    have : decide (a ≤ b) = !decide (n = 2) := by
      rw [← decide_not]; exact decide_eq_decide.2 (by unfold OrdIs at ho; omega)
    simp [binOp, Op.intCmp, this]
end

noncomputable def noOp (_ _ : AV) (_ : AV → Bool) : Bool := false
/-- An operation on two numbers (no equality). -/
noncomputable def ibF (F : Facts) (op : BinOp) : AV → AV → (AV → Bool) → Bool :=
  @BinOp.rec (fun _ => AV → AV → (AV → Bool) → Bool) iAdd iSub iMul iQuo (iRem F) iAnd iOr iXor iShl iShr iAndNot noOp noOp iLss iLeq iGtr iGeq op
theorem ibF_some {F : Facts} {E : Env} (hF : F.Of E) {op : BinOp} {x y : AV} {c : AV → Bool} (h : ibF F op x y c = true) : ∃ r, c r = true ∧ BinT E op x y r := by
  cases op with
  | add => exact iAdd_some h
  | sub => exact iSub_some h
  | mul => exact iMul_some h
  | quo => exact iQuo_some h
  | rem => exact iRem_some hF h
  | and => exact iAnd_some h
  | or => exact iOr_some h
  | xor => exact iXor_some h
  | shl => exact iShl_some h
  | shr => exact iShr_some h
  | andNot => exact iAndNot_some h
  | eql => cases h
  | neq => cases h
  | lss => exact iLss_some h
  | leq => exact iLeq_some h
  | gtr => exact iGtr_some h
  | geq => exact iGeq_some h
end Go.Proofs.YtfgmmabggjjhgaaGreatDoor.Ev
namespace Go.Proofs.YtfgmmabggjjhgaaGreatDoor.Ev
open Go

section
variable {F : Facts} {E : Env}
def Env.num (E : Env) (n : Nat) : Nat := if n < 256 then n else E.letter (n - 256)
theorem num_lt (n : Nat) : E.num n < 256 := by
  unfold Env.num; split
  · assumption
  · have := E.hi (n - 256); omega
theorem byte_num (n : Nat) : (E.byte n).toNat = E.num n := by
  have := num_lt (E := E) n
  unfold Env.byte Env.num at *
  split
  · rename_i h; simp; omega
  · rename_i h; rw [if_neg h] at this; simp; omega
theorem byte_inj {a b : Nat} : E.byte a = E.byte b ↔ E.num a = E.num b := by
  rw [← byte_num, ← byte_num]; exact UInt8.toNat_inj.symm
theorem byte_lt {a b : Nat} : E.byte a < E.byte b ↔ E.num a < E.num b := by
  rw [← byte_num, ← byte_num]; exact UInt8.lt_iff_toNat_lt
theorem bytes_toList (s : List Nat) : (E.bytes s).toList = s.map E.byte := by unfold Env.bytes; rw [ByteArray.toList_mk]
theorem bytes_size (s : List Nat) : (E.bytes s).size = s.length := by simp [Env.bytes, ByteArray.size]
theorem bytes_append (s t : List Nat) : E.bytes s ++ E.bytes t = E.bytes (s ++ t) := by
  unfold Env.bytes
  apply ByteArray.ext
  simp [ByteArray.data_append]

/-- Of two that are not the same number: do they surely stand for other bytes? -/
noncomputable def difK (ap : Bool) (x y : Nat) (d u : Bool) : Bool :=
  ifK (Nat.blt x 256) (ifK (Nat.blt y 256) d (ifK (Nat.blt x 97) d (ifK (Nat.blt 122 x) d u))) (ifK (Nat.blt y 256) (ifK (Nat.blt y 97) d (ifK (Nat.blt 122 y) d u)) (ifK ap (ifK (Nat.blt x 258) (ifK (Nat.blt y 258) d u) u) u))
theorem difK_some (hF : F.Of E) {x y : Nat} {d u : Bool} (hne : x ≠ y) (h : difK F.apart x y d u = true) : (d = true ∧ E.num x ≠ E.num y) ∨ u = true := by
  unfold difK at h
  simp only [ifK_eq, bltN, decide_eq_true_eq] at h
  by_cases hx : x < 256 <;> by_cases hy : y < 256
  · simp only [hx, hy, if_true] at h
    exact .inl ⟨h, by simp [Env.num, hx, hy, hne]⟩
  · simp only [hx, hy, if_true, if_false] at h
    have h1 := E.lo (y - 256); have h2 := E.hi (y - 256)
    have hn : E.num x = x := by simp [Env.num, hx]
    have hm : E.num y = E.letter (y - 256) := by simp [Env.num, hy]
    by_cases a : x < 97
    · simp only [a, if_true] at h; exact .inl ⟨h, by rw [hn, hm]; omega⟩
    · by_cases b : 122 < x
      · simp only [a, b, if_true, if_false] at h; exact .inl ⟨h, by rw [hn, hm]; omega⟩
      · simp only [a, b, if_false] at h; exact .inr h
  · simp only [hx, hy, if_true, if_false] at h
    have h1 := E.lo (x - 256); have h2 := E.hi (x - 256)
    have hn : E.num y = y := by simp [Env.num, hy]
    have hm : E.num x = E.letter (x - 256) := by simp [Env.num, hx]
    by_cases a : y < 97
    · simp only [a, if_true] at h; exact .inl ⟨h, by rw [hn, hm]; omega⟩
    · by_cases b : 122 < y
      · simp only [a, b, if_true, if_false] at h; exact .inl ⟨h, by rw [hn, hm]; omega⟩
      · simp only [a, b, if_false] at h; exact .inr h
  · simp only [hx, hy, if_false] at h
    by_cases a : F.apart = true
    · simp only [a, if_true] at h
      by_cases hx' : x < 258
      · by_cases hy' : y < 258
        · simp only [hx', hy', if_true] at h
          refine .inl ⟨h, ?_⟩
          have := hF.apart a (x - 256) (y - 256) (by omega) (by omega) (by omega)
          simpa [Env.num, hx, hy] using this
        · simp only [hx', hy', if_true, if_false] at h; exact .inr h
      · simp only [hx', if_false] at h; exact .inr h
    · simp only [a] at h; exact .inr (by simpa using h)

/-- They are not alike: from here on it is only asked what parts them. -/
noncomputable def eqU (ap : Bool) (c : Bool) (l : List Nat) : List Nat → Bool :=
  @List.rec Nat (fun _ => List Nat → Bool) (fun m => @List.rec Nat (fun _ => Bool) false (fun _ _ _ => c) m)
    (fun x _ ih m => @List.rec Nat (fun _ => Bool) c (fun y ys _ => ifK (Nat.beq x y) (ih ys) (difK ap x y c (ih ys))) m) l
theorem eqU_some (hF : F.Of E) {c : Bool} : ∀ {l m : List Nat}, eqU F.apart c l m = true → c = true ∧ l.map E.num ≠ m.map E.num
  | [], [], h => by cases h
  | [], y :: m, h => ⟨h, by simp⟩
  | x :: l, [], h => ⟨h, by simp⟩
  | x :: l, y :: m, h => by
    change ifK (Nat.beq x y) (eqU F.apart c l m) (difK F.apart x y c (eqU F.apart c l m)) = true at h
    have rest : eqU F.apart c l m = true → c = true ∧ (x :: l).map E.num ≠ (y :: m).map E.num := fun h => by
      obtain ⟨h1, h2⟩ := eqU_some hF h
      exact ⟨h1, fun e => h2 (by simp only [List.map_cons, List.cons.injEq] at e; exact e.2)⟩
    cases hb : Nat.beq x y with
    | true => rw [hb] at h; exact rest h
    | false =>
      rw [hb] at h
      have hne : x ≠ y := fun e => by subst e; simp at hb
      replace h := difK_some hF hne h
      rcases h with ⟨h1, h2⟩ | h
      · exact ⟨h1, fun e => h2 (by simp only [List.map_cons, List.cons.injEq] at e; exact e.1)⟩
      · exact rest h
noncomputable def eqS (ap : Bool) (c : Bool → Bool) (l : List Nat) : List Nat → Bool :=
  @List.rec Nat (fun _ => List Nat → Bool) (fun m => @List.rec Nat (fun _ => Bool) (c true) (fun _ _ _ => c false) m)
    (fun x xs ih m => @List.rec Nat (fun _ => Bool) (c false) (fun y ys _ => ifK (Nat.beq x y) (ih ys) (difK ap x y (c false) (eqU ap (c false) xs ys))) m) l
theorem eqS_some (hF : F.Of E) {c : Bool → Bool} : ∀ {l m : List Nat}, eqS F.apart c l m = true → c (decide (l.map E.num = m.map E.num)) = true
  | [], [], h => by rw [decide_eq_true (by simp)]; exact h
  | [], y :: m, h => by rw [decide_eq_false (by simp)]; exact h
  | x :: l, [], h => by rw [decide_eq_false (by simp)]; exact h
  | x :: l, y :: m, h => by
    change ifK (Nat.beq x y) (eqS F.apart c l m) (difK F.apart x y (c false) (eqU F.apart (c false) l m)) = true at h
    cases hb : Nat.beq x y with
    | true =>
      rw [hb] at h
      have := beq_of hb; subst this
      have := eqS_some hF (l := l) (m := m) h
      simpa using this
    | false =>
      rw [hb] at h
      have hne : x ≠ y := fun e => by subst e; simp at hb
      replace h := difK_some hF hne h
      rcases h with ⟨h1, h2⟩ | h
      · rw [decide_eq_false]; exact h1
        intro e; simp only [List.map_cons, List.cons.injEq] at e; exact h2 e.1
      · obtain ⟨h1, h2⟩ := eqU_some hF h
        rw [decide_eq_false]; exact h1
        intro e; simp only [List.map_cons, List.cons.injEq] at e; exact h2 e.2
theorem map_byte_eq (l m : List Nat) : (l.map E.byte = m.map E.byte) ↔ (l.map E.num = m.map E.num) := by
  induction l generalizing m with
  | nil => cases m <;> simp
  | cons x l ih => cases m with
    | nil => simp
    | cons y m => simp only [List.map_cons, List.cons.injEq, byte_inj, ih]
theorem bytes_beq (l m : List Nat) : ((E.bytes l).toList == (E.bytes m).toList) = decide (l.map E.num = m.map E.num) := by
  rw [bytes_toList, bytes_toList]
  by_cases h : l.map E.num = m.map E.num
  · rw [decide_eq_true h, (map_byte_eq l m).2 h]; simp
  · rw [decide_eq_false h]
    have : ¬ (l.map E.byte = m.map E.byte) := fun e => h ((map_byte_eq l m).1 e)
    simpa using this

/-! ### The order of texts -/
noncomputable def ordS (c : Nat → Bool) (l : List Nat) : List Nat → Bool :=
  @List.rec Nat (fun _ => List Nat → Bool) (fun m => @List.rec Nat (fun _ => Bool) (c 1) (fun _ _ _ => c 0) m)
    (fun x _ ih m => @List.rec Nat (fun _ => Bool) (c 2) (fun y ys _ => ifK (Nat.beq x y) (ih ys)
      (ifK (Nat.blt x 256) (ifK (Nat.blt y 256) (ifK (Nat.blt x y) (c 0) (c 2)) (ifK (Nat.blt x 97) (c 0) (ifK (Nat.blt 122 x) (c 2) false)))
        (ifK (Nat.blt y 256) (ifK (Nat.blt y 97) (c 2) (ifK (Nat.blt 122 y) (c 0) false)) false))) m) l
/-- What the number says of two texts. -/
def OrdT (n : Nat) (l m : List UInt8) : Prop := Op.bytesLess l m = decide (n = 0) ∧ decide (l = m) = decide (n = 1) ∧ n ≤ 2
theorem ordT_lt {a b : UInt8} (l m : List UInt8) (h : a < b) : OrdT 0 (a :: l) (b :: m) := by
  refine ⟨by simp [Op.bytesLess, h], ?_, by decide⟩
  have : a ≠ b := fun e => by subst e; exact absurd h (UInt8.lt_irrefl a)
  simp [this]
theorem ordT_gt {a b : UInt8} (l m : List UInt8) (h : b < a) : OrdT 2 (a :: l) (b :: m) := by
  have h1 : a ≠ b := fun e => by subst e; exact absurd h (UInt8.lt_irrefl a)
  have h2 : ¬ a < b := fun h' => by rw [UInt8.lt_iff_toNat_lt] at *; omega
  refine ⟨by simp [Op.bytesLess, h1, h2], by simp [h1], by decide⟩
theorem ordS_some {c : Nat → Bool} : ∀ {l m : List Nat}, ordS c l m = true → ∃ n, c n = true ∧ OrdT n (l.map E.byte) (m.map E.byte)
  | [], [], h => ⟨1, h, by simp [Op.bytesLess], by simp, by decide⟩
  | [], y :: m, h => ⟨0, h, by simp [Op.bytesLess], by simp, by decide⟩
  | x :: l, [], h => ⟨2, h, by simp [Op.bytesLess], by simp, by decide⟩
  | x :: l, y :: m, h => by
    change ifK (Nat.beq x y) (ordS c l m) (ifK (Nat.blt x 256) (ifK (Nat.blt y 256) (ifK (Nat.blt x y) (c 0) (c 2)) (ifK (Nat.blt x 97) (c 0) (ifK (Nat.blt 122 x) (c 2) false)))
        (ifK (Nat.blt y 256) (ifK (Nat.blt y 97) (c 2) (ifK (Nat.blt 122 y) (c 0) false)) false)) = true at h
    cases hb : Nat.beq x y with
    | true =>
      rw [hb] at h
      have := beq_of hb; subst this
      obtain ⟨n, hn, h1, h2, h3⟩ := ordS_some (l := l) (m := m) h
      exact ⟨n, hn, by simp [Op.bytesLess, UInt8.lt_irrefl, h1], by simpa using h2, h3⟩
    | false =>
      rw [hb] at h
      have hne : x ≠ y := fun e => by subst e; simp at hb
      change ifK (Nat.blt x 256) (ifK (Nat.blt y 256) (ifK (Nat.blt x y) (c 0) (c 2)) (ifK (Nat.blt x 97) (c 0) (ifK (Nat.blt 122 x) (c 2) false)))
        (ifK (Nat.blt y 256) (ifK (Nat.blt y 97) (c 2) (ifK (Nat.blt 122 y) (c 0) false)) false) = true at h
      simp only [ifK_eq, bltN, decide_eq_true_eq] at h
      have lt : E.num x < E.num y → c 0 = true → ∃ n, c n = true ∧ OrdT n ((x :: l).map E.byte) ((y :: m).map E.byte) := fun h1 h2 => ⟨0, h2, ordT_lt _ _ (byte_lt.2 h1)⟩
      have gt : E.num y < E.num x → c 2 = true → ∃ n, c n = true ∧ OrdT n ((x :: l).map E.byte) ((y :: m).map E.byte) := fun h1 h2 => ⟨2, h2, ordT_gt _ _ (byte_lt.2 h1)⟩
      by_cases hx : x < 256 <;> by_cases hy : y < 256
      · simp only [hx, hy, if_true] at h
        have e1 : E.num x = x := by simp [Env.num, hx]
        have e2 : E.num y = y := by simp [Env.num, hy]
        by_cases hl : x < y
        · simp only [hl, if_true] at h; exact lt (by omega) h
        · simp only [hl, if_false] at h; exact gt (by omega) h
      · simp only [hx, hy, if_true, if_false] at h
        have h1 := E.lo (y - 256); have h2 := E.hi (y - 256)
        have e1 : E.num x = x := by simp [Env.num, hx]
        have e2 : E.num y = E.letter (y - 256) := by simp [Env.num, hy]
        by_cases a : x < 97
        · simp only [a, if_true] at h; exact lt (by omega) h
        · by_cases b : 122 < x
          · simp only [a, b, if_true, if_false] at h; exact gt (by omega) h
          · simp only [a, b, if_false] at h; cases h
      · simp only [hx, hy, if_true, if_false] at h
        have h1 := E.lo (x - 256); have h2 := E.hi (x - 256)
        have e1 : E.num y = y := by simp [Env.num, hy]
        have e2 : E.num x = E.letter (x - 256) := by simp [Env.num, hx]
        by_cases a : y < 97
        · simp only [a, if_true] at h; exact gt (by omega) h
        · by_cases b : 122 < y
          · simp only [a, b, if_true, if_false] at h; exact lt (by omega) h
          · simp only [a, b, if_false] at h; cases h
      · simp only [hx, hy, if_false] at h; cases h

/-! ### Operations on two texts -/
noncomputable def str2K (x y : AV) (c : List Nat → List Nat → Bool) : Bool := strK x fun s => strK y fun t => c s t
theorem str2K_some {x y : AV} {c : List Nat → List Nat → Bool} (h : str2K x y c = true) : ∃ s t, x = .str s ∧ y = .str t ∧ c s t = true := by
  replace h := strK_some h
  obtain ⟨s, rfl, h⟩ := h
  replace h := strK_some h
  obtain ⟨t, rfl, h⟩ := h
  exact ⟨s, t, rfl, rfl, h⟩
noncomputable def tAdd (x y : AV) (c : AV → Bool) : Bool := str2K x y fun s t => appK s t fun r => lenK r 0 fun n => ifK (Nat.ble n 1000000) (c (.str r)) false
noncomputable def tLss (x y : AV) (c : AV → Bool) : Bool := str2K x y fun s t => ordS (fun n => isN n 0 c) s t
noncomputable def tGeq (x y : AV) (c : AV → Bool) : Bool := str2K x y fun s t => ordS (fun n => notN n 0 c) s t
noncomputable def tGtr (x y : AV) (c : AV → Bool) : Bool := str2K x y fun s t => ordS (fun n => isN n 2 c) s t
noncomputable def tLeq (x y : AV) (c : AV → Bool) : Bool := str2K x y fun s t => ordS (fun n => notN n 2 c) s t
theorem tAdd_some {x y : AV} {c : AV → Bool} (h : tAdd x y c = true) : ∃ r, c r = true ∧ BinT E .add x y r := by
  replace h := str2K_some h
  obtain ⟨s, t, rfl, rfl, h⟩ := h
  rw [appK_eq, lenK_eq] at h
  obtain ⟨hn, h⟩ := ifK_and h
  have hn := ble_of hn
  refine ⟨_, h, fun ρ v u hv hu => ?_⟩
  simp only [VR] at hv hu
  subst hv; subst hu
  refine ⟨.string (E.bytes (s ++ t)), by simp only [VR], fun P w ty => ?_⟩
  have hl : ¬ (9223372036854775807 < ((s.length : Int) + (t.length : Int))) := by simp at hn; omega
  simp [binOp, Op.stringOp, bytes_size, bytes_append, hl]
theorem tCmp_some {op : BinOp} {x y : AV} {c : AV → Bool} {g : Nat → (AV → Bool) → Bool} (f : Nat → Bool) (hg : ∀ n, g n c = true → c (.bool (f n)) = true) (h : str2K x y (fun s t => ordS (fun n => g n c) s t) = true)
    (ho : ∀ n (a b : ByteArray), OrdT n a.toList b.toList → ∀ (P : Program) (w : World) (t : TypeId), (binOp op t (.string a) (.string b)).run P w = .ok (.bool (f n)) w) : ∃ r, c r = true ∧ BinT E op x y r := by
  replace h := str2K_some h
  obtain ⟨s, t, rfl, rfl, h⟩ := h
  obtain ⟨n, hn, ht⟩ := ordS_some (E := E) h
  refine ⟨_, hg n hn, fun ρ v u hv hu => ?_⟩
  simp only [VR] at hv hu
  subst hv; subst hu
  exact ⟨_, by simp only [VR], ho n _ _ (by rw [bytes_toList, bytes_toList]; exact ht)⟩
theorem tLss_some {x y : AV} {c : AV → Bool} (h : tLss x y c = true) : ∃ r, c r = true ∧ BinT E .lss x y r :=
  tCmp_some (g := fun n c => isN n 0 c) _ (fun _ => isN_some) h fun n a b ho P w t => by simp [binOp, Op.stringOp, ho.1]
theorem tGeq_some {x y : AV} {c : AV → Bool} (h : tGeq x y c = true) : ∃ r, c r = true ∧ BinT E .geq x y r :=
  tCmp_some (g := fun n c => notN n 0 c) _ (fun _ => notN_some) h fun n a b ho P w t => by simp [binOp, Op.stringOp, ho.1]
theorem ordT_or {n : Nat} {a b : List UInt8} (h : OrdT n a b) : (Op.bytesLess a b || (a == b)) = !decide (n = 2) := by
  obtain ⟨h1, h2, h3⟩ := h
  have h4 : (a == b) = decide (n = 1) := by rw [← h2]; by_cases e : a = b <;> simp [e]
  rw [h1, h4]
  rcases (by omega : n = 0 ∨ n = 1 ∨ n = 2) with rfl | rfl | rfl <;> rfl
theorem tGtr_some {x y : AV} {c : AV → Bool} (h : tGtr x y c = true) : ∃ r, c r = true ∧ BinT E .gtr x y r :=
  tCmp_some (g := fun n c => isN n 2 c) _ (fun _ => isN_some) h fun n a b ho P w t => by
    simp only [binOp, Op.stringOp, ordT_or ho]; simp
theorem tLeq_some {x y : AV} {c : AV → Bool} (h : tLeq x y c = true) : ∃ r, c r = true ∧ BinT E .leq x y r :=
  tCmp_some (g := fun n c => notN n 2 c) _ (fun _ => notN_some) h fun n a b ho P w t => by
    simp only [binOp, Op.stringOp, ordT_or ho]; simp
end
/-- An operation on two texts (no equality). -/
noncomputable def tbF (op : BinOp) : AV → AV → (AV → Bool) → Bool :=
  @BinOp.rec (fun _ => AV → AV → (AV → Bool) → Bool) tAdd noOp noOp noOp noOp noOp noOp noOp noOp noOp noOp noOp noOp tLss tLeq tGtr tGeq op
theorem tbF_some {E : Env} {op : BinOp} {x y : AV} {c : AV → Bool} (h : tbF op x y c = true) : ∃ r, c r = true ∧ BinT E op x y r := by
  cases op with
  | add => exact tAdd_some h
  | lss => exact tLss_some h
  | leq => exact tLeq_some h
  | gtr => exact tGtr_some h
  | geq => exact tGeq_some h
  | _ => cases h
end Go.Proofs.YtfgmmabggjjhgaaGreatDoor.Ev
namespace Go.Proofs.YtfgmmabggjjhgaaGreatDoor.Ev
open Go

/-- A tree of the program's types. -/
def TypesOf (P : Program) (tt : T TypeInfo) : Prop := ∀ i x, tt.get i = some x → P.info? i = some x

noncomputable def namedK (d : TypeDesc) (k : Nat → Bool) (e : Bool) : Bool :=
  @TypeDesc.casesOn (fun _ => Bool) d e e (fun _ => e) (fun _ => e) (fun _ => e) e e (fun _ => e) (fun _ => e) (fun _ _ => e) (fun _ _ => e) (fun _ _ => e) (fun _ => e) (fun _ _ _ => e) (fun _ => e) (fun _ => e) (fun _ u => k u)
theorem namedK_some {d : TypeDesc} {k : Nat → Bool} {e : Bool} (h : namedK d k e = true) : (∃ n u, d = .named n u ∧ k u = true) ∨ ((∀ n u, d ≠ .named n u) ∧ e = true) := by
  cases d <;> first | exact .inl ⟨_, _, rfl, h⟩ | exact .inr ⟨fun _ _ => by simp, h⟩
noncomputable def undK (tt : T TypeInfo) (t : Nat) (k : TypeDesc → Bool) : Bool :=
  getK (fun i => namedK i.desc (fun u => getK (fun j => k j.desc) tt u) (k i.desc)) tt t
theorem undK_some {P : Program} {tt : T TypeInfo} (hT : TypesOf P tt) {t : Nat} {k : TypeDesc → Bool} (h : undK tt t k = true) : ∃ d, P.underlying t = some d ∧ k d = true := by
  obtain ⟨i, hi, h⟩ := getK_some h
  have hi := hT _ _ hi
  replace h := namedK_some h
  rcases h with ⟨n, u, hd, h⟩ | ⟨hn, h⟩
  · obtain ⟨j, hj, h⟩ := getK_some h
    have hj := hT _ _ hj
    refine ⟨j.desc, ?_, h⟩
    obtain ⟨desc, str, size, bytes, hp, al, fa, zero, cmp, ms⟩ := i
    simp only at hd
    subst hd
    simp [Program.underlying, hi, hj]
  · refine ⟨i.desc, ?_, h⟩
    obtain ⟨desc, str, size, bytes, hp, al, fa, zero, cmp, ms⟩ := i
    unfold Program.underlying
    rw [hi]
    cases desc <;> first | rfl | exact absurd rfl (hn _ _)
noncomputable def infoK (tt : T TypeInfo) (t : Nat) (k : TypeInfo → Bool) : Bool := getK k tt t
theorem infoK_some {P : Program} {tt : T TypeInfo} (hT : TypesOf P tt) {t : Nat} {k : TypeInfo → Bool} (h : infoK tt t k = true) : ∃ i, P.info? t = some i ∧ k i = true := by
  obtain ⟨i, hi, h⟩ := getK_some h
  exact ⟨i, hT _ _ hi, h⟩

/-! which type it is -/
/-- bool 0, a number 1, a text 2, a pointer 3, a function 4; other -/
noncomputable def tagK (d : TypeDesc) (k : Nat → Bool) : Bool :=
  @TypeDesc.casesOn (fun _ => Bool) d false (k 0) (fun _ => k 1) (fun _ => false) (fun _ => false) (k 2) false (fun _ => false) (fun _ => false) (fun _ _ => false) (fun _ _ => false) (fun _ _ => false) (fun _ => false) (fun _ _ _ => false) (fun _ => false) (fun _ => false) (fun _ _ => false)
def DescTag (d : TypeDesc) (n : Nat) : Prop := (n = 0 ∧ d = .bool) ∨ (n = 1 ∧ ∃ k, d = .int k) ∨ (n = 2 ∧ d = .string)
theorem tagK_some {d : TypeDesc} {k : Nat → Bool} (h : tagK d k = true) : ∃ n, DescTag d n ∧ k n = true := by
  cases d <;> first | exact ⟨0, .inl ⟨rfl, rfl⟩, h⟩ | exact ⟨1, .inr (.inl ⟨rfl, _, rfl⟩), h⟩ | exact ⟨2, .inr (.inr ⟨rfl, rfl⟩), h⟩ | cases h
noncomputable def structK (d : TypeDesc) (k : List Field → Bool) : Bool :=
  @TypeDesc.casesOn (fun _ => Bool) d false false (fun _ => false) (fun _ => false) (fun _ => false) false false (fun _ => false) (fun _ => false) (fun _ _ => false) (fun _ _ => false) (fun _ _ => false) (fun fs => k fs.toList) (fun _ _ _ => false) (fun _ => false) (fun _ => false) (fun _ _ => false)
theorem structK_some {d : TypeDesc} {k : List Field → Bool} (h : structK d k = true) : ∃ fs, d = .struct fs ∧ k fs.toList = true := by
  cases d <;> first | exact ⟨_, rfl, h⟩ | cases h
noncomputable def sliceK (d : TypeDesc) (k : Nat → Bool) : Bool :=
  @TypeDesc.casesOn (fun _ => Bool) d false false (fun _ => false) (fun _ => false) (fun _ => false) false false (fun _ => false) (fun e => k e) (fun _ _ => false) (fun _ _ => false) (fun _ _ => false) (fun _ => false) (fun _ _ _ => false) (fun _ => false) (fun _ => false) (fun _ _ => false)
theorem sliceK_some {d : TypeDesc} {k : Nat → Bool} (h : sliceK d k = true) : ∃ e, d = .slice e ∧ k e = true := by
  cases d <;> first | exact ⟨_, rfl, h⟩ | cases h
noncomputable def intDK (d : TypeDesc) (k : IntKind → Bool) : Bool :=
  @TypeDesc.casesOn (fun _ => Bool) d false false (fun x => k x) (fun _ => false) (fun _ => false) false false (fun _ => false) (fun _ => false) (fun _ _ => false) (fun _ _ => false) (fun _ _ => false) (fun _ => false) (fun _ _ _ => false) (fun _ => false) (fun _ => false) (fun _ _ => false)
theorem intDK_some {d : TypeDesc} {k : IntKind → Bool} (h : intDK d k = true) : ∃ e, d = .int e ∧ k e = true := by
  cases d <;> first | exact ⟨_, rfl, h⟩ | cases h
noncomputable def arrayK (d : TypeDesc) (k : Nat → Nat → Bool) : Bool :=
  @TypeDesc.casesOn (fun _ => Bool) d false false (fun _ => false) (fun _ => false) (fun _ => false) false false (fun _ => false) (fun _ => false) (fun n e => k n e) (fun _ _ => false) (fun _ _ => false) (fun _ => false) (fun _ _ _ => false) (fun _ => false) (fun _ => false) (fun _ _ => false)
theorem arrayK_some {d : TypeDesc} {k : Nat → Nat → Bool} (h : arrayK d k = true) : ∃ n e, d = .array n e ∧ k n e = true := by
  cases d <;> first | exact ⟨_, _, rfl, h⟩ | cases h
/-- Is it a struct or an array? -/
noncomputable def aggDK (d : TypeDesc) (y n : Bool) : Bool :=
  @TypeDesc.casesOn (fun _ => Bool) d n n (fun _ => n) (fun _ => n) (fun _ => n) n n (fun _ => n) (fun _ => n) (fun _ _ => y) (fun _ _ => n) (fun _ _ => n) (fun _ => y) (fun _ _ _ => n) (fun _ => n) (fun _ => n) (fun _ _ => n)
theorem aggDK_some {P : Program} {t : Nat} {d : TypeDesc} {y n : Bool} (hd : P.underlying t = some d) (h : aggDK d y n = true) : (y = true ∧ ∀ w, (isAgg t).run P w = .ok true w) ∨ (n = true ∧ ∀ w, (isAgg t).run P w = .ok false w) := by
  cases d <;> first | exact .inl ⟨h, fun w => by simp [isAgg, run_underlying hd]⟩ | exact .inr ⟨h, fun w => by simp [isAgg, run_underlying hd]⟩
noncomputable def ifaceDK (d : TypeDesc) (k : Array (String × TypeId) → Bool) : Bool :=
  @TypeDesc.casesOn (fun _ => Bool) d false false (fun _ => false) (fun _ => false) (fun _ => false) false false (fun _ => false) (fun _ => false) (fun _ _ => false) (fun _ _ => false) (fun _ _ => false) (fun _ => false) (fun _ _ _ => false) (fun m => k m) (fun _ => false) (fun _ _ => false)
theorem ifaceDK_some {d : TypeDesc} {k : Array (String × TypeId) → Bool} (h : ifaceDK d k = true) : ∃ m, d = .interface m ∧ k m = true := by
  cases d <;> first | exact ⟨_, rfl, h⟩ | cases h
/-- 0 a text, 1 a slice, 2 an array, 3 a pointer, 4 a number, 5 an interface, 6 a function, 7 a struct, 8 bool -/
noncomputable def shapeK (d : TypeDesc) (k : Nat → Bool) : Bool :=
  @TypeDesc.casesOn (fun _ => Bool) d false (k 8) (fun _ => k 4) (fun _ => false) (fun _ => false) (k 0) false (fun _ => k 3) (fun _ => k 1) (fun _ _ => k 2) (fun _ _ => false) (fun _ _ => false) (fun _ => k 7) (fun _ _ _ => k 6) (fun _ => k 5) (fun _ => false) (fun _ _ => false)
def DescShape (d : TypeDesc) (n : Nat) : Prop := (n = 0 ∧ d = .string) ∨ (n = 1 ∧ ∃ e, d = .slice e) ∨ (n = 2 ∧ ∃ l e, d = .array l e) ∨ (n = 3 ∧ ∃ e, d = .pointer e) ∨ (n = 4 ∧ ∃ k, d = .int k) ∨ (n = 5 ∧ ∃ m, d = .interface m) ∨ (n = 6 ∧ ∃ a b c, d = .func a b c) ∨ (n = 7 ∧ ∃ fs, d = .struct fs) ∨ (n = 8 ∧ d = .bool)
theorem shapeK_some {d : TypeDesc} {k : Nat → Bool} (h : shapeK d k = true) : ∃ n, DescShape d n ∧ k n = true := by
  unfold DescShape
  cases d with
  | bool => exact ⟨8, by simp, h⟩
  | int => exact ⟨4, by simp, h⟩
  | string => exact ⟨0, by simp, h⟩
  | pointer => exact ⟨3, by simp, h⟩
  | slice => exact ⟨1, by simp, h⟩
  | array => exact ⟨2, by simp, h⟩
  | struct => exact ⟨7, by simp, h⟩
  | func => exact ⟨6, by simp, h⟩
  | interface => exact ⟨5, by simp, h⟩
  | _ => cases h
theorem run_sizeOf {P : Program} {t : Nat} {i : TypeInfo} (hi : P.info? t = some i) (w : World) : (sizeOf t).run P w = .ok i.size w := by simp [sizeOf, typeInfo, hi]

/-! ### Equality of structs, leaf by leaf -/
def PrimIs (n : Nat) (a b : Value) (r : Bool) : Prop :=
  (n = 0 ∧ ∃ x y, a = .bool x ∧ b = .bool y ∧ r = (x == y)) ∨ (n = 1 ∧ ∃ k x y, a = .int k x ∧ b = .int k y ∧ r = (x == y)) ∨ (n = 2 ∧ ∃ x y, a = .string x ∧ b = .string y ∧ r = (x.toList == y.toList))
theorem PrimIs.run {P : Program} {t n d : Nat} {de : TypeDesc} {a b : Value} {r : Bool} (h : PrimIs n a b r) (hd : P.underlying t = some de) (ht : DescTag de n) (w : World) : (Op.equalIn (d + 1) t a b).run P w = .ok r w := by
  rcases h with ⟨rfl, x, y, rfl, rfl, rfl⟩ | ⟨rfl, k, x, y, rfl, rfl, rfl⟩ | ⟨rfl, x, y, rfl, rfl, rfl⟩
  · have : de = .bool := by rcases ht with ⟨_, h⟩ | ⟨h, _⟩ | ⟨h, _⟩ <;> first | exact h | cases h
    subst this; exact run_equalIn_bool' w d t x y hd
  · have : ∃ k', de = .int k' := by rcases ht with ⟨h, _⟩ | ⟨_, h⟩ | ⟨h, _⟩ <;> first | exact h | cases h
    obtain ⟨k', rfl⟩ := this; exact run_equalIn_int w d t k k' x y hd
  · have : de = .string := by rcases ht with ⟨h, _⟩ | ⟨h, _⟩ | ⟨_, h⟩ <;> first | exact h | cases h
    subst this; exact run_equalIn_string w d t x y hd
def AllIs : List (Nat × Nat) → (Nat → Option Value) → (Nat → Option Value) → Bool → Prop
  | [], _, _, r => r = true
  | (o, n) :: l, xs, ys, r => ∃ a b r1 r2, xs o = some a ∧ ys o = some b ∧ PrimIs n a b r1 ∧ AllIs l xs ys r2 ∧ r = (r1 && r2)
theorem AllIs.append {l m : List (Nat × Nat)} {xs ys : Nat → Option Value} : ∀ {r : Bool}, AllIs (l ++ m) xs ys r → ∃ r1 r2, AllIs l xs ys r1 ∧ AllIs m xs ys r2 ∧ r = (r1 && r2) := by
  induction l with
  | nil => intro r h; exact ⟨true, r, rfl, h, by simp⟩
  | cons p l ih =>
    obtain ⟨o, n⟩ := p
    rintro r ⟨a, b, r1, r2, h1, h2, h3, h4, rfl⟩
    obtain ⟨r3, r4, h5, h6, rfl⟩ := ih h4
    exact ⟨r1 && r3, r4, ⟨a, b, r1, r3, h1, h2, h3, h5, rfl⟩, h6, by simp [Bool.and_assoc]⟩
theorem AllIs.shift {k : Nat} {xs ys : Nat → Option Value} : ∀ {l : List (Nat × Nat)} {r : Bool}, AllIs (l.map fun p => (k + p.1, p.2)) xs ys r → AllIs l (fun j => xs (k + j)) (fun j => ys (k + j)) r
  | [], _, h => h
  | _ :: _, _, ⟨a, b, r1, r2, h1, h2, h3, h4, h5⟩ => ⟨a, b, r1, r2, h1, h2, h3, AllIs.shift h4, h5⟩
theorem AllIs.congr {xs ys xs' ys' : Nat → Option Value} : ∀ {l : List (Nat × Nat)} {r : Bool}, (∀ p ∈ l, xs' p.1 = xs p.1 ∧ ys' p.1 = ys p.1) → AllIs l xs ys r → AllIs l xs' ys' r
  | [], _, _, h => h
  | (o, n) :: l, r, hc, ⟨a, b, r1, r2, h1, h2, h3, h4, h5⟩ => by
    have h0 := hc (o, n) List.mem_cons_self
    exact ⟨a, b, r1, r2, h0.1.trans h1, h0.2.trans h2, h3, AllIs.congr (fun p hp => hc p (List.mem_cons_of_mem _ hp)) h4, h5⟩

/-- Equality at a struct's type, for any depth above n. -/
def EqRun (P : Program) (n t : Nat) (l : List (Nat × Nat)) : Prop :=
  ∀ d, n ≤ d → ∀ (xs ys : Array Value) (r : Bool) (w : World), AllIs l (fun j => xs[j]?) (fun j => ys[j]?) r → (Op.equalIn (d + 1) t (.agg xs) (.agg ys)).run P w = .ok r w
def FldRun (P : Program) (n : Nat) (fs : List Field) (l : List (Nat × Nat)) : Prop :=
  ∀ d, n < d → ∀ (xs ys : Array Value) (r : Bool) (w : World), AllIs l (fun j => xs[j]?) (fun j => ys[j]?) r → (Op.eqFields d xs ys fs).run P w = .ok r w
theorem FldRun.nil (P : Program) (n : Nat) : FldRun P n [] [] := fun d _ xs ys r w h => by cases h; rfl
theorem run_part1 {P : Program} {t o : Nat} {xs : Array Value} {a : Value} (hg : ∀ w, (isAgg t).run P w = .ok false w) (h : xs[o]? = some a) (w : World) : (part t xs o).run P w = .ok a w := by
  simp [part, hg, h]
theorem run_partN {P : Program} {t o : Nat} {xs : Array Value} {i : TypeInfo} (hg : ∀ w, (isAgg t).run P w = .ok true w) (hi : P.info? t = some i) (w : World) : (part t xs o).run P w = .ok (.agg (xs.extract o (o + i.size))) w := by
  simp [part, hg, run_sizeOf hi]
theorem FldRun.prim {P : Program} {n tag : Nat} {f : Field} {fs : List Field} {l : List (Nat × Nat)} {de : TypeDesc} (hn : f.name ≠ "_") (hd : P.underlying f.type = some de) (ht : DescTag de tag) (h : FldRun P n fs l) :
    FldRun P n (f :: fs) ((f.offset, tag) :: l) := by
  rintro d hd' xs ys r w ⟨a, b, r1, r2, h1, h2, h3, h4, rfl⟩
  obtain ⟨d, rfl⟩ : ∃ d', d = d' + 1 := ⟨d - 1, by omega⟩
  have hg : ∀ w, (isAgg f.type).run P w = .ok false w := fun w => by
    rcases ht with ⟨_, rfl⟩ | ⟨_, k, rfl⟩ | ⟨_, rfl⟩ <;> simp [isAgg, run_underlying hd]
  simp only [Op.eqFields, if_pos hn, Sem.run_bind, run_part1 hg h1, run_part1 hg h2, Result.andThen_ok, h3.run hd ht]
  cases r1 with
  | false => simp
  | true => simpa using h (d + 1) hd' xs ys r2 w h4
theorem FldRun.nested {P : Program} {n : Nat} {f : Field} {fs : List Field} {l m : List (Nat × Nat)} {i : TypeInfo} (hn : f.name ≠ "_") (hg : ∀ w, (isAgg f.type).run P w = .ok true w) (hi : P.info? f.type = some i) (hl : ∀ p ∈ m, p.1 < i.size)
    (he : EqRun P n f.type m) (h : FldRun P (n + 1) fs l) : FldRun P (n + 1) (f :: fs) (m.map (fun p => (f.offset + p.1, p.2)) ++ l) := by
  intro d hd xs ys r w ha
  obtain ⟨r1, r2, h1, h2, rfl⟩ := ha.append
  obtain ⟨d, rfl⟩ : ∃ d', d = d' + 1 := ⟨d - 1, by omega⟩
  have ex : ∀ (zs : Array Value) (p : Nat × Nat), p ∈ m → (zs.extract f.offset (f.offset + i.size))[p.1]? = zs[f.offset + p.1]? := fun zs p hp => by
    have := hl p hp
    rw [Array.getElem?_extract]
    split
    · rfl
    · rename_i hlt
      rw [Array.getElem?_eq_none (by omega)]
  have := he d (by omega) (xs.extract f.offset (f.offset + i.size)) (ys.extract f.offset (f.offset + i.size)) r1 w (h1.shift.congr fun p hp => ⟨ex xs p hp, ex ys p hp⟩)
  simp only [Op.eqFields, if_pos hn, Sem.run_bind, run_partN hg hi, Result.andThen_ok, this]
  cases r1 with
  | false => simp
  | true => simpa using h (d + 1) hd xs ys r2 w h2
theorem EqRun.of_fields {P : Program} {n t : Nat} {fs : Array Field} {l : List (Nat × Nat)} (ht : P.underlying t = some (.struct fs)) (hp : P.stoodInHeld t = false) (h : FldRun P n fs.toList l) : EqRun P (n + 1) t l := by
  intro d hd xs ys r w ha
  have hf : P.fieldsOf t = fs := by simp [Program.fieldsOf, ht]
  rw [run_equalIn_struct w d t xs ys (by rw [hf]; exact ht) hp, hf]
  exact h d (by omega) xs ys r w ha

/-! the leaves of a struct -/
noncomputable def strNe (s : String) : Bool := !(s == "_")
noncomputable def shiftL (k : Nat) (l : List (Nat × Nat)) (m : List (Nat × Nat)) (c : List (Nat × Nat) → Bool) : Bool :=
  @List.rec (Nat × Nat) (fun _ => (List (Nat × Nat) → Bool) → Bool) (fun c => c m) (fun p _ ih c => forceN (Nat.add k p.1) fun o => ih fun r => c ((o, p.2) :: r)) l c
theorem shiftL_eq (k : Nat) : ∀ (l m : List (Nat × Nat)) (c : List (Nat × Nat) → Bool), shiftL k l m c = c (l.map (fun p => (k + p.1, p.2)) ++ m)
  | [], _, _ => rfl
  | p :: l, m, c => by
    show forceN (Nat.add k p.1) (fun o => shiftL k l m fun r => c ((o, p.2) :: r)) = _
    rw [forceN_eq, shiftL_eq k l]; rfl
noncomputable def allLt (n : Nat) (l : List (Nat × Nat)) (c : Bool) : Bool := @List.rec (Nat × Nat) (fun _ => Bool) c (fun p _ ih => ifK (Nat.blt p.1 n) ih false) l
theorem allLt_some {n : Nat} {c : Bool} : ∀ {l : List (Nat × Nat)}, allLt n l c = true → (∀ p ∈ l, p.1 < n) ∧ c = true
  | [], h => ⟨fun _ h' => (by cases h'), h⟩
  | p :: l, h => by
    obtain ⟨h1, h⟩ := ifK_and (t := allLt n l c) h
    obtain ⟨h2, h3⟩ := allLt_some h
    exact ⟨fun q hq => by cases hq with | head => exact blt_of h1 | tail _ hq => exact h2 q hq, h3⟩
noncomputable def notB (b : Bool) (k : Bool) : Bool := @Bool.rec (fun _ => Bool) k false b
theorem notB_some {b k : Bool} (h : notB b k = true) : b = false ∧ k = true := by cases b <;> first | exact ⟨rfl, h⟩ | cases h
/-- The leaves of fields; 'rec': those of a struct in it. -/
noncomputable def fieldsK (tt : T TypeInfo) (rec : Nat → (List (Nat × Nat) → Bool) → Bool) (fs : List Field) (c : List (Nat × Nat) → Bool) : Bool :=
  @List.rec Field (fun _ => (List (Nat × Nat) → Bool) → Bool) (fun c => c [])
    (fun f _ ih c => ifK (strNe f.name) (undK tt f.type fun d => aggDK d (infoK tt f.type fun i => rec f.type fun m => allLt i.size m (ih fun l => forceN f.offset fun o => shiftL o m l c))
      (tagK d fun n => ih fun l => forceN f.offset fun o => c ((o, n) :: l))) false) fs c
noncomputable def leavesK (P : Program) (tt : T TypeInfo) : Nat → Nat → (List (Nat × Nat) → Bool) → Bool :=
  fun n => @Nat.rec (fun _ => Nat → (List (Nat × Nat) → Bool) → Bool) (fun _ _ => false) (fun _ ih t c => undK tt t fun d => structK d fun fs => notB (P.stoodInHeld t) (fieldsK tt ih fs c)) n
theorem FldRun.up {P : Program} {n : Nat} {fs : List Field} {l : List (Nat × Nat)} (h : FldRun P n fs l) : FldRun P (n + 1) fs l := fun d hd => h d (by omega)
theorem strNe_of {s : String} (h : strNe s = true) : s ≠ "_" := by
  intro e; subst e; cases h
theorem fieldsK_some {P : Program} {tt : T TypeInfo} (hT : TypesOf P tt) {n : Nat} {rec : Nat → (List (Nat × Nat) → Bool) → Bool} (hrec : ∀ t c, rec t c = true → ∃ l, c l = true ∧ EqRun P n t l) :
    ∀ {fs : List Field} {c : List (Nat × Nat) → Bool}, fieldsK tt rec fs c = true → ∃ l, c l = true ∧ FldRun P (n + 1) fs l
  | [], c, h => ⟨[], h, FldRun.nil P _⟩
  | f :: fs, c, h => by
    change ifK (strNe f.name) (undK tt f.type fun d => aggDK d (infoK tt f.type fun i => rec f.type fun m => allLt i.size m (fieldsK tt rec fs fun l => forceN f.offset fun o => shiftL o m l c))
      (tagK d fun n => fieldsK tt rec fs fun l => forceN f.offset fun o => c ((o, n) :: l))) false = true at h
    obtain ⟨hn, h⟩ := ifK_and h
    have hn := strNe_of hn
    replace h := undK_some hT h
    obtain ⟨d, hd, h⟩ := h
    replace h := aggDK_some hd h
    rcases h with ⟨h, hg⟩ | ⟨h, hg⟩
    · replace h := infoK_some hT h
      obtain ⟨i, hi, h⟩ := h
      replace h := hrec _ _ h
      obtain ⟨m, h, he⟩ := h
      replace h := allLt_some h
      obtain ⟨hl, h⟩ := h
      replace h := fieldsK_some hT hrec h
      obtain ⟨l, h, hf⟩ := h
      rw [forceN_eq, shiftL_eq] at h
      exact ⟨_, h, FldRun.nested hn hg hi hl he hf⟩
    · replace h := tagK_some h
      obtain ⟨k, hk, h⟩ := h
      replace h := fieldsK_some hT hrec h
      obtain ⟨l, h, hf⟩ := h
      rw [forceN_eq] at h
      exact ⟨_, h, FldRun.prim hn hd hk hf⟩
theorem leavesK_some {P : Program} {tt : T TypeInfo} (hT : TypesOf P tt) : ∀ {n t : Nat} {c : List (Nat × Nat) → Bool}, leavesK P tt n t c = true → ∃ l, c l = true ∧ EqRun P (2 * n) t l
  | 0, _, _, h => by cases h
  | n + 1, t, c, h => by
    change undK tt t (fun d => structK d fun fs => notB (P.stoodInHeld t) (fieldsK tt (leavesK P tt n) fs c)) = true at h
    replace h := undK_some hT h
    obtain ⟨d, hd, h⟩ := h
    replace h := structK_some h
    obtain ⟨fs, rfl, h⟩ := h
    obtain ⟨hp, h⟩ := notB_some h
    replace h := fieldsK_some hT (n := 2 * n) (fun t c hc => leavesK_some hT hc) h
    obtain ⟨l, h, hf⟩ := h
    exact ⟨l, h, EqRun.of_fields hd hp hf⟩
end Go.Proofs.YtfgmmabggjjhgaaGreatDoor.Ev
namespace Go.Proofs.YtfgmmabggjjhgaaGreatDoor.Ev
open Go

inductive COpd where
  | tmp (t : Nat)
  | const (v : AV)
noncomputable def opdK (fr : T AV) (k : AV → Bool) (x : COpd) : Bool := @COpd.rec (fun _ => Bool) (fun t => getK k fr t) k x
noncomputable def opdsK (fr : T AV) (l : List COpd) : (List AV → Bool) → Bool :=
  @List.rec COpd (fun _ => (List AV → Bool) → Bool) (fun k => k []) (fun x _ ih k => opdK fr (fun v => ih fun r => k (v :: r)) x) l

/-- How operands are valued. -/
structure Ev (e : Operand → Value) : Prop where
  const : ∀ v, e (.const v) = v
  func : ∀ f, e (.func f) = .func (.func f) #[] #[]
  glob : ∀ g, e (.global g) = .pointer (some ⟨g, 0, none⟩)
theorem Ev.act (a : Act) : Ev a.eval := ⟨fun _ => rfl, fun _ => rfl, fun _ => rfl⟩
/-- The frame holds what the tree says, at the slots that are looked at. -/
def Holds (E : Env) (ρ : Nat → Option Loc) (fr : T AV) (e : Operand → Value) (xs : List Operand) : Prop := ∀ t, Operand.tmp t ∈ xs → ∀ av, fr.get t = some av → VR E ρ av (e (.tmp t))
theorem Holds.sub {E : Env} {ρ : Nat → Option Loc} {fr : T AV} {e : Operand → Value} {xs ys : List Operand} (h : Holds E ρ fr e xs) (s : ∀ x ∈ ys, x ∈ xs) : Holds E ρ fr e ys := fun t ht => h t (s _ ht)
def OpdOk (E : Env) (x : Operand) (c : COpd) : Prop :=
  ∀ (fr : T AV) (k : AV → Bool), opdK fr k c = true → ∃ av, k av = true ∧ ∀ ρ e, Ev e → Holds E ρ fr e [x] → VR E ρ av (e x)
def OpdsOk (E : Env) (xs : List Operand) (cs : List COpd) : Prop :=
  ∀ (fr : T AV) (k : List AV → Bool), opdsK fr cs k = true → ∃ as, k as = true ∧ ∀ ρ e, Ev e → Holds E ρ fr e xs → VRs E ρ as (xs.map e)

section
variable {E : Env}
theorem OpdOk.tmp (t : Nat) : OpdOk E (.tmp t) (.tmp t) := fun fr k h => by
  obtain ⟨av, h1, h2⟩ := getK_some h
  exact ⟨av, h2, fun ρ e _ hh => hh t List.mem_cons_self av h1⟩
theorem OpdOk.const {x : Operand} {a : AV} (h : ∀ ρ e, Ev e → VR E ρ a (e x)) : OpdOk E x (.const a) := fun _ _ hk => ⟨a, hk, fun ρ e he _ => h ρ e he⟩
theorem OpdsOk.nil : OpdsOk E [] [] := fun _ _ h => ⟨[], h, fun _ _ _ _ => VRs.nil⟩
theorem OpdsOk.cons {x : Operand} {c : COpd} {xs : List Operand} {cs : List COpd} (h : OpdOk E x c) (hs : OpdsOk E xs cs) : OpdsOk E (x :: xs) (c :: cs) := fun fr k hk => by
  obtain ⟨av, h1, h2⟩ := h fr (fun v => opdsK fr cs fun r => k (v :: r)) hk
  obtain ⟨as, h3, h4⟩ := hs fr _ h1
  exact ⟨_, h3, fun ρ e he hh => VRs.cons (h2 ρ e he (hh.sub (by simp))) (h4 ρ e he (hh.sub fun x hx => List.mem_cons_of_mem _ hx))⟩

/-! ### Constants -/
noncomputable def bytesK (l : List UInt8) : (List Nat → Bool) → Bool :=
  @List.rec UInt8 (fun _ => (List Nat → Bool) → Bool) (fun k => k []) (fun x _ ih k => forceN x.toNat fun n => ih fun r => k (n :: r)) l
theorem bytesK_eq : ∀ (l : List UInt8) (k : List Nat → Bool), bytesK l k = k (l.map (·.toNat))
  | [], _ => rfl
  | x :: l, k => by
    show forceN x.toNat (fun n => bytesK l fun r => k (n :: r)) = _
    rw [forceN_eq, bytesK_eq l]; rfl
theorem byte_toNat (b : UInt8) : E.byte b.toNat = b := by
  have : b.toNat < 256 := b.toNat_lt
  unfold Env.byte
  rw [if_pos this]; simp
theorem bytes_of (s : ByteArray) : E.bytes (s.data.toList.map (·.toNat)) = s := by
  unfold Env.bytes
  apply ByteArray.ext
  simp only [List.map_map]
  have : (E.byte ∘ fun x : UInt8 => x.toNat) = id := by funext b; exact byte_toNat b
  rw [this]; simp
noncomputable def optNone {α : Type} (o : Option α) (k : Bool) : Bool := @Option.rec α (fun _ => Bool) k (fun _ => false) o
theorem optNone_some {α : Type} {o : Option α} {k : Bool} (h : optNone o k = true) : o = none ∧ k = true := by cases o <;> first | exact ⟨rfl, h⟩ | cases h
/-- A constant of one cell. -/
noncomputable def const1K (v : Value) (k : AV → Bool) : Bool :=
  @Value.casesOn (fun _ => Bool) v (fun b => k (.bool b)) (fun q n => forceI n fun n => k (.int q n)) (fun _ _ => false) (fun _ _ _ => false) (fun s => bytesK s.data.toList fun l => k (.str l)) (fun a => optNone a (k .nilp))
    (fun a l c => optNone a (ifK (Nat.beq l 0) (ifK (Nat.beq c 0) (k .nils) false) false)) (fun _ => false) (fun _ => false) (fun _ _ _ => false) (k .nilf) (fun _ _ => false) (k .nili) (fun _ => false) (fun _ => false)
theorem const1K_some {v : Value} {k : AV → Bool} (h : const1K v k = true) : ∃ a, k a = true ∧ one1 a = true ∧ (∀ ρ, VR E ρ a v) ∧ v.cells = #[v] ∧ v.oneCell' = true := by
  cases v with
  | bool b => exact ⟨.bool b, h, rfl, fun ρ => by simp only [VR], rfl, rfl⟩
  | int q n =>
    change forceI n (fun n => k (.int q n)) = true at h
    rw [forceI_eq] at h
    exact ⟨_, h, rfl, fun ρ => by simp only [VR], rfl, rfl⟩
  | string s =>
    change bytesK s.data.toList (fun l => k (.str l)) = true at h
    rw [bytesK_eq] at h
    exact ⟨_, h, rfl, fun ρ => by simp only [VR]; rw [bytes_of], rfl, rfl⟩
  | pointer a =>
    replace h := optNone_some h
    obtain ⟨rfl, h⟩ := h
    exact ⟨_, h, rfl, fun ρ => by simp only [VR], rfl, rfl⟩
  | slice a l c =>
    replace h := optNone_some h
    obtain ⟨rfl, h⟩ := h
    obtain ⟨h1, h⟩ := ifK_and h
    obtain ⟨h2, h⟩ := ifK_and h
    have := beq_of h1; subst this
    have := beq_of h2; subst this
    exact ⟨_, h, rfl, fun ρ => by simp only [VR], rfl, rfl⟩
  | nilFunc => exact ⟨.nilf, h, rfl, fun ρ => by simp only [VR], rfl, rfl⟩
  | nilIface => exact ⟨.nili, h, rfl, fun ρ => by simp only [VR], rfl, rfl⟩
  | _ => cases h
noncomputable def const1sK (l : List Value) : (List AV → Bool) → Bool :=
  @List.rec Value (fun _ => (List AV → Bool) → Bool) (fun k => k []) (fun x _ ih k => const1K x fun v => ih fun r => k (v :: r)) l
theorem const1sK_some : ∀ {l : List Value} {k : List AV → Bool}, const1sK l k = true → ∃ as, k as = true ∧ (∀ a ∈ as, one1 a = true) ∧ (∀ v ∈ l, v.oneCell' = true) ∧ ∀ ρ, VRs E ρ as l
  | [], _, h => ⟨[], h, fun _ h => (by cases h), fun _ h => (by cases h), fun _ => VRs.nil⟩
  | x :: l, k, h => by
    obtain ⟨a, h1, h2, h3, _, h5⟩ := const1K_some (E := E) (v := x) (k := fun v => const1sK l fun r => k (v :: r)) h
    obtain ⟨as, g1, g2, g3, g4⟩ := const1sK_some (l := l) h1
    exact ⟨a :: as, g1, fun y hy => by cases hy with | head => exact h2 | tail _ hy => exact g2 y hy, fun y hy => by cases hy with | head => exact h5 | tail _ hy => exact g3 y hy, fun ρ => VRs.cons (h3 ρ) (g4 ρ)⟩
noncomputable def constK (v : Value) (k : AV → Bool) : Bool :=
  @Value.casesOn (fun _ => Bool) v (fun _ => const1K v k) (fun _ _ => const1K v k) (fun _ _ => false) (fun _ _ _ => false) (fun _ => const1K v k) (fun _ => const1K v k) (fun _ _ _ => const1K v k) (fun _ => false) (fun _ => false) (fun _ _ _ => false) (const1K v k) (fun _ _ => false) (const1K v k)
    (fun cs => const1sK cs.toList fun l => k (.agg l)) (fun _ => false)
theorem constK_some {v : Value} {k : AV → Bool} (h : constK v k = true) : ∃ a, k a = true ∧ ∀ ρ, VR E ρ a v := by
  have one : const1K v k = true → ∃ a, k a = true ∧ ∀ ρ, VR E ρ a v := fun h => by
    obtain ⟨a, h1, _, h3, _⟩ := const1K_some (E := E) h; exact ⟨a, h1, h3⟩
  cases v with
  | agg cs =>
    obtain ⟨as, h1, _, _, h3⟩ := const1sK_some (E := E) (l := cs.toList) (k := fun l => k (.agg l)) h
    exact ⟨_, h1, fun ρ => by simp only [VR]; exact ⟨_, h3 ρ, rfl⟩⟩
  | _ => first | exact one h | cases h
/-- The cells of a constant. -/
noncomputable def constCellsK (v : Value) (k : List AV → Bool) : Bool :=
  @Value.casesOn (fun _ => Bool) v (fun _ => const1K v fun a => k [a]) (fun _ _ => const1K v fun a => k [a]) (fun _ _ => false) (fun _ _ _ => false) (fun _ => const1K v fun a => k [a]) (fun _ => const1K v fun a => k [a]) (fun _ _ _ => const1K v fun a => k [a]) (fun _ => false) (fun _ => false) (fun _ _ _ => false) (const1K v fun a => k [a]) (fun _ _ => false) (const1K v fun a => k [a])
    (fun cs => const1sK cs.toList k) (fun _ => false)
theorem constCellsK_some {v : Value} {k : List AV → Bool} (h : constCellsK v k = true) : ∃ as, k as = true ∧ (∀ a ∈ as, one1 a = true) ∧ (∀ u ∈ v.cells.toList, u.oneCell' = true) ∧ ∀ ρ, VRs E ρ as v.cells.toList := by
  have one : const1K v (fun a => k [a]) = true → ∃ as, k as = true ∧ (∀ a ∈ as, one1 a = true) ∧ (∀ u ∈ v.cells.toList, u.oneCell' = true) ∧ ∀ ρ, VRs E ρ as v.cells.toList := fun h => by
    obtain ⟨a, h1, h2, h3, h4, h5⟩ := const1K_some (E := E) h
    exact ⟨[a], h1, by simpa using h2, by rw [h4]; simpa using h5, fun ρ => by rw [h4]; exact VRs.cons (h3 ρ) VRs.nil⟩
  cases v with
  | agg cs => exact const1sK_some (E := E) (l := cs.toList) h
  | _ => first | exact one h | cases h

noncomputable def copdK (x : Operand) (k : COpd → Bool) : Bool :=
  @Operand.casesOn (fun _ => Bool) x (fun t => k (.tmp t)) (fun v => constK v fun a => k (.const a)) (fun g => ifK (Nat.blt g 65536) (k (.const (.glob g))) false) (fun f => k (.const (.fn (.func f) [] [])))
theorem copdK_some {x : Operand} {k : COpd → Bool} (h : copdK x k = true) : ∃ c, k c = true ∧ OpdOk E x c := by
  cases x with
  | tmp t => exact ⟨_, h, .tmp t⟩
  | const v =>
    obtain ⟨a, h1, h2⟩ := constK_some (E := E) (v := v) (k := fun a => k (.const a)) h
    exact ⟨_, h1, .const fun ρ e he => by rw [he.const]; exact h2 ρ⟩
  | global g =>
    obtain ⟨hg, h⟩ := ifK_and h
    have hg := blt_of hg
    exact ⟨_, h, .const fun ρ e he => by rw [he.glob]; simp only [VR]; rw [Nat.mod_eq_of_lt hg, Nat.div_eq_of_lt hg]⟩
  | func f => exact ⟨_, h, .const fun ρ e he => by rw [he.func]; simp only [VR]; exact ⟨[], [], VRs.nil, VRs.nil, rfl⟩⟩
noncomputable def copdsK (l : List Operand) : (List COpd → Bool) → Bool :=
  @List.rec Operand (fun _ => (List COpd → Bool) → Bool) (fun k => k []) (fun x _ ih k => copdK x fun c => ih fun r => k (c :: r)) l
theorem copdsK_some : ∀ {l : List Operand} {k : List COpd → Bool}, copdsK l k = true → ∃ cs, k cs = true ∧ OpdsOk E l cs
  | [], _, h => ⟨[], h, OpdsOk.nil⟩
  | x :: l, k, h => by
    obtain ⟨c, h1, h2⟩ := copdK_some (E := E) (x := x) (k := fun c => copdsK l fun r => k (c :: r)) h
    obtain ⟨cs, h3, h4⟩ := copdsK_some (l := l) h1
    exact ⟨_, h3, OpdsOk.cons h2 h4⟩
/-- An operand that may be left out. -/
noncomputable def coptK (x : Option Operand) (k : Option COpd → Bool) : Bool := @Option.rec Operand (fun _ => Bool) (k none) (fun x => copdK x fun c => k (some c)) x
def OptOk (E : Env) (x : Option Operand) (c : Option COpd) : Prop := (x = none ∧ c = none) ∨ ∃ y d, x = some y ∧ c = some d ∧ OpdOk E y d
theorem coptK_some {x : Option Operand} {k : Option COpd → Bool} (h : coptK x k = true) : ∃ c, k c = true ∧ OptOk E x c := by
  cases x with
  | none => exact ⟨_, h, .inl ⟨rfl, rfl⟩⟩
  | some y =>
    obtain ⟨c, h1, h2⟩ := copdK_some (E := E) (x := y) (k := fun c => k (some c)) h
    exact ⟨_, h1, .inr ⟨y, c, rfl, rfl, h2⟩⟩
end
end Go.Proofs.YtfgmmabggjjhgaaGreatDoor.Ev
