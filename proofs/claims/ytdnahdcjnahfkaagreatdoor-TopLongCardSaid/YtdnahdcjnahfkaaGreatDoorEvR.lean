/- The evaluator: operations that read memory, and that make a new block. It speaks of any program; nothing of the claim's own program stands here. -/
import Derived.Test.YtdnahdcjnahfkaaGreatDoorEvO
import Derived.Laws.Tables
import Derived.Stop.Asserts
import Derived.Lib.Builder
import Derived.Lib.UnsafeStr
import Derived.Lib.ConvBytes
import Derived.Great.BuildSlice
import Derived.Laws.MakeOwn
set_option linter.unusedVariables false
set_option linter.unusedSimpArgs false
namespace Go.Proofs.YtdnahdcjnahfkaaGreatDoor.Ev
open Go

inductive POp where
  | mv (x : COpd)
  | pick (c a b : COpd)
  | build (zs : List AV) (ps : List (Nat × Nat × COpd))
  | nilck (x : COpd)
  | ib (op : BinOp) (x y : COpd)
  | tb (op : BinOp) (x y : COpd)
  | eqp (n : Nat) (neg : Bool) (x y : COpd)
  | eqn (n : Nat) (neg : Bool) (x y : COpd)
  | eqs (l : List (Nat × Nat)) (neg : Bool) (x y : COpd)
  | not (x : COpd)
  | neg (x : COpd)
  | conv (k : IntKind) (x : COpd)
  | mkif (t : Nat) (x : COpd)
  | mkfn (f : Fn) (a b : List COpd)
  | slcs (x : COpd) (lo hi : Option COpd)
  | slc (es : Nat) (x : COpd) (lo hi mx : Option COpd)
  | faddr (o : Nat) (x : COpd)
  | fld (o n : Nat) (ag : Bool) (x : COpd)
  | iaddr (es : Nat) (x i : COpd)
  | iaddra (n es : Nat) (x i : COpd)
  | idxs (x i : COpd)
  | ext (i : Nat) (x : COpd)
  | tass (t : Nat) (z : AV) (ok : Bool) (x : COpd)
  | lenv (st : Bool) (x : COpd)
  | lenc (n : Nat)
  | capv (x : COpd)
  | mm (mx : Bool) (x y : COpd)
  | tassi (g : Nat → (Bool → Bool) → Bool) (z : AV) (x : COpd)
  | eqi (neg : Bool) (g : Nat → (IntKind → Bool) → Bool) (x y : COpd)
  | eqpp (neg : Bool) (x y : COpd)
  | sdata (x : COpd)

/-! ### what they do -/
noncomputable def opd2 (fr : T AV) (x y : COpd) (k : AV → AV → Bool) : Bool := opdK fr (fun a => opdK fr (fun b => k a b) y) x
noncomputable def pMv (x : COpd) (fr : T AV) (k : AV → Bool) : Bool := opdK fr k x
noncomputable def pPick (c a b : COpd) (fr : T AV) (k : AV → Bool) : Bool := opdK fr (fun v => boolK v fun t => @Bool.rec (fun _ => Bool) (opdK fr k b) (opdK fr k a) t) c
noncomputable def spliceK (o n : Nat) (vs zs : List AV) (k : List AV → Bool) : Bool := takeK o zs fun a => dropK (Nat.add o n) zs fun b => appK vs b fun m => appK a m k
noncomputable def fillK (fr : T AV) (ps : List (Nat × Nat × COpd)) : List AV → (List AV → Bool) → Bool :=
  @List.rec (Nat × Nat × COpd) (fun _ => List AV → (List AV → Bool) → Bool) (fun zs k => k zs)
    (fun p _ ih zs k => opdK fr (fun v => cellsK v fun vs => lenK vs 0 fun n => ifK (Nat.beq n p.2.1) (spliceK p.1 n vs zs fun zs => ih zs k) false) p.2.2) ps
noncomputable def pBuild (zs : List AV) (ps : List (Nat × Nat × COpd)) (fr : T AV) (k : AV → Bool) : Bool := fillK fr ps zs fun l => k (.agg l)
noncomputable def pNilck (x : COpd) (fr : T AV) (k : AV → Bool) : Bool := opdK fr (fun v => solidK v (k v)) x
noncomputable def pIb (F : Facts) (op : BinOp) (x y : COpd) (fr : T AV) (k : AV → Bool) : Bool := opd2 fr x y fun a b => ibF F op a b k
noncomputable def pTb (op : BinOp) (x y : COpd) (fr : T AV) (k : AV → Bool) : Bool := opd2 fr x y fun a b => tbF op a b k
noncomputable def negK (neg : Bool) (b : Bool) (k : AV → Bool) : Bool := @Bool.rec (fun _ => Bool) (@Bool.rec (fun _ => Bool) (k (.bool false)) (k (.bool true)) b) (@Bool.rec (fun _ => Bool) (k (.bool true)) (k (.bool false)) b) neg
theorem negK_eq (neg b : Bool) (k : AV → Bool) : negK neg b k = k (.bool (if neg then !b else b)) := by cases neg <;> cases b <;> rfl
noncomputable def eqBool (x y : AV) (c : Bool → Bool) : Bool := boolK x fun a => boolK y fun b => @Bool.rec (fun _ => Bool) (@Bool.rec (fun _ => Bool) (c true) (c false) b) (@Bool.rec (fun _ => Bool) (c false) (c true) b) a
noncomputable def symE (n : Int) (c : Bool) : Bool := ifK (bltI n 97) c (ifK (bltI 122 n) c false)
noncomputable def eqNum (F : Facts) (x y : AV) (c : Bool → Bool) : Bool :=
  numK x (fun k a => numK y (fun k' b => ifK (kindEq k k') (forceB (beqI a b) c) false) (fun k' _ => ifK (kindEq k k') (symE a (c false)) false) (fun _ _ => false))
    (fun k i => numK y (fun k' b => ifK (kindEq k k') (symE b (c false)) false) (fun k' j => ifK (kindEq k k') (ifK (Nat.beq i j) (c true) (ifK F.apart (ifK (Nat.blt i 2) (ifK (Nat.blt j 2) (c false) false) false) false)) false) (fun _ _ => false)) (fun _ _ => false)
noncomputable def eqTxt (F : Facts) (x y : AV) (c : Bool → Bool) : Bool := str2K x y fun s t => eqS F.apart c s t
noncomputable def eqNone (_ _ : AV) (_ : Bool → Bool) : Bool := false
noncomputable def eqPrim (F : Facts) (n : Nat) : AV → AV → (Bool → Bool) → Bool := @Nat.rec (fun _ => AV → AV → (Bool → Bool) → Bool) eqBool (fun m _ => @Nat.rec (fun _ => AV → AV → (Bool → Bool) → Bool) (eqNum F) (fun m _ => @Nat.rec (fun _ => AV → AV → (Bool → Bool) → Bool) (eqTxt F) (fun _ _ => eqNone) m) m) n
noncomputable def pEqp (F : Facts) (n : Nat) (neg : Bool) (x y : COpd) (fr : T AV) (k : AV → Bool) : Bool := opd2 fr x y fun a b => eqPrim F n a b fun r => negK neg r k
noncomputable def nilB (n : Nat) (x : AV) (k : Bool → Bool) : Bool :=
  @AV.rec (fun _ => Nat → (Bool → Bool) → Bool) (fun _ => Bool) (fun _ _ _ => false) (fun _ _ _ _ => false) (fun _ _ _ _ => false) (fun _ _ _ _ => false) (fun _ _ _ => false) (fun _ _ n k => ifK (Nat.beq n 3) (k false) false) (fun n k => (ifK (Nat.beq n 3) (k true) false)) (fun _ _ _ => false) (fun _ _ _ _ _ _ n k => ifK (Nat.beq n 1) (k false) false) (fun n k => (ifK (Nat.beq n 1) (k true) false)) (fun _ _ => false) (fun _ _ _ _ _ n k => ifK (Nat.beq n 6) (k false) false) (fun n k => (ifK (Nat.beq n 6) (k true) false)) (fun _ _ _ n k => ifK (Nat.beq n 5) (k false) false) (fun n k => (ifK (Nat.beq n 5) (k true) false)) (fun _ _ _ _ => false) (fun _ _ _ _ => false) (fun _ _ => false) (fun _ _ _ _ => false) true (fun _ _ _ _ => true) x n k
noncomputable def eqNil (n : Nat) (x y : AV) (c : Bool → Bool) : Bool := nilB n x fun a => nilB n y fun b => @Bool.rec (fun _ => Bool) (@Bool.rec (fun _ => Bool) false (c false) b) (@Bool.rec (fun _ => Bool) (c false) (c true) b) a
noncomputable def pEqn (n : Nat) (neg : Bool) (x y : COpd) (fr : T AV) (k : AV → Bool) : Bool := opd2 fr x y fun a b => eqNil n a b fun r => negK neg r k
/-- Where a difference is known already: texts need not be compared. -/
noncomputable def looseEq (F : Facts) (n : Nat) (a b : AV) (k : Bool) : Bool := ifK (Nat.beq n 2) (str2K a b fun _ _ => k) (eqPrim F n a b fun _ => k)
noncomputable def allEq (F : Facts) (xs ys : List AV) (c : Bool → Bool) (l : List (Nat × Nat)) : Bool → Bool :=
  @List.rec (Nat × Nat) (fun _ => Bool → Bool) (fun r => c r) (fun p _ ih r => nthK xs p.1 fun a => nthK ys p.1 fun b => @Bool.rec (fun _ => Bool) (looseEq F p.2 a b (ih false)) (eqPrim F p.2 a b fun q => ih q) r) l
noncomputable def pEqs (F : Facts) (l : List (Nat × Nat)) (neg : Bool) (x y : COpd) (fr : T AV) (k : AV → Bool) : Bool := opd2 fr x y fun a b => aggK a fun xs => aggK b fun ys => allEq F xs ys (fun r => forceB r fun r => negK neg r k) l true
noncomputable def pNot (x : COpd) (fr : T AV) (k : AV → Bool) : Bool := opdK fr (fun v => boolK v fun b => @Bool.rec (fun _ => Bool) (k (.bool true)) (k (.bool false)) b) x
noncomputable def pNeg (x : COpd) (fr : T AV) (k : AV → Bool) : Bool := opdK fr (fun v => intK v fun q n => wrapK q (Int.sub 0 n) fun r => k (.int q r)) x
noncomputable def wideN (k : IntKind) (y : Bool) : Bool := @IntKind.rec (fun _ => Bool) false y y y y y y y k
noncomputable def pConv (q : IntKind) (x : COpd) (fr : T AV) (k : AV → Bool) : Bool := opdK fr (fun v => numK v (fun _ n => wrapK q n fun r => k (.int q r)) (fun _ i => wideN q (k (.sym q i))) (fun _ i => wideN q (k (.opq q i)))) x
noncomputable def pMkif (t : Nat) (x : COpd) (fr : T AV) (k : AV → Bool) : Bool := opdK fr (fun v => k (.ifc t v)) x
noncomputable def pMkfn (f : Fn) (a b : List COpd) (fr : T AV) (k : AV → Bool) : Bool := opdsK fr a fun as => opdsK fr b fun bs => k (.fn f as bs)
/-- A bound that may be left out. -/
noncomputable def natK (x : AV) (k : Nat → Bool) : Bool := intK x fun _ n => @Int.rec (fun _ => Bool) (fun m => forceN m k) (fun _ => false) n
noncomputable def bndK (fr : T AV) (x : Option COpd) (d : Nat) (k : Nat → Bool) : Bool := @Option.rec COpd (fun _ => Bool) (k d) (fun c => opdK fr (fun v => natK v k) c) x
noncomputable def pSlcs (x : COpd) (lo hi : Option COpd) (fr : T AV) (k : AV → Bool) : Bool :=
  opdK fr (fun v => strK v fun s => lenK s 0 fun n => bndK fr lo 0 fun l => bndK fr hi n fun h => ifK (Nat.ble l h) (ifK (Nat.ble h n) (dropK l s fun r => takeK (Nat.sub h l) r fun r => k (.str r)) false) false) x
noncomputable def slcIn (es i o n c : Nat) (l h : Nat) (k : AV → Bool) (ex : Bool) : Bool :=
  ifK (Nat.ble l h) (ifK (Nat.ble h c)
    (ifK (Nat.beq l c) (@Bool.rec (fun _ => Bool) (k .empt) (forceN (Nat.sub h l) fun n' => k (.sl i o n' 0 true es)) ex)
      (forceN (Nat.add o (Nat.mul l es)) fun o' => forceN (Nat.sub h l) fun n' => forceN (Nat.sub c l) fun c' => k (.sl i o' n' c' ex es))) false) false
noncomputable def pSlc (es : Nat) (x : COpd) (lo hi mx : Option COpd) (fr : T AV) (k : AV → Bool) : Bool :=
  opdK fr (fun v => slK v (fun i o n c ex es' => ifK (Nat.beq es es') (bndK fr lo 0 fun l => bndK fr hi n fun h =>
      @Option.rec COpd (fun _ => Bool) (slcIn es i o n c l h k ex) (fun m => opdK fr (fun v => natK v fun m => ifK (Nat.ble m c) (slcIn es i o n m l h k true) false) m) mx) false)
    (bndK fr lo 0 fun l => bndK fr hi 0 fun h => bndK fr mx 0 fun m => ifK (Nat.beq l 0) (ifK (Nat.beq h 0) (ifK (Nat.beq m 0) (k .nils) false) false) false) false) x
noncomputable def pFaddr (o : Nat) (x : COpd) (fr : T AV) (k : AV → Bool) : Bool := opdK fr (fun v => ptrK v fun i p => forceN (Nat.add p o) fun p => k (.ptr i p)) x
noncomputable def pFld (o n : Nat) (ag : Bool) (x : COpd) (fr : T AV) (k : AV → Bool) : Bool :=
  opdK fr (fun v => aggK v fun l => @Bool.rec (fun _ => Bool) (nthK l o k) (dropK o l fun r => takeK n r fun r => k (.agg r)) ag) x
noncomputable def pIaddr (es : Nat) (x i : COpd) (fr : T AV) (k : AV → Bool) : Bool :=
  opd2 fr x i fun v j => slK v (fun i o n _ _ es' => ifK (Nat.beq es es') (natK j fun j => ifK (Nat.blt j n) (forceN (Nat.add o (Nat.mul j es)) fun p => k (.ptr i p)) false) false) false false
noncomputable def pIaddra (n es : Nat) (x i : COpd) (fr : T AV) (k : AV → Bool) : Bool :=
  opd2 fr x i fun v j => ptrK v fun i o => natK j fun j => ifK (Nat.blt j n) (forceN (Nat.add o (Nat.mul j es)) fun p => k (.ptr i p)) false
noncomputable def atomK (n : Nat) (k : AV → Bool) : Bool := ifK (Nat.blt n 256) (k (.int .u8 (Int.ofNat n))) (forceN (Nat.sub n 256) fun i => k (.sym .u8 i))
noncomputable def pIdxs (x i : COpd) (fr : T AV) (k : AV → Bool) : Bool := opd2 fr x i fun v j => strK v fun s => natK j fun j => nthK s j fun n => atomK n k
noncomputable def pExt (i : Nat) (x : COpd) (fr : T AV) (k : AV → Bool) : Bool := opdK fr (fun v => tupK v fun l => nthK l i k) x
noncomputable def pTass (t : Nat) (z : AV) (ok : Bool) (x : COpd) (fr : T AV) (k : AV → Bool) : Bool :=
  opdK fr (fun v => ifcK v (fun u y => ifK (Nat.beq u t) (@Bool.rec (fun _ => Bool) (k y) (k (.tup [y, .bool true])) ok) (@Bool.rec (fun _ => Bool) false (k (.tup [z, .bool false])) ok)) (@Bool.rec (fun _ => Bool) false (k (.tup [z, .bool false])) ok)) x
noncomputable def pLenv (st : Bool) (x : COpd) (fr : T AV) (k : AV → Bool) : Bool :=
  opdK fr (fun v => @Bool.rec (fun _ => Bool) (slK v (fun _ _ n _ _ _ => k (.int .i64 (Int.ofNat n))) (k (.int .i64 0)) (k (.int .i64 0))) (strK v fun s => lenK s 0 fun n => k (.int .i64 (Int.ofNat n))) st) x
noncomputable def pLenc (n : Nat) (_ : T AV) (k : AV → Bool) : Bool := k (.int .i64 (Int.ofNat n))
noncomputable def pCapv (x : COpd) (fr : T AV) (k : AV → Bool) : Bool := opdK fr (fun v => slK v (fun _ _ _ c ex _ => ifK ex (k (.int .i64 (Int.ofNat c))) (k (.atl .i64 c))) (k (.int .i64 0)) false) x
noncomputable def pMm (mx : Bool) (x y : COpd) (fr : T AV) (k : AV → Bool) : Bool := opd2 fr x y fun a b => int2K a b fun q m n => ifK (bltI m n) (@Bool.rec (fun _ => Bool) (k (.int q m)) (k (.int q n)) mx) (@Bool.rec (fun _ => Bool) (k (.int q n)) (k (.int q m)) mx)

/-- Of an interface to another one. -/
noncomputable def pTassi (g : Nat → (Bool → Bool) → Bool) (z : AV) (x : COpd) (fr : T AV) (k : AV → Bool) : Bool :=
  opdK fr (fun v => ifcK v (fun t u => g t fun b => @Bool.rec (fun _ => Bool) (k (.tup [z, .bool false])) (k (.tup [.ifc t u, .bool true])) b) (k (.tup [z, .bool false]))) x
/-- Two interfaces, at least one of them not nil; of one type: numbers. -/
noncomputable def eqIfc (g : Nat → (IntKind → Bool) → Bool) (x y : AV) (c : Bool → Bool) : Bool :=
  ifcK x (fun t u => ifcK y (fun t' u' => @Bool.rec (fun _ => Bool) (c false) (g t fun q => intK u fun q1 m => intK u' fun q2 m' => ifK (kindEq q1 q) (ifK (kindEq q2 q) (forceB (beqI m m') c) false) false) (Nat.beq t t')) (c false)) (ifcK y (fun _ _ => c false) false)
noncomputable def pEqi (neg : Bool) (g : Nat → (IntKind → Bool) → Bool) (x y : COpd) (fr : T AV) (k : AV → Bool) : Bool := opd2 fr x y fun a b => eqIfc g a b fun r => negK neg r k

/-- Two pointers, of which one is nil, or that are the same. -/
noncomputable def eqPtr (x y : AV) (c : Bool → Bool) : Bool :=
  nilB 3 x fun a => nilB 3 y fun b => @Bool.rec (fun _ => Bool) (@Bool.rec (fun _ => Bool) (ptrK x fun i o => ptrK y fun j p => ifK (Nat.beq i j) (ifK (Nat.beq o p) (c true) false) false) (c false) b) (@Bool.rec (fun _ => Bool) (c false) (c true) b) a
noncomputable def pEqpp (neg : Bool) (x y : COpd) (fr : T AV) (k : AV → Bool) : Bool := opd2 fr x y fun a b => eqPtr a b fun r => negK neg r k
/-- Where a slice's cells lie. -/
noncomputable def pSdata (x : COpd) (fr : T AV) (k : AV → Bool) : Bool := opdK fr (fun v => slK v (fun i o _ c _ _ => ifK (Nat.blt 0 c) (k (.ptr i o)) false) (k .nilp) false) x

noncomputable def pureK (F : Facts) (p : POp) : T AV → (AV → Bool) → Bool :=
  @POp.rec (fun _ => T AV → (AV → Bool) → Bool) pMv pPick pBuild pNilck (pIb F) pTb (pEqp F) pEqn (pEqs F) pNot pNeg pConv pMkif pMkfn pSlcs pSlc pFaddr pFld pIaddr pIaddra pIdxs pExt pTass pLenv pLenc pCapv pMm pTassi pEqi pEqpp pSdata p
end Go.Proofs.YtdnahdcjnahfkaaGreatDoor.Ev
namespace Go.Proofs.YtdnahdcjnahfkaaGreatDoor.Ev
open Go

/-- The operation yields a value that r stands for, in any world. -/
def PureT (P : Program) (E : Env) (o : Oper) (fr : T AV) (r : AV) : Prop :=
  ∀ ρ e, Ev e → Holds E ρ fr e o.op.operands.toList → ∃ v, VR E ρ r v ∧ ∀ w, (execOp e o).run P w = .ok (.value v) w
def PureOk (P : Program) (E : Env) (F : Facts) (o : Oper) (p : POp) : Prop := ∀ fr k, pureK F p fr k = true → ∃ r, k r = true ∧ PureT P E o fr r

section
variable {P : Program} {E : Env} {F : Facts} {o : Oper}
theorem opd2_some {x y : Operand} {c d : COpd} (hx : OpdOk E x c) (hy : OpdOk E y d) {fr : T AV} {k : AV → AV → Bool} (h : opd2 fr c d k = true) :
    ∃ a b, k a b = true ∧ ∀ ρ e, Ev e → Holds E ρ fr e [x, y] → VR E ρ a (e x) ∧ VR E ρ b (e y) := by
  obtain ⟨a, h1, h2⟩ := hx fr (fun a => opdK fr (fun b => k a b) d) h
  obtain ⟨b, h3, h4⟩ := hy fr _ h1
  exact ⟨a, b, h3, fun ρ e he hh => ⟨h2 ρ e he (hh.sub (by simp)), h4 ρ e he (hh.sub (by simp))⟩⟩

theorem mv_ok {x : Operand} {c : COpd} (ho : o.op = .move x ∨ o.op = .assign x) (hx : OpdOk E x c) : PureOk P E F o (.mv c) := fun fr k h => by
  obtain ⟨a, h1, h2⟩ := hx fr k h
  refine ⟨a, h1, fun ρ e he hh => ⟨e x, ?_, fun w => ?_⟩⟩
  · rcases ho with ho | ho <;> rw [ho] at hh <;> exact h2 ρ e he hh
  · rcases ho with ho | ho <;> simp [execOp, ho]
theorem pick_ok {c a b : Operand} {cc ca cb : COpd} (ho : o.op = .pick c a b) (hc : OpdOk E c cc) (ha : OpdOk E a ca) (hb : OpdOk E b cb) : PureOk P E F o (.pick cc ca cb) := fun fr k h => by
  obtain ⟨v, h1, h2⟩ := hc fr (fun v => boolK v fun t => @Bool.rec (fun _ => Bool) (opdK fr k cb) (opdK fr k ca) t) h
  obtain ⟨t, rfl, h1⟩ := boolK_some h1
  cases t with
  | false =>
    obtain ⟨u, h3, h4⟩ := hb fr k h1
    refine ⟨u, h3, fun ρ e he hh => ⟨e b, ?_, fun w => ?_⟩⟩
    · rw [ho] at hh; exact h4 ρ e he (hh.sub (by simp [Op.operands]))
    · rw [ho] at hh
      have := h2 ρ e he (hh.sub (by simp [Op.operands]))
      simp only [VR] at this
      simp [execOp, ho, this, asBool]
  | true =>
    obtain ⟨u, h3, h4⟩ := ha fr k h1
    refine ⟨u, h3, fun ρ e he hh => ⟨e a, ?_, fun w => ?_⟩⟩
    · rw [ho] at hh; exact h4 ρ e he (hh.sub (by simp [Op.operands]))
    · rw [ho] at hh
      have := h2 ρ e he (hh.sub (by simp [Op.operands]))
      simp only [VR] at this
      simp [execOp, ho, this, asBool]

theorem nilck_ok {x : Operand} {c : COpd} (ho : o.op = .nilCheck x) (hx : OpdOk E x c) : PureOk P E F o (.nilck c) := fun fr k h => by
  obtain ⟨a, h1, h2⟩ := hx fr (fun v => solidK v (k v)) h
  obtain ⟨hk, n1, n2, n3, n4⟩ := solidK_some h1
  refine ⟨a, hk, fun ρ e he hh => ?_⟩
  rw [ho] at hh
  have hv := h2 ρ e he hh
  refine ⟨e x, hv, fun w => ?_⟩
  cases a with
  | nilp => exact absurd rfl n1
  | nili => exact absurd rfl n2
  | nilf => exact absurd rfl n3
  | fn f a b =>
    obtain ⟨i, rfl⟩ := n4 f a b rfl
    simp only [VR] at hv
    obtain ⟨a', b', _, _, hv⟩ := hv
    simp [execOp, ho, hv]
  | ptr i p => simp only [VR] at hv; obtain ⟨_, _, hv⟩ := hv; simp [execOp, ho, hv]
  | sl => simp only [VR] at hv; obtain ⟨_, _, _, hv, _⟩ := hv; simp [execOp, ho, hv]
  | empt => simp only [VR] at hv; obtain ⟨_, _, hv⟩ := hv; simp [execOp, ho, hv]
  | ifc => simp only [VR] at hv; obtain ⟨_, _, hv⟩ := hv; simp [execOp, ho, hv]
  | agg => simp only [VR] at hv; obtain ⟨_, _, hv⟩ := hv; simp [execOp, ho, hv]
  | tup => simp only [VR] at hv; obtain ⟨_, _, hv⟩ := hv; simp [execOp, ho, hv]
  | any => cases h1
  | atl => cases h1
  | _ => simp only [VR] at hv; simp [execOp, ho, hv]

theorem run_binOp {e : Operand → Value} {op : BinOp} {t t' : TypeId} {x y : Operand} {z : Value} {w : World} (ho : o.op = .binOp op t x y t') (hop : op ≠ .eql ∧ op ≠ .neq) (h : (binOp op t (e x) (e y)).run P w = .ok z w) :
    (execOp e o).run P w = .ok (.value z) w := by
  have hg : (eqGuard op t x y (e x) (e y)).run P w = .ok () w := by
    obtain ⟨h1, h2⟩ := hop
    cases op <;> first | exact absurd rfl h1 | exact absurd rfl h2 | (simp [eqGuard])
  simp only [execOp, ho, Sem.run_bind, hg, h, Result.andThen_ok]
  rfl
theorem ib_ok {op : BinOp} {t t' : TypeId} {x y : Operand} {c d : COpd} (hF : F.Of E) (ho : o.op = .binOp op t x y t') (hop : op ≠ .eql ∧ op ≠ .neq) (hx : OpdOk E x c) (hy : OpdOk E y d) : PureOk P E F o (.ib op c d) := fun fr k h => by
  obtain ⟨a, b, h1, h2⟩ := opd2_some hx hy (k := fun a b => ibF F op a b k) h
  obtain ⟨r, hr, ht⟩ := ibF_some hF h1
  refine ⟨r, hr, fun ρ e he hh => ?_⟩
  rw [ho] at hh
  obtain ⟨ha, hb⟩ := h2 ρ e he (hh.sub (by simp [Op.operands]))
  obtain ⟨z, hz, hrun⟩ := ht ρ _ _ ha hb
  exact ⟨z, hz, fun w => run_binOp ho hop (hrun P w t)⟩
theorem tb_ok {op : BinOp} {t t' : TypeId} {x y : Operand} {c d : COpd} (ho : o.op = .binOp op t x y t') (hop : op ≠ .eql ∧ op ≠ .neq) (hx : OpdOk E x c) (hy : OpdOk E y d) : PureOk P E F o (.tb op c d) := fun fr k h => by
  obtain ⟨a, b, h1, h2⟩ := opd2_some hx hy (k := fun a b => tbF op a b k) h
  obtain ⟨r, hr, ht⟩ := tbF_some (E := E) h1
  refine ⟨r, hr, fun ρ e he hh => ?_⟩
  rw [ho] at hh
  obtain ⟨ha, hb⟩ := h2 ρ e he (hh.sub (by simp [Op.operands]))
  obtain ⟨z, hz, hrun⟩ := ht ρ _ _ ha hb
  exact ⟨z, hz, fun w => run_binOp ho hop (hrun P w t)⟩

/-! ### Equality -/
theorem eqPrim_some (hF : F.Of E) {n : Nat} {x y : AV} {c : Bool → Bool} (h : eqPrim F n x y c = true) : ∃ r, c r = true ∧ ∀ ρ v u, VR E ρ x v → VR E ρ y u → PrimIs n v u r := by
  match n with
  | 0 =>
    replace h : eqBool x y c = true := h
    replace h := boolK_some h
    obtain ⟨a, rfl, h⟩ := h
    replace h := boolK_some h
    obtain ⟨b, rfl, h⟩ := h
    refine ⟨a == b, by cases a <;> cases b <;> exact h, fun ρ v u hv hu => ?_⟩
    simp only [VR] at hv hu
    exact .inl ⟨rfl, a, b, hv, hu, rfl⟩
  | 1 =>
    replace h : eqNum F x y c = true := h
    have fin : ∀ {x y : AV} {b : Bool}, c b = true → (∀ ρ v u, VR E ρ x v → VR E ρ y u → ∃ k m n, v = .int k m ∧ u = .int k n ∧ b = decide (m = n)) → ∃ r, c r = true ∧ ∀ ρ v u, VR E ρ x v → VR E ρ y u → PrimIs 1 v u r := fun hb hh =>
      ⟨_, hb, fun ρ v u hv hu => by
        obtain ⟨k, m, n, h1, h2, h3⟩ := hh ρ v u hv hu
        refine .inr (.inl ⟨rfl, k, m, n, h1, h2, ?_⟩)
        rw [h3]; rfl⟩
    have sym : ∀ {n : Int} {b : Bool}, symE n b = true → b = true ∧ ∀ j, (E.letter j : Int) ≠ n := fun {n b} h => by
      unfold symE at h
      rw [ifK_eq, ifK_eq, bltI_eq, bltI_eq] at h
      by_cases h1 : n < 97
      · simp [h1] at h; exact ⟨h, fun j => by have := E.lo j; omega⟩
      · by_cases h2 : 122 < n
        · simp [h1, h2] at h; exact ⟨h, fun j => by have := E.hi j; omega⟩
        · simp [h1, h2] at h
    replace h := numK_some h
    rcases h with ⟨k, a, rfl, h⟩ | ⟨k, i, rfl, h⟩ | ⟨_, _, _, h⟩
    · replace h := numK_some h
      rcases h with ⟨k', b, rfl, h⟩ | ⟨k', j, rfl, h⟩ | ⟨_, _, _, h⟩
      · replace h := ifK_and h
        obtain ⟨hk, h⟩ := h
        have := kindEq_of hk; subst this
        rw [forceB_eq, beqI_eq] at h
        exact fin h fun ρ v u hv hu => by simp only [VR] at hv hu; exact ⟨k, a, b, hv, hu, rfl⟩
      · replace h := ifK_and h
        obtain ⟨hk, h⟩ := h
        have := kindEq_of hk; subst this
        obtain ⟨h, hn⟩ := sym h
        exact fin h fun ρ v u hv hu => by simp only [VR] at hv hu; exact ⟨k, _, _, hv, hu, (decide_eq_false (Ne.symm (hn j))).symm⟩
      · cases h
    · replace h := numK_some h
      rcases h with ⟨k', b, rfl, h⟩ | ⟨k', j, rfl, h⟩ | ⟨_, _, _, h⟩
      · replace h := ifK_and h
        obtain ⟨hk, h⟩ := h
        have := kindEq_of hk; subst this
        obtain ⟨h, hn⟩ := sym h
        exact fin h fun ρ v u hv hu => by simp only [VR] at hv hu; exact ⟨k, _, _, hv, hu, (decide_eq_false (hn i)).symm⟩
      · replace h := ifK_and h
        obtain ⟨hk, h⟩ := h
        have := kindEq_of hk; subst this
        rw [ifK_eq, ifK_eq] at h
        by_cases hij : i = j
        · subst hij
          simp at h
          exact fin h fun ρ v u hv hu => by simp only [VR] at hv hu; exact ⟨k, _, _, hv, hu, by simp⟩
        · have hb : Nat.beq i j = false := by
            cases hb : Nat.beq i j with
            | false => rfl
            | true => exact absurd (beq_of hb) hij
          rw [hb] at h
          cases ha : F.apart with
          | false => rw [ha] at h; cases h
          | true =>
            rw [ha] at h
            replace h := ifK_and h
            obtain ⟨hi, h⟩ := h
            replace h := ifK_and h
            obtain ⟨hj, h⟩ := h
            have hne := hF.apart ha i j (by simpa [bltN] using hi) (by simpa [bltN] using hj) hij
            refine fin (b := false) h fun ρ v u hv hu => ?_
            simp only [VR] at hv hu
            exact ⟨k, _, _, hv, hu, (decide_eq_false (by omega)).symm⟩
      · cases h
    · cases h
  | 2 =>
    replace h : eqTxt F x y c = true := h
    replace h := str2K_some h
    obtain ⟨s, t, rfl, rfl, h⟩ := h
    have h := eqS_some hF h
    refine ⟨_, h, fun ρ v u hv hu => ?_⟩
    simp only [VR] at hv hu
    exact .inr (.inr ⟨rfl, _, _, hv, hu, (bytes_beq s t).symm⟩)
  | n + 3 => cases h

/-- The test that stands ahead of equality lets these by. -/
def GuardOk (P : Program) (op : BinOp) (t : TypeId) (x y : Operand) (a b : Value) : Prop := ∀ w, (eqGuard op t x y a b).run P w = .ok () w
theorem run_eq {e : Operand → Value} {op : BinOp} {t t' : TypeId} {x y : Operand} {b neg : Bool} {w : World} (ho : o.op = .binOp op t x y t') (hg : GuardOk P op t x y (e x) (e y)) (hop : op = if neg then .neq else .eql)
    (h : (binOp .eql t (e x) (e y)).run P w = .ok (.bool b) w) (h' : (binOp .neq t (e x) (e y)).run P w = .ok (.bool (!b)) w) : (execOp e o).run P w = .ok (.value (.bool (if neg then !b else b))) w := by
  subst hop
  cases neg
  · simp only [execOp, ho, Sem.run_bind, Bool.false_eq_true, if_false] at *
    rw [hg w]
    simp only [Result.andThen_ok, h]
    rfl
  · simp only [execOp, ho, Sem.run_bind, if_true] at *
    rw [hg w]
    simp only [Result.andThen_ok, h']
    rfl
theorem prim_guard {n : Nat} {a b : Value} {r : Bool} (h : PrimIs n a b r) (op : BinOp) (t : TypeId) (x y : Operand) : GuardOk P op t x y a b := fun w => by
  rcases h with ⟨_, p, q, rfl, rfl, _⟩ | ⟨_, k, p, q, rfl, rfl, _⟩ | ⟨_, p, q, rfl, rfl, _⟩ <;> cases op <;> simp [eqGuard]
theorem prim_run {n t : Nat} {de : TypeDesc} {a b : Value} {r : Bool} (h : PrimIs n a b r) (hd : P.underlying t = some de) (ht : DescTag de n) (w : World) :
    (binOp .eql t a b).run P w = .ok (.bool r) w ∧ (binOp .neq t a b).run P w = .ok (.bool (!r)) w := by
  have h' := h
  rcases h with ⟨rfl, p, q, rfl, rfl, rfl⟩ | ⟨rfl, k, p, q, rfl, rfl, rfl⟩ | ⟨rfl, p, q, rfl, rfl, rfl⟩
  · have := h'.run (d := 9999) hd ht w
    simp only [Nat.reduceAdd] at this
    simp [binOp, Op.equal, Op.maxDepth, this]
  · simp [binOp, Op.intCmp, bne]
  · simp [binOp, Op.stringOp]
theorem eqp_ok {n : Nat} {neg : Bool} {op : BinOp} {t t' : TypeId} {de : TypeDesc} {x y : Operand} {c d : COpd} (hF : F.Of E) (ho : o.op = .binOp op t x y t') (hop : op = if neg then .neq else .eql) (hd : P.underlying t = some de) (ht : DescTag de n)
    (hx : OpdOk E x c) (hy : OpdOk E y d) : PureOk P E F o (.eqp n neg c d) := fun fr k h => by
  obtain ⟨a, b, h1, h2⟩ := opd2_some hx hy (k := fun a b => eqPrim F n a b fun r => negK neg r k) h
  obtain ⟨r, h3, h4⟩ := eqPrim_some hF h1
  rw [negK_eq] at h3
  refine ⟨_, h3, fun ρ e he hh => ?_⟩
  rw [ho] at hh
  obtain ⟨ha, hb⟩ := h2 ρ e he (hh.sub (by simp [Op.operands]))
  have hp := h4 ρ _ _ ha hb
  exact ⟨_, by simp only [VR], fun w => run_eq ho (prim_guard hp op t x y) hop (prim_run hp hd ht w).1 (prim_run hp hd ht w).2⟩

/-! nil -/
def NilIs (n : Nat) (v : Value) (b : Bool) : Prop :=
  (n = 3 ∧ ((b = true ∧ v = .pointer none) ∨ (b = false ∧ ∃ a, v = .pointer (some a)))) ∨ (n = 1 ∧ ((b = true ∧ v = .slice none 0 0) ∨ (b = false ∧ ∃ a l c, v = .slice (some a) l c))) ∨
  (n = 5 ∧ ((b = true ∧ v = .nilIface) ∨ (b = false ∧ ∃ t x, v = .iface t x))) ∨ (n = 6 ∧ ((b = true ∧ v = .nilFunc) ∨ (b = false ∧ ∃ f a c, v = .func f a c)))
theorem nilB_some {n : Nat} {x : AV} {k : Bool → Bool} (h : nilB n x k = true) : ∃ b, k b = true ∧ ∀ ρ v, VR E ρ x v → NilIs n v b := by
  cases x with
  | ptr =>
    replace h := ifK_and (t := k false) h
    obtain ⟨hn, h⟩ := h
    exact ⟨false, h, fun ρ v hv => by simp only [VR] at hv; obtain ⟨_, _, rfl⟩ := hv; exact .inl ⟨beq_of hn, .inr ⟨rfl, _, rfl⟩⟩⟩
  | nilp =>
    replace h := ifK_and (t := k true) h
    obtain ⟨hn, h⟩ := h
    exact ⟨true, h, fun ρ v hv => by simp only [VR] at hv; exact .inl ⟨beq_of hn, .inl ⟨rfl, hv⟩⟩⟩
  | sl =>
    replace h := ifK_and (t := k false) h
    obtain ⟨hn, h⟩ := h
    exact ⟨false, h, fun ρ v hv => by simp only [VR] at hv; obtain ⟨_, _, _, rfl, _⟩ := hv; exact .inr (.inl ⟨beq_of hn, .inr ⟨rfl, _, _, _, rfl⟩⟩)⟩
  | nils =>
    replace h := ifK_and (t := k true) h
    obtain ⟨hn, h⟩ := h
    exact ⟨true, h, fun ρ v hv => by simp only [VR] at hv; exact .inr (.inl ⟨beq_of hn, .inl ⟨rfl, hv⟩⟩)⟩
  | fn =>
    replace h := ifK_and (t := k false) h
    obtain ⟨hn, h⟩ := h
    exact ⟨false, h, fun ρ v hv => by simp only [VR] at hv; obtain ⟨_, _, _, _, rfl⟩ := hv; exact .inr (.inr (.inr ⟨beq_of hn, .inr ⟨rfl, _, _, _, rfl⟩⟩))⟩
  | nilf =>
    replace h := ifK_and (t := k true) h
    obtain ⟨hn, h⟩ := h
    exact ⟨true, h, fun ρ v hv => by simp only [VR] at hv; exact .inr (.inr (.inr ⟨beq_of hn, .inl ⟨rfl, hv⟩⟩))⟩
  | ifc =>
    replace h := ifK_and (t := k false) h
    obtain ⟨hn, h⟩ := h
    exact ⟨false, h, fun ρ v hv => by simp only [VR] at hv; obtain ⟨_, _, rfl⟩ := hv; exact .inr (.inr (.inl ⟨beq_of hn, .inr ⟨rfl, _, _, rfl⟩⟩))⟩
  | nili =>
    replace h := ifK_and (t := k true) h
    obtain ⟨hn, h⟩ := h
    exact ⟨true, h, fun ρ v hv => by simp only [VR] at hv; exact .inr (.inr (.inl ⟨beq_of hn, .inl ⟨rfl, hv⟩⟩))⟩
  | _ => cases h
theorem nil_run {n t : Nat} {de : TypeDesc} {v u : Value} {a b : Bool} (hv : NilIs n v a) (hu : NilIs n u b) (hab : (a || b) = true) (hd : P.underlying t = some de) (hs : DescShape de n) (w : World) :
    (binOp .eql t v u).run P w = .ok (.bool (a && b)) w ∧ (binOp .neq t v u).run P w = .ok (.bool (!(a && b))) w := by
  have key : ∀ d, (Op.equalIn (d + 1) t v u).run P w = .ok (a && b) w := by
    intro d
    rcases hv with ⟨rfl, hv⟩ | ⟨rfl, hv⟩ | ⟨rfl, hv⟩ | ⟨rfl, hv⟩
    · obtain ⟨el, rfl⟩ : ∃ e, de = .pointer e := by rcases hs with h | h | h | h | h | h | h | h | h <;> first | exact h.2 | (obtain ⟨h, _⟩ := h; cases h)
      rcases hu with ⟨_, hu⟩ | ⟨h, _⟩ | ⟨h, _⟩ | ⟨h, _⟩ <;> first | cases h | skip
      rcases hv with ⟨rfl, rfl⟩ | ⟨rfl, p, rfl⟩ <;> rcases hu with ⟨rfl, rfl⟩ | ⟨rfl, q, rfl⟩ <;> first | (cases hab; done) | simp [Op.equalIn, run_underlying hd]
    · obtain ⟨el, rfl⟩ : ∃ e, de = .slice e := by rcases hs with h | h | h | h | h | h | h | h | h <;> first | exact h.2 | (obtain ⟨h, _⟩ := h; cases h)
      rcases hu with ⟨h, _⟩ | ⟨_, hu⟩ | ⟨h, _⟩ | ⟨h, _⟩ <;> first | cases h | skip
      rcases hv with ⟨rfl, rfl⟩ | ⟨rfl, p, _, _, rfl⟩ <;> rcases hu with ⟨rfl, rfl⟩ | ⟨rfl, q, _, _, rfl⟩ <;> first | (cases hab; done) | simp [Op.equalIn, run_underlying hd]
    · obtain ⟨el, rfl⟩ : ∃ e, de = .interface e := by rcases hs with h | h | h | h | h | h | h | h | h <;> first | exact h.2 | (obtain ⟨h, _⟩ := h; cases h)
      rcases hu with ⟨h, _⟩ | ⟨h, _⟩ | ⟨_, hu⟩ | ⟨h, _⟩ <;> first | cases h | skip
      rcases hv with ⟨rfl, rfl⟩ | ⟨rfl, p, _, rfl⟩ <;> rcases hu with ⟨rfl, rfl⟩ | ⟨rfl, q, _, rfl⟩ <;> first | (cases hab; done) | simp [Op.equalIn, run_underlying hd]
    · obtain ⟨p1, p2, p3, rfl⟩ : ∃ a b c, de = .func a b c := by rcases hs with h | h | h | h | h | h | h | h | h <;> first | exact h.2 | (obtain ⟨h, _⟩ := h; cases h)
      rcases hu with ⟨h, _⟩ | ⟨h, _⟩ | ⟨h, _⟩ | ⟨_, hu⟩ <;> first | cases h | skip
      rcases hv with ⟨rfl, rfl⟩ | ⟨rfl, p, _, _, rfl⟩ <;> rcases hu with ⟨rfl, rfl⟩ | ⟨rfl, q, _, _, rfl⟩ <;> first | (cases hab; done) | simp [Op.equalIn, run_underlying hd]
  have e : binOp .eql t v u = (do pure (.bool (← Op.equal t v u))) ∧ binOp .neq t v u = (do pure (.bool (!(← Op.equal t v u)))) := by
    rcases hv with ⟨_, ⟨_, rfl⟩ | ⟨_, p, rfl⟩⟩ | ⟨_, ⟨_, rfl⟩ | ⟨_, p, _, _, rfl⟩⟩ | ⟨_, ⟨_, rfl⟩ | ⟨_, p, _, rfl⟩⟩ | ⟨_, ⟨_, rfl⟩ | ⟨_, p, _, _, rfl⟩⟩ <;> exact ⟨rfl, rfl⟩
  rw [e.1, e.2]
  simp only [Op.equal, Op.maxDepth, Sem.run_bind]
  rw [key 9999]
  exact ⟨rfl, rfl⟩
theorem eqn_ok {n : Nat} {neg : Bool} {op : BinOp} {t t' : TypeId} {de : TypeDesc} {x y : Operand} {c d : COpd} (ho : o.op = .binOp op t x y t') (hop : op = if neg then .neq else .eql) (hd : P.underlying t = some de) (hs : DescShape de n)
    (hc : (∃ v, x = .const v) ∨ ∃ v, y = .const v) (hx : OpdOk E x c) (hy : OpdOk E y d) : PureOk P E F o (.eqn n neg c d) := fun fr k h => by
  obtain ⟨a, b, h1, h2⟩ := opd2_some hx hy (k := fun a b => eqNil n a b fun r => negK neg r k) h
  obtain ⟨p, h3, h4⟩ := nilB_some (E := E) h1
  obtain ⟨q, h5, h6⟩ := nilB_some (E := E) h3
  have h7 : (p || q) = true ∧ negK neg (p && q) k = true := by cases p <;> cases q <;> first | (cases h5; done) | exact ⟨rfl, h5⟩
  obtain ⟨hpq, h8⟩ := h7
  rw [negK_eq] at h8
  refine ⟨_, h8, fun ρ e he hh => ?_⟩
  rw [ho] at hh
  obtain ⟨ha, hb⟩ := h2 ρ e he (hh.sub (by simp [Op.operands]))
  have hv := h4 ρ _ ha
  have hu := h6 ρ _ hb
  refine ⟨.bool (if neg then !(p && q) else (p && q)), by simp only [VR], fun w => run_eq ho (fun w => ?_) hop (nil_run hv hu hpq hd hs w).1 (nil_run hv hu hpq hd hs w).2⟩
  generalize e x = v at hv
  generalize e y = u at hu
  have hm : (match x with | .const _ => true | _ => false) = true ∨ (match y with | .const _ => true | _ => false) = true := by
    rcases hc with ⟨v, rfl⟩ | ⟨v, rfl⟩
    · exact .inl rfl
    · exact .inr rfl
  rcases hv with ⟨rfl, ⟨_, rfl⟩ | ⟨_, p, rfl⟩⟩ | ⟨rfl, ⟨_, rfl⟩ | ⟨_, p, _, _, rfl⟩⟩ | ⟨rfl, ⟨_, rfl⟩ | ⟨_, p, _, rfl⟩⟩ | ⟨rfl, ⟨_, rfl⟩ | ⟨_, p, _, _, rfl⟩⟩ <;>
    rcases hu with ⟨h, ⟨_, rfl⟩ | ⟨_, q, rfl⟩⟩ | ⟨h, ⟨_, rfl⟩ | ⟨_, q, _, _, rfl⟩⟩ | ⟨h, ⟨_, rfl⟩ | ⟨_, q, _, rfl⟩⟩ | ⟨h, ⟨_, rfl⟩ | ⟨_, q, _, _, rfl⟩⟩ <;> first | (cases h; done) | (cases op <;> simp [eqGuard]; done) | skip
  all_goals (rcases hc with ⟨v, rfl⟩ | ⟨v, rfl⟩ <;> cases op <;> simp [eqGuard])

/-! structs -/
theorem looseEq_some (hF : F.Of E) {n : Nat} {x y : AV} {k : Bool} (h : looseEq F n x y k = true) : k = true ∧ ∀ ρ v u, VR E ρ x v → VR E ρ y u → ∃ r, PrimIs n v u r := by
  unfold looseEq at h
  rw [ifK_eq] at h
  split at h
  · have hn : n = 2 := Nat.eq_of_beq_eq_true (by assumption)
    subst hn
    replace h := str2K_some h
    obtain ⟨s, t, rfl, rfl, h⟩ := h
    refine ⟨h, fun ρ v u hv hu => ?_⟩
    simp only [VR] at hv hu
    exact ⟨_, .inr (.inr ⟨rfl, _, _, hv, hu, rfl⟩)⟩
  · obtain ⟨r, h, hp⟩ := eqPrim_some hF h
    exact ⟨h, fun ρ v u hv hu => ⟨r, hp ρ v u hv hu⟩⟩
theorem allEq_some (hF : F.Of E) {xs ys : List AV} {c : Bool → Bool} : ∀ {l : List (Nat × Nat)} {r : Bool}, allEq F xs ys c l r = true →
    ∃ q, c q = true ∧ ∀ ρ vs us, VRs E ρ xs vs → VRs E ρ ys us → ∃ s, AllIs l (fun j => vs[j]?) (fun j => us[j]?) s ∧ q = (s && r)
  | [], r, h => ⟨r, h, fun _ _ _ _ _ => ⟨true, rfl, (Bool.true_and r).symm⟩⟩
  | p :: l, false, h => by
    replace h := nthK_some (k := fun a => nthK ys p.1 fun b => looseEq F p.2 a b (allEq F xs ys c l false)) h
    obtain ⟨a, ha, h⟩ := h
    replace h := nthK_some h
    obtain ⟨b, hb, h⟩ := h
    obtain ⟨h, hp⟩ := looseEq_some hF h
    obtain ⟨q, h, hs⟩ := allEq_some hF h
    refine ⟨q, h, fun ρ vs us hv hu => ?_⟩
    obtain ⟨v, hv1, hv2⟩ := hv.get ha
    obtain ⟨u, hu1, hu2⟩ := hu.get hb
    obtain ⟨r1, h1⟩ := hp ρ v u hv2 hu2
    obtain ⟨s, h2, h3⟩ := hs ρ vs us hv hu
    exact ⟨r1 && s, ⟨v, u, r1, s, hv1, hu1, h1, h2, rfl⟩, by rw [h3, Bool.and_false, Bool.and_false]⟩
  | p :: l, true, h => by
    replace h := nthK_some (k := fun a => nthK ys p.1 fun b => eqPrim F p.2 a b fun q => allEq F xs ys c l q) h
    obtain ⟨a, ha, h⟩ := h
    replace h := nthK_some h
    obtain ⟨b, hb, h⟩ := h
    obtain ⟨q, h, hp⟩ := eqPrim_some hF h
    obtain ⟨z, h, hs⟩ := allEq_some hF h
    refine ⟨z, h, fun ρ vs us hv hu => ?_⟩
    obtain ⟨v, hv1, hv2⟩ := hv.get ha
    obtain ⟨u, hu1, hu2⟩ := hu.get hb
    obtain ⟨s, h2, h3⟩ := hs ρ vs us hv hu
    exact ⟨q && s, ⟨v, u, q, s, hv1, hu1, hp ρ v u hv2 hu2, h2, rfl⟩, by rw [h3]; cases q <;> cases s <;> rfl⟩
theorem eqs_ok {n : Nat} {l : List (Nat × Nat)} {neg : Bool} {op : BinOp} {t t' : TypeId} {x y : Operand} {c d : COpd} (hF : F.Of E) (ho : o.op = .binOp op t x y t') (hop : op = if neg then .neq else .eql) (hn : n ≤ 9999) (hr : EqRun P n t l)
    (hg : P.eqGuardType P.depth t = false) (hx : OpdOk E x c) (hy : OpdOk E y d) : PureOk P E F o (.eqs l neg c d) := fun fr k h => by
  obtain ⟨a, b, h1, h2⟩ := opd2_some hx hy (k := fun a b => aggK a fun xs => aggK b fun ys => allEq F xs ys (fun r => forceB r fun r => negK neg r k) l true) h
  replace h1 := aggK_some h1
  obtain ⟨xs, rfl, h1⟩ := h1
  replace h1 := aggK_some h1
  obtain ⟨ys, rfl, h1⟩ := h1
  obtain ⟨q, h3, h4⟩ := allEq_some hF h1
  rw [forceB_eq, negK_eq] at h3
  refine ⟨_, h3, fun ρ e he hh => ?_⟩
  rw [ho] at hh
  obtain ⟨ha, hb⟩ := h2 ρ e he (hh.sub (by simp [Op.operands]))
  simp only [VR] at ha hb
  obtain ⟨vs, hv, ha⟩ := ha
  obtain ⟨us, hu, hb⟩ := hb
  obtain ⟨s, h4, h5⟩ := h4 ρ vs us hv hu
  rw [Bool.and_true] at h5; subst h5
  have key := fun w => hr 9999 hn vs.toArray us.toArray q w (by simpa using h4)
  refine ⟨.bool (if neg then !q else q), by simp only [VR], fun w => run_eq ho (fun w => ?_) hop ?_ ?_⟩
  · rw [ha, hb]; exact run_eqGuard_agg w op t x y _ _ hg
  · rw [ha, hb, run_eql_struct, key]; rfl
  · rw [ha, hb, run_neq_struct, key]; rfl
end
end Go.Proofs.YtdnahdcjnahfkaaGreatDoor.Ev
set_option linter.unusedVariables false
set_option linter.unusedSimpArgs false
namespace Go.Proofs.YtdnahdcjnahfkaaGreatDoor.Ev
open Go

section
variable {P : Program} {E : Env} {F : Facts} {o : Oper}

theorem not_ok {t : TypeId} {x : Operand} {c : COpd} (ho : o.op = .unOp .not t x) (hx : OpdOk E x c) : PureOk P E F o (.not c) := fun fr k h => by
  obtain ⟨a, h1, h2⟩ := hx fr (fun v => boolK v fun b => @Bool.rec (fun _ => Bool) (k (.bool true)) (k (.bool false)) b) h
  replace h1 := boolK_some h1
  obtain ⟨b, rfl, h1⟩ := h1
  refine ⟨.bool (!b), by cases b <;> exact h1, fun ρ e he hh => ⟨.bool (!b), by simp only [VR], fun w => ?_⟩⟩
  rw [ho] at hh
  have hv := h2 ρ e he hh
  simp only [VR] at hv
  simp [execOp, ho, hv, Op.unary]
theorem neg_ok {t : TypeId} {x : Operand} {c : COpd} (ho : o.op = .unOp .neg t x) (hx : OpdOk E x c) : PureOk P E F o (.neg c) := fun fr k h => by
  obtain ⟨a, h1, h2⟩ := hx fr (fun v => intK v fun q n => wrapK q (Int.sub 0 n) fun r => k (.int q r)) h
  replace h1 := intK_some h1
  obtain ⟨q, n, rfl, h1⟩ := h1
  rw [wrapK_eq] at h1
  refine ⟨_, h1, fun ρ e he hh => ⟨.int q (q.wrap (Int.sub 0 n)), by simp only [VR], fun w => ?_⟩⟩
  rw [ho] at hh
  have hv := h2 ρ e he hh
  simp only [VR] at hv
  simp only [execOp, ho, hv, Op.unary, Op.intArith]
  rfl
theorem wideN_some {k : IntKind} {y : Bool} (h : wideN k y = true) : y = true ∧ ∀ n : Nat, n ≤ 255 → k.wrap (n : Int) = n := by
  cases k with
  | i8 => cases h
  | _ => refine ⟨h, fun n hn => wrap_lim _ (by simp [limN]; omega)⟩
theorem conv_ok {src dst : TypeId} {ds : TypeDesc} {q : IntKind} {x : Operand} {c : COpd} (ho : o.op = .convert src dst x) (hs : P.underlying src = some ds) (hd : P.underlying dst = some (.int q)) (hx : OpdOk E x c) : PureOk P E F o (.conv q c) := fun fr k h => by
  obtain ⟨a, h1, h2⟩ := hx fr (fun v => numK v (fun _ n => wrapK q n fun r => k (.int q r)) (fun _ i => wideN q (k (.sym q i))) (fun _ i => wideN q (k (.opq q i)))) h
  have run : ∀ (e : Operand → Value) (p : IntKind) (n m : Int), e x = .int p n → q.wrap n = m → ∀ w, (execOp e o).run P w = .ok (.value (.int q m)) w := fun e p n m hv hm w => by
    subst hm
    simp [execOp, ho, hv, convert, run_underlying hs, run_underlying hd, Conv.intToInt]
  replace h1 := numK_some h1
  rcases h1 with ⟨p, n, rfl, h1⟩ | ⟨p, i, rfl, h1⟩ | ⟨p, i, rfl, h1⟩
  · rw [wrapK_eq] at h1
    refine ⟨_, h1, fun ρ e he hh => ⟨.int q (q.wrap n), by simp only [VR], fun w => ?_⟩⟩
    rw [ho] at hh
    have hv := h2 ρ e he hh
    simp only [VR] at hv
    exact run e p n _ hv rfl w
  · obtain ⟨h1, hw⟩ := wideN_some h1
    refine ⟨_, h1, fun ρ e he hh => ⟨.int q (E.letter i), by simp only [VR], fun w => ?_⟩⟩
    rw [ho] at hh
    have hv := h2 ρ e he hh
    simp only [VR] at hv
    exact run e p _ _ hv (hw _ (by have := E.hi i; omega)) w
  · obtain ⟨h1, hw⟩ := wideN_some h1
    refine ⟨_, h1, fun ρ e he hh => ⟨.int q (E.arg i), by simp only [VR], fun w => ?_⟩⟩
    rw [ho] at hh
    have hv := h2 ρ e he hh
    simp only [VR] at hv
    exact run e p _ _ hv (hw _ (E.arghi i)) w
theorem mkif_ok {t n : TypeId} {d : TypeDesc} {x : Operand} {c : COpd} (ho : o.op = .makeInterface t x) (hd : P.underlying t = some d) (hs : DescShape d n) (h5 : n ≠ 5) (hx : OpdOk E x c) : PureOk P E F o (.mkif t c) := fun fr k h => by
  obtain ⟨a, h1, h2⟩ := hx fr (fun v => k (.ifc t v)) h
  refine ⟨_, h1, fun ρ e he hh => ⟨.iface t (e x), ?_, fun w => ?_⟩⟩
  · rw [ho] at hh; simp only [VR]; exact ⟨_, h2 ρ e he hh, rfl⟩
  · rcases hs with ⟨_, rfl⟩ | ⟨_, _, rfl⟩ | ⟨_, _, _, rfl⟩ | ⟨_, _, rfl⟩ | ⟨_, _, rfl⟩ | ⟨h, _⟩ | ⟨_, _, _, _, rfl⟩ | ⟨_, _, rfl⟩ | ⟨_, rfl⟩ <;> first | exact absurd h h5 | simp [execOp, ho, Instr.makeInterface, run_underlying hd]
theorem mkfn_ok {f : Fn} {a b : Array Operand} {ca cb : List COpd} (ho : o.op = .makeFunc f a b) (ha : OpdsOk E a.toList ca) (hb : OpdsOk E b.toList cb) : PureOk P E F o (.mkfn f ca cb) := fun fr k h => by
  obtain ⟨as, h1, h2⟩ := ha fr (fun as => opdsK fr cb fun bs => k (.fn f as bs)) h
  obtain ⟨bs, h3, h4⟩ := hb fr _ h1
  refine ⟨_, h3, fun ρ e he hh => ⟨.func f (a.map e) (b.map e), ?_, fun w => ?_⟩⟩
  · rw [ho] at hh
    simp only [VR]
    refine ⟨_, _, h2 ρ e he (hh.sub fun x hx => ?_), h4 ρ e he (hh.sub fun x hx => ?_), ?_⟩
    · simp only [Op.operands, Array.toList_append]; exact List.mem_append_left _ hx
    · simp only [Op.operands, Array.toList_append]; exact List.mem_append_right _ hx
    · congr 1 <;> (apply Array.ext'; simp)
  · simp [execOp, ho, Instr.makeFunc]

/-! ### Bounds -/
theorem natK_some {x : AV} {k : Nat → Bool} (h : natK x k = true) : ∃ m, k m = true ∧ ∀ ρ v, VR E ρ x v → ∃ q, v = .int q (m : Int) := by
  replace h := intK_some h
  obtain ⟨q, n, rfl, h⟩ := h
  cases n with
  | negSucc n => cases h
  | ofNat m =>
    change forceN m k = true at h
    rw [forceN_eq] at h
    exact ⟨m, h, fun ρ v hv => by simp only [VR] at hv; exact ⟨q, hv⟩⟩
def BndIs (E : Env) (ρ : Nat → Option Loc) (e : Operand → Value) (x : Option Operand) (d n : Nat) : Prop := (x.map e = none ∧ n = d) ∨ ∃ q, x.map e = some (.int q (n : Int))
theorem bndK_some {x : Option Operand} {c : Option COpd} (hx : OptOk E x c) {fr : T AV} {d : Nat} {k : Nat → Bool} (h : bndK fr c d k = true) : ∃ n, k n = true ∧ ∀ ρ e, Ev e → Holds E ρ fr e x.toList → BndIs E ρ e x d n := by
  rcases hx with ⟨rfl, rfl⟩ | ⟨y, c, rfl, rfl, hy⟩
  · exact ⟨d, h, fun ρ e _ _ => .inl ⟨rfl, rfl⟩⟩
  · obtain ⟨a, h1, h2⟩ := hy fr (fun v => natK v k) h
    obtain ⟨m, h3, h4⟩ := natK_some (E := E) h1
    refine ⟨m, h3, fun ρ e he hh => .inr ?_⟩
    obtain ⟨q, hq⟩ := h4 ρ _ (h2 ρ e he hh)
    exact ⟨q, by simp [hq]⟩

theorem slcs_ok {t : TypeId} {x : Operand} {lo hi : Option Operand} {c : COpd} {cl ch : Option COpd} (ho : o.op = .slice t x lo hi none) (ht : P.underlying t = some .string) (hx : OpdOk E x c) (hl : OptOk E lo cl) (hh : OptOk E hi ch) : PureOk P E F o (.slcs c cl ch) := fun fr k h => by
  obtain ⟨a, h1, h2⟩ := hx fr (fun v => strK v fun s => lenK s 0 fun n => bndK fr cl 0 fun l => bndK fr ch n fun h => ifK (Nat.ble l h) (ifK (Nat.ble h n) (dropK l s fun r => takeK (Nat.sub h l) r fun r => k (.str r)) false) false) h
  replace h1 := strK_some h1
  obtain ⟨s, rfl, h1⟩ := h1
  rw [lenK_eq] at h1
  obtain ⟨l, h3, h4⟩ := bndK_some hl h1
  obtain ⟨m, h5, h6⟩ := bndK_some hh h3
  obtain ⟨b1, h7⟩ := ifK_and h5
  obtain ⟨b2, h7⟩ := ifK_and h7
  have b1 := ble_of b1
  have b2 := ble_of b2
  simp only [Nat.zero_add] at b2
  obtain ⟨d1, h7⟩ := dropK_some h7
  obtain ⟨d2, h7⟩ := takeK_some h7
  refine ⟨_, h7, fun ρ e he hd => ⟨.string (E.bytes ((s.drop l).take (m - l))), by simp only [VR]; rfl, fun w => ?_⟩⟩
  rw [ho] at hd
  have hv := h2 ρ e he (hd.sub (by simp [Op.operands]))
  have hbl := h4 ρ e he (hd.sub (by simp [Op.operands]; intro y hy; simp [hy]))
  have hbh := h6 ρ e he (hd.sub (by simp [Op.operands]; intro y hy; simp [hy]))
  simp only [VR] at hv
  have hsz : (E.bytes s).size = s.length := bytes_size s
  have e1 : (0 : Int) ≤ (l : Int) := Int.natCast_nonneg _
  have e2 : (0 : Int) ≤ (m : Int) := Int.natCast_nonneg _
  have hb : (Instr.sliceBounds false (E.bytes s).size (E.bytes s).size (lo.map e) (hi.map e) none).run P w = .ok (l, m, (E.bytes s).size) w := by
    rw [hsz]
    rcases hbh with ⟨hbh, rfl⟩ | ⟨q2, hbh⟩
    · rcases hbl with ⟨hbl, rfl⟩ | ⟨q1, hbl⟩
      · rw [hbl, hbh]; simp [Instr.sliceBounds]
      · rw [hbl, hbh]; simp only [Nat.zero_add] at b1; simp [Instr.sliceBounds, run_sliceBound, b1]
    · rcases hbl with ⟨hbl, rfl⟩ | ⟨q1, hbl⟩
      · rw [hbl, hbh]; simp [Instr.sliceBounds, run_sliceBound, b2]
      · rw [hbl, hbh]; simp [Instr.sliceBounds, run_sliceBound, b1, b2]
  have hx' : (E.bytes s).extract l m = E.bytes ((s.drop l).take (m - l)) := by
    unfold Env.bytes
    rw [ByteArray.extract_mk, List.map_take, List.map_drop]
  simp [execOp, ho, Instr.sliceAt, Instr.slice, run_underlying ht, hv, hb, hx']

/-- 'x[lo:hi:max]' of a slice. -/
theorem run_slc {t et : TypeId} {sz : Nat} {a : Option Addr} {m c lo hi mx : Nat} {lv hv mv : Option Value} {w : World} (ht : P.underlying t = some (.slice et)) (hs : (sizeOf et).run P w = .ok sz w)
    (hl : (lv = none ∧ lo = 0) ∨ ∃ k, lv = some (.int k (lo : Int))) (hh : (hv = none ∧ hi = m ∧ mv = none) ∨ ∃ k, hv = some (.int k (hi : Int))) (hmx : (mv = none ∧ mx = c) ∨ ∃ k, mv = some (.int k (mx : Int)))
    (h1 : lo ≤ hi) (h2 : hi ≤ mx) (h3 : mx ≤ c) :
    (Instr.sliceAt t (.slice a m c) lv hv mv).run P w = .ok (.slice (if mx = lo then a else a.map (·.add (lo * sz))) (hi - lo) (mx - lo)) w := by
  have e1 : (0 : Int) ≤ (lo : Int) := Int.natCast_nonneg _
  have e2 : (0 : Int) ≤ (hi : Int) := Int.natCast_nonneg _
  have e3 : (0 : Int) ≤ (mx : Int) := Int.natCast_nonneg _
  have hb : (Instr.sliceBounds true m c lv hv mv).run P w = .ok (lo, hi, mx) w := by
    rcases hmx with ⟨rfl, rfl⟩ | ⟨k3, rfl⟩
    · rcases hh with ⟨rfl, rfl, _⟩ | ⟨k2, rfl⟩
      · rcases hl with ⟨rfl, rfl⟩ | ⟨k1, rfl⟩
        · simp [Instr.sliceBounds]
        · simp [Instr.sliceBounds, run_sliceBound, h1]
      · rcases hl with ⟨rfl, rfl⟩ | ⟨k1, rfl⟩
        · simp [Instr.sliceBounds, run_sliceBound, h2]
        · simp [Instr.sliceBounds, run_sliceBound, h1, h2]
    · rcases hh with ⟨_, _, h⟩ | ⟨k2, rfl⟩
      · cases h
      · rcases hl with ⟨rfl, rfl⟩ | ⟨k1, rfl⟩
        · simp [Instr.sliceBounds, run_sliceBound, h2, h3]
        · simp [Instr.sliceBounds, run_sliceBound, h1, h2, h3]
  simp [Instr.sliceAt, Instr.slice, run_underlying ht, hb, hs]
theorem add_lit (b p n : Nat) : (⟨b, p, none⟩ : Addr).add n = ⟨b, p + n, none⟩ := by unfold Addr.add; split <;> simp_all

theorem slc_ok {t et : TypeId} {it : TypeInfo} {x : Operand} {lo hi mx : Option Operand} {c : COpd} {cl ch cm : Option COpd} (ho : o.op = .slice t x lo hi mx) (ht : P.underlying t = some (.slice et)) (hi' : P.info? et = some it)
    (hmh : mx.isSome = true → hi.isSome = true) (hx : OpdOk E x c) (hl : OptOk E lo cl) (hh : OptOk E hi ch) (hm : OptOk E mx cm) : PureOk P E F o (.slc it.size c cl ch cm) := fun fr k h => by
  replace h := hx fr _ h
  obtain ⟨a, h, h2⟩ := h
  replace h := slK_some h
  have hs : ∀ w, (sizeOf et).run P w = .ok it.size w := run_sizeOf hi'
  rcases h with ⟨i, p, n, cc, ex, es', rfl, h⟩ | ⟨rfl, h⟩ | ⟨_, h⟩
  · replace h := ifK_and h
    obtain ⟨hes, h⟩ := h
    have := beq_of hes; subst this
    replace h := bndK_some hl h
    obtain ⟨l, h, h4⟩ := h
    replace h := bndK_some hh h
    obtain ⟨m, h, h6⟩ := h
    -- what the bounds are, with a greatest one or without
    have fin : ∀ (M : Nat) (x' : Bool), slcIn it.size i p n M l m k x' = true → (∀ ρ e, Ev e → Holds E ρ fr e o.op.operands.toList → ∀ L cap, ρ i = some L → e x = .slice (some ⟨L.b, L.o + p, none⟩) n cap → cc ≤ cap → (ex = true → cap = cc) → L.o + p + cap * it.size ≤ L.sz → (ex = false → L.o + p + cap * it.size = L.sz) →
        ∃ M', M ≤ M' ∧ M' ≤ cap ∧ (x' = true → M' = M) ∧ (x' = false → M' * it.size = cap * it.size ∧ L.o + p + cap * it.size = L.sz) ∧ ((mx.map e = none ∧ M' = cap) ∨ ∃ q, mx.map e = some (.int q (M' : Int)))) → ∃ r, k r = true ∧ PureT P E o fr r := by
      intro M x' h hM
      unfold slcIn at h
      replace h := ifK_and h
      obtain ⟨b1, h⟩ := h
      replace h := ifK_and h
      obtain ⟨b2, h⟩ := h
      have b1 := ble_of b1
      have b2 := ble_of b2
      have go : ∀ ρ e, Ev e → Holds E ρ fr e o.op.operands.toList → ∃ L cap M', ρ i = some L ∧ M ≤ M' ∧ (x' = true → M' = M) ∧ L.o + p + M' * it.size ≤ L.sz ∧ ((it.size ≠ 1 → L.pl = 1) ∧ M' ≤ maxLen ∧ (x' = false → L.o + p + M' * it.size = L.sz)) ∧
          ∀ w, (execOp e o).run P w = .ok (.value (.slice (if M' = l then some ⟨L.b, L.o + p, none⟩ else some ⟨L.b, L.o + p + l * it.size, none⟩) (m - l) (M' - l))) w ∧ M' ≤ cap := by
        intro ρ e he hd
        have hd' := hd
        rw [ho] at hd'
        have hv := h2 ρ e he (hd'.sub (by simp [Op.operands]))
        have hbl := h4 ρ e he (hd'.sub (by simp [Op.operands]; intro y hy; simp [hy]))
        have hbh := h6 ρ e he (hd'.sub (by simp [Op.operands]; intro y hy; simp [hy]))
        simp only [VR] at hv
        obtain ⟨L, cap, hL, hv, v1, v2, v3, v4⟩ := hv
        obtain ⟨M', m1, m2, m3, m5, m4⟩ := hM ρ e he hd L cap hL hv v1 v2 v3 v4.2.2
        refine ⟨L, cap, M', hL, m1, m3, ?_, ⟨v4.1, Nat.le_trans m2 v4.2.1, fun hx => by have := m5 hx; omega⟩, fun w => ⟨?_, m2⟩⟩
        · have := Nat.mul_le_mul_right it.size m2; omega
        · have hh' : (hi.map e = none ∧ m = n ∧ mx.map e = none) ∨ ∃ k, hi.map e = some (.int k (m : Int)) := by
            rcases hbh with ⟨h1, h2⟩ | h1
            · refine .inl ⟨h1, h2, ?_⟩
              cases mx with
              | none => rfl
              | some y =>
                have := hmh rfl
                cases hi with
                | none => cases this
                | some z => simp at h1
            · exact .inr h1
          have := run_slc (P := P) (a := some ⟨L.b, L.o + p, none⟩) (w := w) ht (hs w) hbl hh' m4 b1 (by omega) m2
          simp only [Option.map_some, add_lit] at this
          simp [execOp, ho, hv, this]
      rw [ifK_eq] at h
      by_cases hlM : l = M
      · subst hlM
        simp only [Nat.beq_refl, if_true] at h
        cases x' with
        | false =>
          refine ⟨_, h, fun ρ e he hd => ?_⟩
          obtain ⟨L, cap, M', _, _, _, _, _, hr⟩ := go ρ e he hd
          refine ⟨_, ?_, fun w => (hr w).1⟩
          simp only [VR]
          exact ⟨_, _, by rw [show m - l = 0 from by omega]⟩
        | true =>
          change forceN (Nat.sub m l) (fun n' => k (.sl i p n' 0 true it.size)) = true at h
          rw [forceN_eq] at h
          refine ⟨_, h, fun ρ e he hd => ?_⟩
          obtain ⟨L, cap, M', hL, _, hx', hz, v4, hr⟩ := go ρ e he hd
          have := hx' rfl; subst this
          refine ⟨_, ?_, fun w => (hr w).1⟩
          simp only [VR]
          exact ⟨L, 0, hL, by simp only [Nat.sub_self, if_true, Nat.sub_eq], Nat.le_refl _, fun _ => rfl, by omega, v4.1, Nat.zero_le _, fun h => (by cases h)⟩
      · have hb : Nat.beq l M = false := by
          cases hb : Nat.beq l M with
          | false => rfl
          | true => exact absurd (beq_of hb) hlM
        rw [hb] at h
        simp only [Bool.false_eq_true, if_false] at h
        rw [forceN_eq, forceN_eq, forceN_eq] at h
        refine ⟨_, h, fun ρ e he hd => ?_⟩
        obtain ⟨L, cap, M', hL, m1, hx', hz, v4, hr⟩ := go ρ e he hd
        refine ⟨_, ?_, fun w => (hr w).1⟩
        simp only [VR]
        refine ⟨L, M' - l, hL, ?_, ?_, ?_, ?_, v4.1, Nat.le_trans (Nat.sub_le _ _) v4.2.1, fun hx => ?_⟩
        · rw [if_neg (by omega)]; simp only [Nat.add_eq, Nat.mul_eq, Nat.sub_eq, Nat.add_assoc]
        · simp only [Nat.sub_eq]; omega
        · intro hx; have := hx' hx; subst this; rfl
        · simp only [Nat.add_eq, Nat.mul_eq]
          have : M' * it.size = l * it.size + (M' - l) * it.size := by rw [← Nat.add_mul]; congr 1; omega
          omega
        · have h9 := v4.2.2 hx
          simp only [Nat.add_eq, Nat.mul_eq]
          have : M' * it.size = l * it.size + (M' - l) * it.size := by rw [← Nat.add_mul]; congr 1; omega
          omega
    rcases hm with ⟨rfl, rfl⟩ | ⟨ym, dm, rfl, rfl, hym⟩
    · exact fin cc ex h fun ρ e he hd L cap hL hv v1 v2 v3 v9 => ⟨cap, v1, Nat.le_refl _, v2, fun hx => ⟨rfl, v9 hx⟩, .inl ⟨rfl, rfl⟩⟩
    · replace h := hym fr _ h
      obtain ⟨am, h, h8⟩ := h
      replace h := natK_some (E := E) h
      obtain ⟨M, h, h9⟩ := h
      replace h := ifK_and h
      obtain ⟨b3, h⟩ := h
      have b3 := ble_of b3
      refine fin M true h fun ρ e he hd L cap hL hv v1 v2 v3 _ => ⟨M, Nat.le_refl _, by omega, fun _ => rfl, fun hx => (by cases hx), .inr ?_⟩
      rw [ho] at hd
      obtain ⟨q, hq⟩ := h9 ρ _ (h8 ρ e he (hd.sub (by simp [Op.operands])))
      exact ⟨q, by simp [hq]⟩
  · replace h := bndK_some hl h
    obtain ⟨l, h, h4⟩ := h
    replace h := bndK_some hh h
    obtain ⟨m, h, h6⟩ := h
    replace h := bndK_some hm h
    obtain ⟨M, h, h8⟩ := h
    replace h := ifK_and h
    obtain ⟨b1, h⟩ := h
    replace h := ifK_and h
    obtain ⟨b2, h⟩ := h
    replace h := ifK_and h
    obtain ⟨b3, h⟩ := h
    have := beq_of b1; subst this
    have := beq_of b2; subst this
    have := beq_of b3; subst this
    refine ⟨_, h, fun ρ e he hd => ⟨.slice none 0 0, by simp only [VR], fun w => ?_⟩⟩
    rw [ho] at hd
    have hv := h2 ρ e he (hd.sub (by simp [Op.operands]))
    have hbl := h4 ρ e he (hd.sub (by simp [Op.operands]; intro y hy; simp [hy]))
    have hbh := h6 ρ e he (hd.sub (by simp [Op.operands]; intro y hy; simp [hy]))
    have hbm := h8 ρ e he (hd.sub (by simp [Op.operands]; intro y hy; simp [hy]))
    simp only [VR] at hv
    have hh' : (hi.map e = none ∧ 0 = 0 ∧ mx.map e = none) ∨ ∃ k, hi.map e = some (.int k ((0 : Nat) : Int)) := by
      rcases hbh with ⟨h1, _⟩ | h1
      · refine .inl ⟨h1, rfl, ?_⟩
        cases mx with
        | none => rfl
        | some y =>
          have := hmh rfl
          cases hi with
          | none => cases this
          | some z => simp at h1
      · exact .inr h1
    have := run_slc (P := P) (a := none) (m := 0) (c := 0) (w := w) ht (hs w) hbl hh' hbm (Nat.le_refl _) (Nat.le_refl _) (Nat.le_refl _)
    simp [execOp, ho, hv, this]
  · cases h
end
end Go.Proofs.YtdnahdcjnahfkaaGreatDoor.Ev
namespace Go.Proofs.YtdnahdcjnahfkaaGreatDoor.Ev
open Go

section
variable {P : Program} {E : Env} {F : Facts} {o : Oper}

theorem faddr_ok {s j : Nat} {fs : Array Field} {f : Field} {it : TypeInfo} {x : Operand} {c : COpd} (ho : o.op = .fieldAddr s x j) (hs : P.underlying s = some (.struct fs)) (hf : fs[j]? = some f) (hi : P.info? f.type = some it) (hz : it.size ≠ 0) (hx : OpdOk E x c) :
    PureOk P E F o (.faddr f.offset c) := fun fr k h => by
  obtain ⟨a, h1, h2⟩ := hx fr (fun v => ptrK v fun i p => forceN (Nat.add p f.offset) fun p => k (.ptr i p)) h
  replace h1 := ptrK_some h1
  obtain ⟨i, p, rfl, h1⟩ := h1
  rw [forceN_eq] at h1
  refine ⟨_, h1, fun ρ e he hh => ?_⟩
  rw [ho] at hh
  have hv := h2 ρ e he hh
  simp only [VR] at hv
  obtain ⟨L, hL, hv⟩ := hv
  refine ⟨.pointer (some ⟨L.b, L.o + p + f.offset, none⟩), ?_, fun w => ?_⟩
  · simp only [VR]; exact ⟨L, hL, by simp only [Nat.add_eq, Nat.add_assoc]⟩
  · simp [execOp, ho, Instr.fieldAt, run_underlying hs, hf, Instr.sureAddr, hv, fieldPlace, run_sizeOf hi, hz, add_lit]
theorem fld1_ok {s j : Nat} {fs : Array Field} {f : Field} {x : Operand} {c : COpd} (ho : o.op = .field s x j) (hs : P.underlying s = some (.struct fs)) (hf : fs[j]? = some f) (hg : ∀ w, (isAgg f.type).run P w = .ok false w) (n : Nat) (hx : OpdOk E x c) :
    PureOk P E F o (.fld f.offset n false c) := fun fr k h => by
  obtain ⟨a, h1, h2⟩ := hx fr (fun v => aggK v fun l => @Bool.rec (fun _ => Bool) (nthK l f.offset k) (dropK f.offset l fun r => takeK n r fun r => k (.agg r)) false) h
  replace h1 := aggK_some h1
  obtain ⟨l, rfl, h1⟩ := h1
  replace h1 := nthK_some (l := l) (i := f.offset) (k := k) h1
  obtain ⟨y, hy, h1⟩ := h1
  refine ⟨_, h1, fun ρ e he hh => ?_⟩
  rw [ho] at hh
  have hv := h2 ρ e he hh
  simp only [VR] at hv
  obtain ⟨vs, hvs, hv⟩ := hv
  obtain ⟨u, hu1, hu2⟩ := hvs.get hy
  refine ⟨u, hu2, fun w => ?_⟩
  have := run_part1 (P := P) (xs := vs.toArray) (o := f.offset) hg (by simpa using hu1) w
  simp [execOp, ho, Instr.field, run_underlying hs, hf, hv, asAgg, this]
theorem fldn_ok {s j : Nat} {fs : Array Field} {f : Field} {it : TypeInfo} {x : Operand} {c : COpd} (ho : o.op = .field s x j) (hs : P.underlying s = some (.struct fs)) (hf : fs[j]? = some f) (hg : ∀ w, (isAgg f.type).run P w = .ok true w) (hi : P.info? f.type = some it) (hx : OpdOk E x c) :
    PureOk P E F o (.fld f.offset it.size true c) := fun fr k h => by
  obtain ⟨a, h1, h2⟩ := hx fr (fun v => aggK v fun l => @Bool.rec (fun _ => Bool) (nthK l f.offset k) (dropK f.offset l fun r => takeK it.size r fun r => k (.agg r)) true) h
  replace h1 := aggK_some h1
  obtain ⟨l, rfl, h1⟩ := h1
  obtain ⟨d1, h1⟩ := dropK_some (n := f.offset) (l := l) (k := fun r => takeK it.size r fun r => k (.agg r)) h1
  obtain ⟨d2, h1⟩ := takeK_some h1
  refine ⟨_, h1, fun ρ e he hh => ?_⟩
  rw [ho] at hh
  have hv := h2 ρ e he hh
  simp only [VR] at hv
  obtain ⟨vs, hvs, hv⟩ := hv
  refine ⟨.agg (vs.toArray.extract f.offset (f.offset + it.size)), ?_, fun w => ?_⟩
  · simp only [VR]
    refine ⟨_, (hvs.drop f.offset).take it.size, ?_⟩
    congr 1
    apply Array.ext'
    simp
  · have := run_partN (P := P) (xs := vs.toArray) (o := f.offset) hg hi w
    simp [execOp, ho, Instr.field, run_underlying hs, hf, hv, asAgg, this]
theorem iaddr_ok {t et : Nat} {it : TypeInfo} {x j : Operand} {c d : COpd} (ho : o.op = .indexAddr t x j) (ht : P.underlying t = some (.slice et)) (hi : P.info? et = some it) (hx : OpdOk E x c) (hj : OpdOk E j d) : PureOk P E F o (.iaddr it.size c d) := fun fr k h => by
  obtain ⟨a, b, h1, h2⟩ := opd2_some hx hj (k := fun v j => slK v (fun i o n _ _ es' => ifK (Nat.beq it.size es') (natK j fun j => ifK (Nat.blt j n) (forceN (Nat.add o (Nat.mul j it.size)) fun p => k (.ptr i p)) false) false) false false) h
  replace h1 := slK_some h1
  rcases h1 with ⟨i, p, n, cc, ex, es', rfl, h1⟩ | ⟨_, h1⟩ | ⟨_, h1⟩
  · replace h1 := ifK_and h1
    obtain ⟨hes, h1⟩ := h1
    obtain ⟨m, h3, h4⟩ := natK_some (E := E) h1
    obtain ⟨hlt, h3⟩ := ifK_and h3
    rw [forceN_eq] at h3
    have hlt := blt_of hlt
    refine ⟨_, h3, fun ρ e he hh => ?_⟩
    rw [ho] at hh
    obtain ⟨hv, hu⟩ := h2 ρ e he (hh.sub (by simp [Op.operands]))
    obtain ⟨q, hq⟩ := h4 ρ _ hu
    simp only [VR] at hv
    obtain ⟨L, cap, hL, hv, _⟩ := hv
    refine ⟨.pointer (some ⟨L.b, L.o + p + m * it.size, none⟩), ?_, fun w => ?_⟩
    · simp only [VR]; exact ⟨L, hL, by simp only [Nat.add_eq, Nat.mul_eq, Nat.add_assoc]⟩
    · have h0 : (0 : Int) ≤ (m : Int) := Int.natCast_nonneg _
      simp [execOp, ho, Instr.indexAt, asIntOf, hv, hq, run_underlying ht, hlt, run_sizeOf hi, add_lit]
  · cases h1
  · cases h1
theorem iaddra_ok {t n et : Nat} {it : TypeInfo} {x j : Operand} {c d : COpd} (ho : o.op = .indexAddr t x j) (ht : P.underlying t = some (.array n et)) (hi : P.info? et = some it) (hx : OpdOk E x c) (hj : OpdOk E j d) : PureOk P E F o (.iaddra n it.size c d) := fun fr k h => by
  obtain ⟨a, b, h1, h2⟩ := opd2_some hx hj (k := fun v j => ptrK v fun i o => natK j fun j => ifK (Nat.blt j n) (forceN (Nat.add o (Nat.mul j it.size)) fun p => k (.ptr i p)) false) h
  replace h1 := ptrK_some h1
  obtain ⟨i, p, rfl, h1⟩ := h1
  obtain ⟨m, h3, h4⟩ := natK_some (E := E) h1
  obtain ⟨hlt, h3⟩ := ifK_and h3
  rw [forceN_eq] at h3
  have hlt := blt_of hlt
  refine ⟨_, h3, fun ρ e he hh => ?_⟩
  rw [ho] at hh
  obtain ⟨hv, hu⟩ := h2 ρ e he (hh.sub (by simp [Op.operands]))
  obtain ⟨q, hq⟩ := h4 ρ _ hu
  simp only [VR] at hv
  obtain ⟨L, hL, hv⟩ := hv
  refine ⟨.pointer (some ⟨L.b, L.o + p + m * it.size, none⟩), ?_, fun w => ?_⟩
  · simp only [VR]; exact ⟨L, hL, by simp only [Nat.add_eq, Nat.mul_eq, Nat.add_assoc]⟩
  · have h0 : (0 : Int) ≤ (m : Int) := Int.natCast_nonneg _
    simp [execOp, ho, Instr.indexAt, asIntOf, Instr.sureAddr, hv, hq, run_underlying ht, hlt, run_sizeOf hi, add_lit]
theorem atomK_some {n : Nat} {k : AV → Bool} (h : atomK n k = true) : ∃ a, k a = true ∧ ∀ ρ, VR E ρ a (.int .u8 (E.byte n).toNat) := by
  unfold atomK at h
  rw [ifK_eq, bltN] at h
  rw [byte_num]
  by_cases hn : n < 256
  · simp only [hn, decide_true, if_true] at h
    exact ⟨_, h, fun ρ => by simp only [VR, Env.num, hn, if_true]; rfl⟩
  · simp only [hn, decide_false, Bool.false_eq_true, if_false] at h
    rw [forceN_eq] at h
    exact ⟨_, h, fun ρ => by simp only [VR, Env.num, hn, if_false]; rfl⟩
theorem idxs_ok {t : Nat} {x j : Operand} {c d : COpd} (ho : o.op = .index t x j) (ht : P.underlying t = some .string) (hx : OpdOk E x c) (hj : OpdOk E j d) : PureOk P E F o (.idxs c d) := fun fr k h => by
  obtain ⟨a, b, h1, h2⟩ := opd2_some hx hj (k := fun v j => strK v fun s => natK j fun j => nthK s j fun n => atomK n k) h
  replace h1 := strK_some h1
  obtain ⟨s, rfl, h1⟩ := h1
  obtain ⟨m, h3, h4⟩ := natK_some (E := E) h1
  obtain ⟨n, hn, h5⟩ := nthK_some h3
  obtain ⟨r, h6, h7⟩ := atomK_some (E := E) h5
  refine ⟨r, h6, fun ρ e he hh => ?_⟩
  rw [ho] at hh
  obtain ⟨hv, hu⟩ := h2 ρ e he (hh.sub (by simp [Op.operands]))
  obtain ⟨q, hq⟩ := h4 ρ _ hu
  simp only [VR] at hv
  refine ⟨_, h7 ρ, fun w => ?_⟩
  have hlt : m < s.length := (List.getElem?_eq_some_iff.1 hn).1
  have hi : (0 : Int) ≤ (m : Int) ∧ (m : Int) < (E.bytes s).size := ⟨Int.natCast_nonneg _, by rw [bytes_size]; omega⟩
  have := run_index_string (P := P) w t (E.bytes s) q (m : Int) ht
  rw [dif_pos hi] at this
  have hb : (E.bytes s)[(m : Int).toNat]'(by rw [bytes_size]; simpa using hlt) = E.byte n := by
    have : s[m] = n := by have := hn; rw [List.getElem?_eq_getElem hlt] at this; exact Option.some.inj this
    simp [Env.bytes, ByteArray.getElem_eq_getElem_data, this]
  rw [hb] at this
  simp [execOp, ho, hv, hq, this]
theorem ext_ok {x : Operand} {i : Nat} {c : COpd} (ho : o.op = .extract x i) (hx : OpdOk E x c) : PureOk P E F o (.ext i c) := fun fr k h => by
  obtain ⟨a, h1, h2⟩ := hx fr (fun v => tupK v fun l => nthK l i k) h
  replace h1 := tupK_some h1
  obtain ⟨l, rfl, h1⟩ := h1
  replace h1 := nthK_some h1
  obtain ⟨y, hy, h1⟩ := h1
  refine ⟨_, h1, fun ρ e he hh => ?_⟩
  rw [ho] at hh
  have hv := h2 ρ e he hh
  simp only [VR] at hv
  obtain ⟨vs, hvs, hv⟩ := hv
  obtain ⟨u, hu1, hu2⟩ := hvs.get hy
  exact ⟨u, hu2, fun w => by simp [execOp, ho, Instr.extract, hv, hu1]⟩
theorem tass_ok {x : Operand} {xt t : Nat} {ok : Bool} {d : TypeDesc} {n : Nat} {it : TypeInfo} {z : Value} {za : AV} {c : COpd} (ho : o.op = .typeAssert x xt t ok) (hd : P.underlying t = some d) (hs : DescShape d n) (h5 : n ≠ 5) (hi : P.info? t = some it) (hz : it.zero = some z)
    (hza : ∀ ρ, VR E ρ za z) (hx : OpdOk E x c) : PureOk P E F o (.tass t za ok c) := fun fr k h => by
  obtain ⟨a, h1, h2⟩ := hx fr (fun v => ifcK v (fun u y => ifK (Nat.beq u t) (@Bool.rec (fun _ => Bool) (k y) (k (.tup [y, .bool true])) ok) (@Bool.rec (fun _ => Bool) false (k (.tup [za, .bool false])) ok)) (@Bool.rec (fun _ => Bool) false (k (.tup [za, .bool false])) ok)) h
  have miss : @Bool.rec (fun _ => Bool) false (k (.tup [za, .bool false])) ok = true → (∀ (ρ : Nat → Option Loc) (e : Operand → Value), VR E ρ a (e x) → ∀ w, (Instr.typeAssert (e x) xt t true).run P w = .ok (.tuple #[z, .bool false]) w) → ∃ r, k r = true ∧ PureT P E o fr r := fun hm hr => by
    cases ok with
    | false => cases hm
    | true =>
      refine ⟨_, hm, fun ρ e he hh => ?_⟩
      rw [ho] at hh
      refine ⟨.tuple #[z, .bool false], ?_, fun w => by simp [execOp, ho, hr ρ e (h2 ρ e he hh) w]⟩
      simp only [VR]
      exact ⟨[z, .bool false], VRs.cons (hza ρ) (VRs.cons (by simp only [VR]) VRs.nil), rfl⟩
  have hne : ∀ ms, d ≠ .interface ms := fun ms e => by
    subst e
    rcases hs with ⟨_, h⟩ | ⟨_, _, h⟩ | ⟨_, _, _, h⟩ | ⟨_, _, h⟩ | ⟨_, _, h⟩ | ⟨h, _⟩ | ⟨_, _, _, _, h⟩ | ⟨_, _, h⟩ | ⟨_, h⟩ <;> first | (cases h; done) | exact h5 h
  replace h1 := ifcK_some h1
  rcases h1 with ⟨u, y, rfl, h1⟩ | ⟨rfl, h1⟩
  · rw [ifK_eq] at h1
    by_cases hu : u = t
    · subst hu
      simp only [Nat.beq_refl, if_true] at h1
      have hit : ∀ (ρ : Nat → Option Loc) (e : Operand → Value), VR E ρ (.ifc u y) (e x) → ∃ v, VR E ρ y v ∧ ∀ w, (Instr.typeAssert (e x) xt u ok).run P w = .ok (if ok then .tuple #[v, .bool true] else v) w := fun ρ e hv => by
        simp only [VR] at hv
        obtain ⟨v, hv1, hv⟩ := hv
        refine ⟨v, hv1, fun w => ?_⟩
        cases d with
        | interface ms => exact absurd rfl (hne ms)
        | _ => simp [Instr.typeAssert, run_underlying hd, hv]
      cases ok with
      | false =>
        refine ⟨_, h1, fun ρ e he hh => ?_⟩
        rw [ho] at hh
        obtain ⟨v, hv1, hr⟩ := hit ρ e (h2 ρ e he hh)
        exact ⟨v, hv1, fun w => by simp [execOp, ho, hr w]⟩
      | true =>
        refine ⟨_, h1, fun ρ e he hh => ?_⟩
        rw [ho] at hh
        obtain ⟨v, hv1, hr⟩ := hit ρ e (h2 ρ e he hh)
        refine ⟨.tuple #[v, .bool true], ?_, fun w => by simp [execOp, ho, hr w]⟩
        simp only [VR]
        exact ⟨[v, .bool true], VRs.cons hv1 (VRs.cons (by simp only [VR]) VRs.nil), rfl⟩
    · have hb : Nat.beq u t = false := by
        cases hb : Nat.beq u t with
        | false => rfl
        | true => exact absurd (beq_of hb) hu
      rw [hb] at h1
      refine miss h1 fun ρ e hv w => ?_
      simp only [VR] at hv
      obtain ⟨v, _, hv⟩ := hv
      cases d with
      | interface ms => exact absurd rfl (hne ms)
      | _ => simp [Instr.typeAssert, run_underlying hd, hv, hu, zeroValue, typeInfo, hi, hz]
  · refine miss h1 fun ρ e hv w => ?_
    simp only [VR] at hv
    cases d with
    | interface ms => exact absurd rfl (hne ms)
    | _ => simp [Instr.typeAssert, run_underlying hd, hv, zeroValue, typeInfo, hi, hz]
theorem tassi_ok {x : Operand} {xt t : Nat} {ms : Array (String × TypeId)} {it : TypeInfo} {z : Value} {za : AV} {g : Nat → (Bool → Bool) → Bool} {c : COpd} (ho : o.op = .typeAssert x xt t true) (hd : P.underlying t = some (.interface ms)) (hi : P.info? t = some it) (hz : it.zero = some z) (hza : ∀ ρ, VR E ρ za z)
    (hg : ∀ u k, g u k = true → ∃ i, P.info? u = some i ∧ k (lacking ms i.methods).isEmpty = true) (hx : OpdOk E x c) : PureOk P E F o (.tassi g za c) := fun fr k h => by
  obtain ⟨a, h1, h2⟩ := hx fr (fun v => ifcK v (fun t u => g t fun b => @Bool.rec (fun _ => Bool) (k (.tup [za, .bool false])) (k (.tup [.ifc t u, .bool true])) b) (k (.tup [za, .bool false]))) h
  have miss : k (.tup [za, .bool false]) = true → (∀ (ρ : Nat → Option Loc) (e : Operand → Value), VR E ρ a (e x) → ∀ w, (Instr.typeAssert (e x) xt t true).run P w = .ok (.tuple #[z, .bool false]) w) → ∃ r, k r = true ∧ PureT P E o fr r := fun hm hr => by
    refine ⟨_, hm, fun ρ e he hh => ?_⟩
    rw [ho] at hh
    refine ⟨.tuple #[z, .bool false], ?_, fun w => by simp [execOp, ho, hr ρ e (h2 ρ e he hh) w]⟩
    simp only [VR]
    exact ⟨[z, .bool false], VRs.cons (hza ρ) (VRs.cons (by simp only [VR]) VRs.nil), rfl⟩
  replace h1 := ifcK_some h1
  rcases h1 with ⟨u, y, rfl, h1⟩ | ⟨rfl, h1⟩
  · obtain ⟨i, hu, h1⟩ := hg u _ h1
    cases hl : (lacking ms i.methods).isEmpty with
    | false =>
      rw [hl] at h1
      refine miss h1 fun ρ e hv w => ?_
      simp only [VR] at hv
      obtain ⟨v, _, hv⟩ := hv
      rw [hv]
      exact run_typeAssert_lacks hd hu hi hz (fun e => by rw [e] at hl; cases hl)
    | true =>
      rw [hl] at h1
      refine ⟨_, h1, fun ρ e he hh => ?_⟩
      rw [ho] at hh
      have hv := h2 ρ e he hh
      have hv' := hv
      simp only [VR] at hv
      obtain ⟨v, hv1, hv⟩ := hv
      refine ⟨.tuple #[e x, .bool true], ?_, fun w => ?_⟩
      · simp only [VR]
        exact ⟨[e x, .bool true], VRs.cons hv' (VRs.cons (by simp only [VR]) VRs.nil), rfl⟩
      · have := run_typeAssert_has (P := P) (w := w) (xT := xt) (v := v) hd hu (List.isEmpty_iff.1 hl)
        rw [← hv] at this
        simp [execOp, ho, this]
  · refine miss h1 fun ρ e hv w => ?_
    simp only [VR] at hv
    simp [Instr.typeAssert, run_underlying hd, hv, zeroValue, typeInfo, hi, hz]
theorem eqi_ok {neg : Bool} {op : BinOp} {t t' : TypeId} {ms : Array (String × TypeId)} {x y : Operand} {c d : COpd} {g : Nat → (IntKind → Bool) → Bool} (ho : o.op = .binOp op t x y t') (hop : op = if neg then .neq else .eql) (hd : P.underlying t = some (.interface ms))
    (hg : ∀ u k, g u k = true → ∃ q i, k q = true ∧ P.underlying u = some (.int q) ∧ P.info? u = some i ∧ i.comparable = true) (hx : OpdOk E x c) (hy : OpdOk E y d) : PureOk P E F o (.eqi neg g c d) := fun fr k h => by
  obtain ⟨a, b, h1, h2⟩ := opd2_some hx hy (k := fun a b => eqIfc g a b fun r => negK neg r k) h
  have fin : ∀ r : Bool, negK neg r k = true → (∀ ρ v u, VR E ρ a v → VR E ρ b u → (∀ w, (Op.equal t v u).run P w = .ok r w) ∧ ((∃ p q, v = .iface p q) ∨ ∃ p q, u = .iface p q)) → ∃ r, k r = true ∧ PureT P E o fr r := fun r hk hr => by
    rw [negK_eq] at hk
    refine ⟨_, hk, fun ρ e he hh => ?_⟩
    rw [ho] at hh
    obtain ⟨ha, hb⟩ := h2 ρ e he (hh.sub (by simp [Op.operands]))
    obtain ⟨hr, hi⟩ := hr ρ _ _ ha hb
    refine ⟨.bool (if neg then !r else r), by simp only [VR], fun w => run_eq ho (fun w => ?_) hop ?_ ?_⟩
    · rcases hi with ⟨p, q, hi⟩ | ⟨p, q, hi⟩ <;> rw [hi] <;> cases op <;> simp [eqGuard]
    · have := hr w
      rcases hi with ⟨p, q, hi⟩ | ⟨p, q, hi⟩ <;> rw [hi] at this ⊢ <;> simp [binOp, this]
    · have := hr w
      rcases hi with ⟨p, q, hi⟩ | ⟨p, q, hi⟩ <;> rw [hi] at this ⊢ <;> simp [binOp, this]
  unfold eqIfc at h1
  replace h1 := ifcK_some h1
  rcases h1 with ⟨u, v, rfl, h1⟩ | ⟨rfl, h1⟩
  · replace h1 := ifcK_some h1
    rcases h1 with ⟨u', v', rfl, h1⟩ | ⟨rfl, h1⟩
    · cases hu : Nat.beq u u' with
      | false =>
        rw [hu] at h1
        have hne : u ≠ u' := fun e => by subst e; simp at hu
        refine fin false h1 fun ρ a b ha hb => ?_
        simp only [VR] at ha hb
        obtain ⟨a', _, rfl⟩ := ha
        obtain ⟨b', _, rfl⟩ := hb
        refine ⟨fun w => ?_, .inl ⟨_, _, rfl⟩⟩
        have h : ∀ d : Nat, (Op.equalIn (d + 1) t (.iface u a') (.iface u' b')).run P w = .ok false w := fun d => by simp [Op.equalIn, run_underlying hd, hne]
        simp only [Op.equal, Op.maxDepth]; exact h 9999
      | true =>
        rw [hu] at h1
        have := beq_of hu; subst this
        replace h1 := hg u _ h1
        obtain ⟨q, i, h1, hq, hi, hcmp⟩ := h1
        replace h1 := intK_some h1
        obtain ⟨q1, m, rfl, h1⟩ := h1
        replace h1 := intK_some h1
        obtain ⟨q2, m', rfl, h1⟩ := h1
        replace h1 := ifK_and h1
        obtain ⟨e1, h1⟩ := h1
        have := kindEq_of e1; subst this
        replace h1 := ifK_and h1
        obtain ⟨e2, h1⟩ := h1
        have := kindEq_of e2; subst this
        rw [forceB_eq, beqI_eq] at h1
        refine fin _ h1 fun ρ a b ha hb => ?_
        simp only [VR] at ha hb
        obtain ⟨_, rfl, rfl⟩ := ha
        obtain ⟨_, rfl, rfl⟩ := hb
        refine ⟨fun w => ?_, .inl ⟨_, _, rfl⟩⟩
        have h : ∀ d : Nat, (Op.equalIn (d + 1 + 1) t (.iface u (.int q2 m)) (.iface u (.int q2 m'))).run P w = .ok (decide (m = m')) w := fun d => by
          rw [Op.equalIn]
          simp only [Sem.run_bind, run_underlying hd, Result.andThen_ok]
          simp [typeInfo, hi, hcmp, Op.equalIn, run_underlying hq]; rfl
        simp only [Op.equal, Op.maxDepth]; exact h 9998
    · refine fin false h1 fun ρ a b ha hb => ?_
      simp only [VR] at ha hb
      obtain ⟨a', _, rfl⟩ := ha
      subst hb
      refine ⟨fun w => ?_, .inl ⟨_, _, rfl⟩⟩
      have h : ∀ d : Nat, (Op.equalIn (d + 1) t (.iface u a') .nilIface).run P w = .ok false w := fun d => by simp [Op.equalIn, run_underlying hd]
      simp only [Op.equal, Op.maxDepth]; exact h 9999
  · replace h1 := ifcK_some h1
    rcases h1 with ⟨u', v', rfl, h1⟩ | ⟨_, h1⟩
    · refine fin false h1 fun ρ a b ha hb => ?_
      simp only [VR] at ha hb
      subst ha
      obtain ⟨b', _, rfl⟩ := hb
      refine ⟨fun w => ?_, .inr ⟨_, _, rfl⟩⟩
      have h : ∀ d : Nat, (Op.equalIn (d + 1) t .nilIface (.iface u' b')).run P w = .ok false w := fun d => by simp [Op.equalIn, run_underlying hd]
      simp only [Op.equal, Op.maxDepth]; exact h 9999
    · cases h1
/-! ### Pointers -/
theorem ptr_same {t e : TypeId} {j : TypeInfo} (hd : P.underlying t = some (.pointer e)) (he : P.info? e = some j) (a : Addr) (w : World) : (Op.equal t (.pointer (some a)) (.pointer (some a))).run P w = .ok true w := by
  have h : ∀ d : Nat, (Op.equalIn (d + 1) t (.pointer (some a)) (.pointer (some a))).run P w = .ok true w := fun d => by
    simp [Op.equalIn, run_underlying hd, sizeOf, typeInfo, he, run_sameAddr_same]
  simp only [Op.equal, Op.maxDepth]; exact h 9999
theorem ptr_none {t e : TypeId} (hd : P.underlying t = some (.pointer e)) (p q : Option Addr) (h : p = none ∨ q = none) (w : World) : (Op.equal t (.pointer p) (.pointer q)).run P w = .ok (p.isNone && q.isNone) w := by
  have h : ∀ d : Nat, (Op.equalIn (d + 1) t (.pointer p) (.pointer q)).run P w = .ok (p.isNone && q.isNone) w := fun d => by
    rcases h with rfl | rfl
    · cases q <;> simp [Op.equalIn, run_underlying hd]
    · cases p <;> simp [Op.equalIn, run_underlying hd]
  simp only [Op.equal, Op.maxDepth]; exact h 9999
theorem nilB3_some {x : AV} {k : Bool → Bool} (h : nilB 3 x k = true) : (x = .nilp ∧ k true = true) ∨ (∃ i o, x = .ptr i o) ∧ k false = true := by
  cases x <;> first | exact .inl ⟨rfl, h⟩ | exact .inr ⟨⟨_, _, rfl⟩, h⟩ | cases h
theorem eqPtr_some {t e : TypeId} {j : TypeInfo} (hd : P.underlying t = some (.pointer e)) (he : P.info? e = some j) {x y : AV} {c : Bool → Bool} (h : eqPtr x y c = true) :
    ∃ r, c r = true ∧ ∀ ρ v u, VR E ρ x v → VR E ρ y u → (∃ p, v = .pointer p) ∧ (∃ p, u = .pointer p) ∧ ∀ w, (Op.equal t v u).run P w = .ok r w := by
  unfold eqPtr at h
  rcases nilB3_some h with ⟨rfl, h⟩ | ⟨⟨i, o, rfl⟩, h⟩
  · rcases nilB3_some h with ⟨rfl, h⟩ | ⟨⟨i', o', rfl⟩, h⟩
    · refine ⟨true, h, fun ρ v u hv hu => ?_⟩
      simp only [VR] at hv hu
      subst hv; subst hu
      exact ⟨⟨_, rfl⟩, ⟨_, rfl⟩, fun w => ptr_none hd none none (.inl rfl) w⟩
    · refine ⟨false, h, fun ρ v u hv hu => ?_⟩
      simp only [VR] at hv hu
      obtain ⟨L, _, rfl⟩ := hu
      subst hv
      exact ⟨⟨_, rfl⟩, ⟨_, rfl⟩, fun w => ptr_none hd none (some _) (.inl rfl) w⟩
  · rcases nilB3_some h with ⟨rfl, h⟩ | ⟨⟨i', o', rfl⟩, h⟩
    · refine ⟨false, h, fun ρ v u hv hu => ?_⟩
      simp only [VR] at hv hu
      obtain ⟨L, _, rfl⟩ := hv
      subst hu
      exact ⟨⟨_, rfl⟩, ⟨_, rfl⟩, fun w => ptr_none hd (some _) none (.inr rfl) w⟩
    · change ifK (Nat.beq i i') (ifK (Nat.beq o o') (c true) false) false = true at h
      replace h := ifK_and h
      obtain ⟨h1, h⟩ := h
      replace h := ifK_and h
      obtain ⟨h2, h9⟩ := h
      have := beq_of h1; subst this
      have := beq_of h2; subst this
      refine ⟨true, h9, fun ρ v u hv hu => ?_⟩
      simp only [VR] at hv hu
      obtain ⟨L, hL, rfl⟩ := hv
      obtain ⟨M, hM, rfl⟩ := hu
      rw [hL] at hM; injection hM with hM; subst hM
      exact ⟨⟨_, rfl⟩, ⟨_, rfl⟩, fun w => ptr_same hd he _ w⟩
theorem eqpp_ok {neg : Bool} {op : BinOp} {t t' e : TypeId} {j : TypeInfo} {x y : Operand} {c d : COpd} (ho : o.op = .binOp op t x y t') (hop : op = if neg then .neq else .eql) (hd : P.underlying t = some (.pointer e)) (he' : P.info? e = some j)
    (hx : OpdOk E x c) (hy : OpdOk E y d) : PureOk P E F o (.eqpp neg c d) := fun fr k h => by
  obtain ⟨a, b, h1, h2⟩ := opd2_some hx hy (k := fun a b => eqPtr a b fun r => negK neg r k) h
  obtain ⟨r, h1, hr⟩ := eqPtr_some (P := P) (E := E) hd he' h1
  rw [negK_eq] at h1
  refine ⟨_, h1, fun ρ e he hh => ?_⟩
  rw [ho] at hh
  obtain ⟨ha, hb⟩ := h2 ρ e he (hh.sub (by simp [Op.operands]))
  obtain ⟨⟨p, hp⟩, ⟨q, hq⟩, hr⟩ := hr ρ _ _ ha hb
  refine ⟨.bool (if neg then !r else r), by simp only [VR], fun w => run_eq ho (fun w => ?_) hop ?_ ?_⟩
  · rw [hp, hq]; cases op <;> simp [eqGuard]
  · have := hr w
    rw [hp, hq] at this ⊢; simp [binOp, this]
  · have := hr w
    rw [hp, hq] at this ⊢; simp [binOp, this]
/-! ### Built in -/
theorem run_builtin {e : Operand → Value} {b : Builtin} {xs : Array Operand} {ts : Array TypeId} (ho : o.op = .call ⟨.builtin b, xs, ts⟩) (w : World) :
    (execOp e o).run P w = (builtin b ts o.type (xs.map fun | .const _ => true | _ => false) (xs.map e)).run P w := by
  simp only [execOp, ho, resolve, invoke]
  rfl
theorem lens_ok {x : Operand} {t : Nat} {c : COpd} (ho : o.op = .call ⟨.builtin .len, #[x], #[t]⟩) (hd : P.underlying t = some .string) (hx : OpdOk E x c) : PureOk P E F o (.lenv true c) := fun fr k h => by
  obtain ⟨a, h1, h2⟩ := hx fr (fun v => strK v fun s => lenK s 0 fun n => k (.int .i64 (Int.ofNat n))) h
  replace h1 := strK_some h1
  obtain ⟨s, rfl, h1⟩ := h1
  rw [lenK_eq] at h1
  refine ⟨_, h1, fun ρ e he hh => ⟨.int .i64 (Int.ofNat (0 + s.length)), by simp only [VR], fun w => ?_⟩⟩
  rw [ho] at hh
  have hv := h2 ρ e he (hh.sub (by simp [Op.operands, Call.operands]))
  simp only [VR] at hv
  rw [run_builtin ho]
  have := run_len_string (P := P) w t o.type (E.bytes s) hd
  rw [bytes_size] at this
  simp [builtin, hv, this, goInt]
theorem lenl_ok {x : Operand} {t et : Nat} {c : COpd} (ho : o.op = .call ⟨.builtin .len, #[x], #[t]⟩) (hd : P.underlying t = some (.slice et)) (hx : OpdOk E x c) : PureOk P E F o (.lenv false c) := fun fr k h => by
  obtain ⟨a, h1, h2⟩ := hx fr (fun v => slK v (fun _ _ n _ _ _ => k (.int .i64 (Int.ofNat n))) (k (.int .i64 0)) (k (.int .i64 0))) h
  have fin : ∀ n : Nat, k (.int .i64 (Int.ofNat n)) = true → (∀ ρ v, VR E ρ a v → ∃ b cc, v = .slice b n cc) → ∃ r, k r = true ∧ PureT P E o fr r := fun n hk hn =>
    ⟨_, hk, fun ρ e he hh => ⟨.int .i64 (Int.ofNat n), by simp only [VR], fun w => by
      rw [ho] at hh
      obtain ⟨b, cc, hv⟩ := hn ρ _ (h2 ρ e he (hh.sub (by simp [Op.operands, Call.operands])))
      rw [run_builtin ho]
      simp [builtin, Builtin.len_, run_underlying hd, hv, goInt]⟩⟩
  replace h1 := slK_some h1
  rcases h1 with ⟨i, p, n, cc, ex, es', rfl, h1⟩ | ⟨rfl, h1⟩ | ⟨rfl, h1⟩
  · exact fin n h1 fun ρ v hv => by simp only [VR] at hv; obtain ⟨_, _, _, hv, _⟩ := hv; exact ⟨_, _, hv⟩
  · exact fin 0 h1 fun ρ v hv => by simp only [VR] at hv; exact ⟨_, _, hv⟩
  · exact fin 0 h1 fun ρ v hv => by simp only [VR] at hv; obtain ⟨_, _, hv⟩ := hv; exact ⟨_, _, hv⟩
theorem lenc_ok {x : Operand} {t n et : Nat} (ho : o.op = .call ⟨.builtin .len, #[x], #[t]⟩) (hd : P.underlying t = some (.array n et)) : PureOk P E F o (.lenc n) := fun fr k h =>
  ⟨_, h, fun ρ e he hh => ⟨.int .i64 (Int.ofNat n), by simp only [VR], fun w => by
    rw [run_builtin ho]
    simp [builtin, Builtin.len_, run_underlying hd, goInt]⟩⟩
theorem capv_ok {x : Operand} {t et : Nat} {c : COpd} (ho : o.op = .call ⟨.builtin .cap, #[x], #[t]⟩) (hd : P.underlying t = some (.slice et)) (hx : OpdOk E x c) : PureOk P E F o (.capv c) := fun fr k h => by
  obtain ⟨a, h1, h2⟩ := hx fr (fun v => slK v (fun _ _ _ c ex _ => ifK ex (k (.int .i64 (Int.ofNat c))) (k (.atl .i64 c))) (k (.int .i64 0)) false) h
  have fin : ∀ n : Nat, k (.int .i64 (Int.ofNat n)) = true → (∀ ρ v, VR E ρ a v → ∃ b l, v = .slice b l n) → ∃ r, k r = true ∧ PureT P E o fr r := fun n hk hn =>
    ⟨_, hk, fun ρ e he hh => ⟨.int .i64 (Int.ofNat n), by simp only [VR], fun w => by
      rw [ho] at hh
      obtain ⟨b, cc, hv⟩ := hn ρ _ (h2 ρ e he (hh.sub (by simp [Op.operands, Call.operands])))
      rw [run_builtin ho]
      simp [builtin, Builtin.cap_, run_underlying hd, hv, goInt]⟩⟩
  replace h1 := slK_some h1
  rcases h1 with ⟨i, p, n, cc, ex, es', rfl, h1⟩ | ⟨rfl, h1⟩ | ⟨_, h1⟩
  · rw [ifK_eq] at h1
    cases hex : ex with
    | false =>
      rw [hex] at h1
      refine ⟨_, h1, fun ρ e he hh => ?_⟩
      rw [ho] at hh
      have hv := h2 ρ e he (hh.sub (by simp [Op.operands, Call.operands]))
      simp only [VR] at hv
      obtain ⟨L, q, _, hv, h3, _⟩ := hv
      refine ⟨.int .i64 (q : Int), by simp only [VR]; exact ⟨q, rfl, h3⟩, fun w => ?_⟩
      rw [run_builtin ho]
      simp [builtin, Builtin.cap_, run_underlying hd, hv, goInt]
    | true =>
    rw [hex] at h1
    exact fin cc h1 fun ρ v hv => by simp only [VR] at hv; obtain ⟨_, q, _, hv, _, h3, _⟩ := hv; rw [h3 hex] at hv; exact ⟨_, _, hv⟩
  · exact fin 0 h1 fun ρ v hv => by simp only [VR] at hv; exact ⟨_, _, hv⟩
  · cases h1
theorem sdata_ok {x : Operand} {ts : Array TypeId} {c : COpd} (ho : o.op = .call ⟨.builtin .unsafeSliceData, #[x], ts⟩) (hx : OpdOk E x c) : PureOk P E F o (.sdata c) := fun fr k h => by
  obtain ⟨a, h1, h2⟩ := hx fr (fun v => slK v (fun i o _ c _ _ => ifK (Nat.blt 0 c) (k (.ptr i o)) false) (k .nilp) false) h
  replace h1 := slK_some h1
  rcases h1 with ⟨i, p, n, cc, ex, es', rfl, h1⟩ | ⟨rfl, h1⟩ | ⟨_, h1⟩
  · replace h1 := ifK_and h1
    obtain ⟨hc, h1⟩ := h1
    have hc := blt_of hc
    refine ⟨_, h1, fun ρ e he hh => ?_⟩
    rw [ho] at hh
    have hv := h2 ρ e he (hh.sub (by simp [Op.operands, Call.operands]))
    simp only [VR] at hv
    obtain ⟨L, q, hL, hv, h3, _⟩ := hv
    refine ⟨.pointer (some ⟨L.b, L.o + p, none⟩), by simp only [VR]; exact ⟨L, hL, rfl⟩, fun w => ?_⟩
    rw [run_builtin ho]
    have := Lib.run_unsafeSliceData_row (P := P) w ts o.type ⟨L.b, L.o + p, none⟩ n q (by omega)
    simp [builtin, hv, this]
  · refine ⟨_, h1, fun ρ e he hh => ?_⟩
    rw [ho] at hh
    have hv := h2 ρ e he (hh.sub (by simp [Op.operands, Call.operands]))
    simp only [VR] at hv
    refine ⟨.pointer none, by simp only [VR], fun w => ?_⟩
    rw [run_builtin ho]
    have := Lib.run_unsafeSliceData_nil (P := P) w ts o.type 0 0
    simp [builtin, hv, this]
  · cases h1
theorem mm_ok {x y : Operand} {ts : Array TypeId} {mx : Bool} {c d : COpd} (ho : o.op = .call ⟨.builtin (if mx then .max else .min), #[x, y], ts⟩) (hx : OpdOk E x c) (hy : OpdOk E y d) : PureOk P E F o (.mm mx c d) := fun fr k h => by
  obtain ⟨a, b, h1, h2⟩ := opd2_some hx hy (k := fun a b => int2K a b fun q m n => ifK (bltI m n) (@Bool.rec (fun _ => Bool) (k (.int q m)) (k (.int q n)) mx) (@Bool.rec (fun _ => Bool) (k (.int q n)) (k (.int q m)) mx)) h
  replace h1 := int2K_some h1
  obtain ⟨q, m, n, rfl, rfl, h1⟩ := h1
  rw [ifK_eq, bltI_eq] at h1
  have h3 : k (.int q (if mx then max m n else min m n)) = true := by
    cases mx <;> by_cases hl : m < n <;> simp only [hl, decide_true, decide_false, if_true, if_false, Bool.false_eq_true] at h1 ⊢
    · rw [Int.min_eq_left (by omega)]; exact h1
    · rw [Int.min_eq_right (by omega)]; exact h1
    · rw [Int.max_eq_right (by omega)]; exact h1
    · rw [Int.max_eq_left (by omega)]; exact h1
  refine ⟨_, h3, fun ρ e he hh => ⟨.int q (if mx then max m n else min m n), by simp only [VR], fun w => ?_⟩⟩
  rw [ho] at hh
  obtain ⟨hv, hu⟩ := h2 ρ e he (hh.sub (by simp [Op.operands, Call.operands]))
  simp only [VR] at hv hu
  rw [run_builtin ho]
  cases mx
  · have : (if n < m then n else m) = min m n := by simp only [Int.min_def]; split <;> split <;> omega
    simp [builtin, Builtin.min_, Builtin.min2, hv, hu, ← this]
  · have : (if n > m then n else m) = max m n := by simp only [Int.max_def]; split <;> split <;> omega
    simp [builtin, Builtin.max_, Builtin.max2, hv, hu, ← this]

/-! ### A struct that is put together -/
theorem cells_of {a : AV} {v : Value} {ρ : Nat → Option Loc} {k : List AV → Bool} (h : cellsK a k = true) : ∃ as, k as = true ∧ (∀ (_ : VR E ρ a v), VRs E ρ as v.cells.toList) := by
  replace h := cellsK_some h
  rcases h with ⟨l, rfl, h⟩ | ⟨h1, h⟩
  · exact ⟨l, h, fun hv => by simp only [VR] at hv; obtain ⟨vs, hvs, rfl⟩ := hv; simpa [Value.cells] using hvs⟩
  · refine ⟨[a], h, fun hv => ?_⟩
    have ho := one1_of hv h1
    have : v.cells = #[v] := by cases v <;> first | rfl | cases ho
    rw [this]
    exact VRs.cons hv VRs.nil
theorem spliceK_some {p n : Nat} {vs zs : List AV} {k : List AV → Bool} (h : spliceK p n vs zs k = true) : p + n ≤ zs.length ∧ k (zs.take p ++ vs ++ zs.drop (p + n)) = true := by
  replace h := takeK_some (n := p) (l := zs) (k := fun a => dropK (Nat.add p n) zs fun b => appK vs b fun m => appK a m k) h
  obtain ⟨h1, h⟩ := h
  replace h := dropK_some h
  obtain ⟨h2, h⟩ := h
  rw [appK_eq, appK_eq] at h
  exact ⟨h2, by simpa [List.append_assoc] using h⟩
theorem foldl_set (vs : List Value) : ∀ (cs : Array Value) (p i : Nat), p + i + vs.length ≤ cs.size → ((vs.zipIdx i).foldl (fun cs (c, j) => cs.setIfInBounds (p + j) c) cs).toList = cs.toList.take (p + i) ++ vs ++ cs.toList.drop (p + i + vs.length) := by
  induction vs with
  | nil => intro cs p i _; simp
  | cons v vs ih =>
    intro cs p i h
    simp only [List.length_cons] at h
    simp only [List.zipIdx_cons, List.foldl_cons]
    rw [ih _ _ _ (by simp; omega)]
    have hlt : p + i < cs.toList.length := by simp; omega
    simp only [Array.toList_setIfInBounds, List.length_cons]
    rw [show p + (i + 1) = (p + i) + 1 from by omega, List.take_set, List.drop_set_of_lt (by omega), List.take_succ_eq_append_getElem hlt]
    rw [List.set_append_right _ _ (by simp; omega)]
    rw [show p + i + 1 + vs.length = p + i + (vs.length + 1) from by omega]
    have hm : min (p + i) cs.size = p + i := by simp at hlt; omega
    simp [hm]
theorem fill_step {place : Nat → Option (Nat × Nat)} {cs : Array Value} {i p n : Nat} {v : Value} {rest : List (Nat × Value)} (hp : place i = some (p, n)) (hv : v.cells.size = n) (hfit : p + n ≤ cs.size) :
    ∃ cs', Instr.fill place cs ((i, v) :: rest) = Instr.fill place cs' rest ∧ cs'.toList = cs.toList.take p ++ v.cells.toList ++ cs.toList.drop (p + n) := by
  refine ⟨v.cells.zipIdx.foldl (fun cs (c, j) => cs.setIfInBounds (p + j) c) cs, ?_, ?_⟩
  · have h1 : ¬ (cs.size < p + n) := by omega
    simp [Instr.fill, hp, hv, h1]
  · have := foldl_set v.cells.toList cs p 0 (by simpa [hv] using hfit)
    simp only [Nat.add_zero, Array.length_toList, hv] at this
    rw [← this, ← Array.foldl_toList]
    simp
/-- Parts to be filled in: place, size, operand. -/
inductive PartsOk (E : Env) (place : Nat → Option (Nat × Nat)) : List (Nat × Operand) → List (Nat × Nat × COpd) → Prop where
  | nil : PartsOk E place [] []
  | cons {x : Nat × Operand} {c : Nat × Nat × COpd} {xs : List (Nat × Operand)} {cs : List (Nat × Nat × COpd)} (h1 : place x.1 = some (c.1, c.2.1)) (h2 : OpdOk E x.2 c.2.2) (h : PartsOk E place xs cs) : PartsOk E place (x :: xs) (c :: cs)
theorem fillK_some {place : Nat → Option (Nat × Nat)} {fr : T AV} {xs : List (Nat × Operand)} {cs : List (Nat × Nat × COpd)} (hp : PartsOk E place xs cs) : ∀ {zs : List AV} {k : List AV → Bool}, fillK fr cs zs k = true →
    ∃ l, k l = true ∧ l.length = zs.length ∧ ∀ ρ e, Ev e → Holds E ρ fr e (xs.map (·.2)) → ∀ zv : Array Value, VRs E ρ zs zv.toList → ∃ lv : Array Value, VRs E ρ l lv.toList ∧ Instr.fill place zv (xs.map fun (i, x) => (i, e x)) = some lv := by
  induction hp with
  | nil => intro zs k h; exact ⟨zs, h, rfl, fun ρ e _ _ zv hz => ⟨zv, hz, rfl⟩⟩
  | @cons x c xs cs h1 h2 h ih =>
    intro zs k hk
    obtain ⟨a, hk, ha⟩ := h2 fr (fun v => cellsK v fun vs => lenK vs 0 fun n => ifK (Nat.beq n c.2.1) (spliceK c.1 n vs zs fun zs => fillK fr cs zs k) false) hk
    have hk' := hk
    replace hk := cellsK_some hk
    have ⟨vs, hk, hvs⟩ : ∃ vs, (lenK vs 0 fun n => ifK (Nat.beq n c.2.1) (spliceK c.1 n vs zs fun zs => fillK fr cs zs k) false) = true ∧ ∀ ρ v, VR E ρ a v → VRs E ρ vs v.cells.toList := by
      rcases hk with ⟨l, rfl, hk⟩ | ⟨h1, hk⟩
      · exact ⟨l, hk, fun ρ v hv => by simp only [VR] at hv; obtain ⟨vs, hvs, rfl⟩ := hv; simpa [Value.cells] using hvs⟩
      · refine ⟨[a], hk, fun ρ v hv => ?_⟩
        have ho := one1_of hv h1
        have : v.cells = #[v] := by cases v <;> first | rfl | cases ho
        rw [this]
        exact VRs.cons hv VRs.nil
    rw [lenK_eq] at hk
    obtain ⟨hn, hk⟩ := ifK_and hk
    have hn := beq_of hn
    simp only [Nat.zero_add] at hn hk
    obtain ⟨hfit, hk⟩ := spliceK_some hk
    obtain ⟨l, hl1, hl2, hl3⟩ := ih hk
    refine ⟨l, hl1, ?_, fun ρ e he hh zv hz => ?_⟩
    · rw [hl2]; simp; omega
    · have hv := hvs ρ _ (ha ρ e he (hh.sub (by simp)))
      have e1 := hv.length
      have e2 := hz.length
      simp only [Array.length_toList] at e1 e2
      obtain ⟨cs', f1, f2⟩ := fill_step (place := place) (cs := zv) (i := x.1) (p := c.1) (n := c.2.1) (v := e x.2) (rest := xs.map fun (i, x) => (i, e x)) h1 (by omega) (by omega)
      obtain ⟨lv, g1, g2⟩ := hl3 ρ e he (hh.sub fun y hy => List.mem_cons_of_mem _ hy) cs' (by
        rw [f2, ← hn]
        exact ((hz.take _).append hv).append (hz.drop _))
      exact ⟨lv, g1, by simpa [f1] using g2⟩
theorem build_ok {t : Nat} {fs : Array Field} {it : TypeInfo} {z : Value} {places : List (Nat × Nat)} {ps : Array (Nat × Operand)} {zs : List AV} {cs : List (Nat × Nat × COpd)} (ho : o.op = .build t ps) (ht : P.underlying t = some (.struct fs)) (hi : P.info? t = some it) (hz : it.zero = some z)
    (hpl : fs.toList.mapM (fun f => (P.info? f.type).map fun i => (f.offset, i.size)) = some places) (hzs : ∀ ρ, VRs E ρ zs z.cells.toList) (hp : PartsOk E (places.toArray[·]?) ps.toList cs) : PureOk P E F o (.build zs cs) := fun fr k h => by
  obtain ⟨l, h1, _, h2⟩ := fillK_some hp (k := fun l => k (.agg l)) h
  refine ⟨_, h1, fun ρ e he hh => ?_⟩
  rw [ho] at hh
  obtain ⟨lv, g1, g2⟩ := h2 ρ e he (hh.sub (by simp [Op.operands])) z.cells (hzs ρ)
  refine ⟨.agg lv, ?_, fun w => ?_⟩
  · simp only [VR]; exact ⟨_, g1, by simp⟩
  · have hb : P.built t (ps.map fun (i, x) => (i, e x)).toList = some lv := by
      simp only [Program.built, hi, ht, hz, hpl]
      simpa using g2
    have := run_build (P := P) w t (ps.map fun (i, x) => (i, e x)) lv hb
    simp [execOp, ho, this]
end
end Go.Proofs.YtdnahdcjnahfkaaGreatDoor.Ev
set_option linter.unusedVariables false
set_option linter.unusedSimpArgs false
namespace Go.Proofs.YtdnahdcjnahfkaaGreatDoor.Ev
open Go

inductive ROp where
  | ld1 (x : COpd)
  | ldn (n : Nat) (x : COpd)
  | b2s (x : COpd)
  | tou (x : COpd)
  | fru (ty m : Nat) (x : COpd)
noncomputable def liveK (b : Blk) (k : Nat → T AV → Bool) : Bool := @Blk.rec (fun _ => Bool) false (fun n t => k n t) b
noncomputable def blkK (h : T Blk) (i : Nat) (k : Nat → T AV → Bool) : Bool := getK (fun b => liveK b k) h i
theorem blkK_some {h : T Blk} {i : Nat} {k : Nat → T AV → Bool} (e : blkK h i k = true) : ∃ n t, h.get i = some (.live n t) ∧ k n t = true := by
  obtain ⟨b, hb, e⟩ := getK_some e
  cases b with
  | dead => cases e
  | live n t => exact ⟨n, t, hb, e⟩
noncomputable def atom1K (v : AV) (k : Nat → Bool) : Bool :=
  numK v (fun q n => ifK (kindEq q .u8) (@Int.rec (fun _ => Bool) (fun m => ifK (Nat.blt m 256) (k m) false) (fun _ => false) n) false) (fun q i => ifK (kindEq q .u8) (forceN (Nat.add 256 i) k) false) (fun _ _ => false)
noncomputable def atomsK (l : List AV) : (List Nat → Bool) → Bool := @List.rec AV (fun _ => (List Nat → Bool) → Bool) (fun k => k []) (fun v _ ih k => atom1K v fun a => ih fun r => k (a :: r)) l
noncomputable def rLd1 (x : COpd) (fr : T AV) (h : T Blk) (k : AV → Bool) : Bool := opdK fr (fun v => ptrK v fun i p => blkK h i fun n t => ifK (Nat.blt p n) (getK k t p) false) x
noncomputable def rLdn (m : Nat) (x : COpd) (fr : T AV) (h : T Blk) (k : AV → Bool) : Bool := opdK fr (fun v => ptrK v fun i p => blkK h i fun n t => ifK (Nat.ble (Nat.add p m) n) (readK t m p fun l => k (.agg l)) false) x
noncomputable def rB2s (x : COpd) (fr : T AV) (h : T Blk) (k : AV → Bool) : Bool :=
  opdK fr (fun v => slK v (fun i p n _ _ _ => blkK h i fun m t => ifK (Nat.ble (Nat.add p n) m) (readK t n p fun l => atomsK l fun s => k (.str s)) false) (k (.str [])) (k (.str []))) x
/-- Is it the name of this type? -/
noncomputable def nameB (x : AV) (ty : Nat) (k : Bool) : Bool :=
  @AV.casesOn (fun _ => Bool) x (fun _ => false) (fun _ _ => false) (fun _ _ => false) (fun _ _ => false) (fun _ => false) (fun _ _ => false) false (fun g => ifK (Nat.beq g ty) k false) (fun _ _ _ _ _ _ => false) false false (fun _ _ _ => false) false (fun _ _ => false) false (fun _ => false) (fun _ => false) false (fun _ _ => false)
theorem nameB_some {x : AV} {ty : Nat} {k : Bool} (h : nameB x ty k = true) : x = .glob ty ∧ k = true := by
  cases x with
  | glob g => obtain ⟨h1, h9⟩ := ifK_and (b := Nat.beq g ty) (t := k) h; have := beq_of h1; subst this; exact ⟨rfl, h9⟩
  | _ => cases h
/-- Is the block of these bytes? Is it known whole, of this type? -/
noncomputable def tyK (t : T AV) (n ty : Nat) (k : Bool) : Bool := forceN (Nat.add n 7) fun q => getK (fun g => nameB g ty k) t q
theorem tyK_some {t : T AV} {n ty : Nat} {k : Bool} (h : tyK t n ty k = true) : t.get (n + 7) = some (.glob ty) ∧ k = true := by
  unfold tyK at h
  rw [forceN_eq] at h
  replace h := getK_some h
  obtain ⟨g, hg, h⟩ := h
  replace h := nameB_some h
  obtain ⟨rfl, h⟩ := h
  exact ⟨hg, h⟩
noncomputable def tyPK (t : T AV) (n : Nat) (k : Nat → Bool) : Bool := forceN (Nat.add n 7) fun q => getK (fun g => ptrK g fun ty _ => k ty) t q
theorem tyPK_some {t : T AV} {n : Nat} {k : Nat → Bool} (h : tyPK t n k = true) : ∃ ty q, t.get (n + 7) = some (.ptr ty q) ∧ k ty = true := by
  unfold tyPK at h
  rw [forceN_eq] at h
  replace h := getK_some h
  obtain ⟨g, hg, h⟩ := h
  replace h := ptrK_some h
  obtain ⟨ty, q, rfl, h⟩ := h
  exact ⟨ty, q, hg, h⟩
/-- To unsafe pointers, and from them. -/
noncomputable def rTou (x : COpd) (fr : T AV) (h : T Blk) (k : AV → Bool) : Bool := opdK fr (fun v => ptrK v fun i p => blkK h i fun n _ => ifK (Nat.blt p n) (k (.ptr i p)) false) x
noncomputable def rFru (ty m : Nat) (x : COpd) (fr : T AV) (h : T Blk) (k : AV → Bool) : Bool := opdK fr (fun v => ptrK v fun i p => ifK (Nat.beq p 0) (blkK h i fun n t => ifK (Nat.ble m n) (tyPK t n fun ty' => ifK (Nat.beq ty' ty) (k (.ptr i 0)) false) false) false) x
noncomputable def readOp (r : ROp) : T AV → T Blk → (AV → Bool) → Bool := @ROp.rec (fun _ => T AV → T Blk → (AV → Bool) → Bool) rLd1 rLdn rB2s rTou rFru r

/-- The operation reads a value that r stands for, in any world of which H is known. -/
def ReadT (P : Program) (E : Env) (o : Oper) (fr : T AV) (H : Heap) (r : AV) : Prop :=
  ∀ ρ e w, Ev e → Holds E ρ fr e o.op.operands.toList → Inv E ρ H w → ∃ v, VR E ρ r v ∧ (execOp e o).run P w = .ok (.value v) w
def ReadOk (P : Program) (E : Env) (o : Oper) (p : ROp) : Prop := ∀ fr h k, readOp p fr h k = true → ∃ r, k r = true ∧ ReadT P E o fr h.get r

section
variable {P : Program} {E : Env} {F : Facts} {o : Oper}
theorem ld1_ok {t : Nat} {x : Operand} {c : COpd} (ho : o.op = .load t x) (hg : ∀ w, (isAgg t).run P w = .ok false w) (hx : OpdOk E x c) : ReadOk P E o (.ld1 c) := fun fr h k hk => by
  obtain ⟨a, h1, h2⟩ := hx fr (fun v => ptrK v fun i p => blkK h i fun n t => ifK (Nat.blt p n) (getK k t p) false) hk
  replace h1 := ptrK_some h1
  obtain ⟨i, p, rfl, h1⟩ := h1
  obtain ⟨n, tr, hb, h1⟩ := blkK_some h1
  obtain ⟨hlt, h1⟩ := ifK_and h1
  obtain ⟨av, hav, h1⟩ := getK_some h1
  have hlt := blt_of hlt
  refine ⟨av, h1, fun ρ e w he hh hI => ?_⟩
  rw [ho] at hh
  have hv := h2 ρ e he hh
  simp only [VR] at hv
  obtain ⟨L, hL, hv⟩ := hv
  obtain ⟨v, hc, hr, _⟩ := (hI.blk hb hL).cell hlt hav
  exact ⟨v, hr, by simp [execOp, ho, Instr.loadAt, Instr.sureAddr, hv, loadVar, hg, hc]⟩
theorem run_loadCells {w : World} (b p : Nat) (xs : List Value) (hc : ∀ j, j < xs.length → w.cell? ⟨b, p + j, none⟩ = xs[j]?) : (loadCells ⟨b, p, none⟩ xs.length).run P w = .ok xs.toArray w := by
  have key : ∀ (ys : List Value) (i : Nat) (acc : Array Value), (∀ j, j < ys.length → w.cell? ⟨b, p + (i + j), none⟩ = ys[j]?) → (loadCellsFrom ⟨b, p, none⟩ i ys.length acc).run P w = .ok (acc ++ ys.toArray) w := by
    intro ys
    induction ys with
    | nil => intro i acc _; simp [loadCellsFrom]
    | cons y ys ih =>
      intro i acc h
      have h0 := h 0 (by simp)
      simp only [Nat.add_zero, List.getElem?_cons_zero] at h0
      simp only [List.length_cons, loadCellsFrom, add_lit]
      rw [Sem.run_bind]
      have : (load ⟨b, p + i, none⟩).run P w = .ok y w := by simp [h0]
      rw [this, Result.andThen_ok, ih (i + 1) (acc.push y) (fun j hj => by have := h (j + 1) (by simpa using hj); rwa [show i + (j + 1) = i + 1 + j from by omega, List.getElem?_cons_succ] at this)]
      simp
  have := key xs 0 #[] (fun j hj => by rw [Nat.zero_add]; exact hc j hj)
  simpa [loadCells] using this
/-- The cells that a tree tells of, in the world. -/
theorem BlkAt.row {ρ : Nat → Option Loc} {w : World} {L : Loc} {n : Nat} {t : T AV} (h : BlkAt E ρ w L n t) {p m : Nat} {l : List AV} (hfit : p + m ≤ n) (hl : l.length = m) (hg : ∀ j, j < m → t.get (p + j) = l[j]?) :
    ∃ vs, VRs E ρ l vs ∧ (∀ v ∈ vs, v.oneCell' = true) ∧ ∀ j, j < vs.length → w.cell? ⟨L.b, L.o + p + j, none⟩ = vs[j]? := by
  have key : ∀ (m p : Nat) (l : List AV), p + m ≤ n → l.length = m → (∀ j, j < m → t.get (p + j) = l[j]?) → ∃ vs, VRs E ρ l vs ∧ (∀ v ∈ vs, v.oneCell' = true) ∧ ∀ j, j < vs.length → w.cell? ⟨L.b, L.o + p + j, none⟩ = vs[j]? := by
    intro m
    induction m with
    | zero => intro p l _ hl _; cases l with | nil => exact ⟨[], VRs.nil, fun _ h => (by cases h), fun j hj => by cases hj⟩ | cons _ _ => simp at hl
    | succ m ih =>
      intro p l hfit hl hg
      cases l with
      | nil => simp at hl
      | cons a l =>
        have h0 := hg 0 (by omega)
        simp only [Nat.add_zero, List.getElem?_cons_zero] at h0
        obtain ⟨v, hc, hr, h1⟩ := h.cell (j := p) (by omega) h0
        obtain ⟨vs, g1, g2, g3⟩ := ih (p + 1) l (by omega) (by simpa using hl) (fun j hj => by have := hg (j + 1) (by omega); rwa [show p + (j + 1) = p + 1 + j from by omega, List.getElem?_cons_succ] at this)
        refine ⟨v :: vs, VRs.cons hr g1, fun u hu => by cases hu with | head => exact h1 | tail _ hu => exact g2 u hu, fun j hj => ?_⟩
        cases j with
        | zero => simpa using hc
        | succ j => have := g3 j (by simpa using hj); rw [show L.o + p + (j + 1) = L.o + (p + 1) + j from by omega, this]; simp
  exact key m p l hfit hl hg
theorem ldn_ok {t : Nat} {it : TypeInfo} {x : Operand} {c : COpd} (ho : o.op = .load t x) (hg : ∀ w, (isAgg t).run P w = .ok true w) (hi : P.info? t = some it) (hx : OpdOk E x c) : ReadOk P E o (.ldn it.size c) := fun fr h k hk => by
  obtain ⟨a, h1, h2⟩ := hx fr (fun v => ptrK v fun i p => blkK h i fun n t => ifK (Nat.ble (Nat.add p it.size) n) (readK t it.size p fun l => k (.agg l)) false) hk
  replace h1 := ptrK_some h1
  obtain ⟨i, p, rfl, h1⟩ := h1
  obtain ⟨n, tr, hb, h1⟩ := blkK_some h1
  obtain ⟨hle, h1⟩ := ifK_and h1
  obtain ⟨l, hl, hlg, h1⟩ := readK_some h1
  have hle := ble_of hle
  refine ⟨_, h1, fun ρ e w he hh hI => ?_⟩
  rw [ho] at hh
  have hv := h2 ρ e he hh
  simp only [VR] at hv
  obtain ⟨L, hL, hv⟩ := hv
  obtain ⟨vs, g1, _, g3⟩ := (hI.blk hb hL).row hle hl hlg
  have hlen : vs.length = it.size := by rw [g1.length, hl]
  have hrun := run_loadCells (P := P) L.b (L.o + p) vs g3
  rw [hlen] at hrun
  refine ⟨.agg vs.toArray, ?_, ?_⟩
  · simp only [VR]; exact ⟨vs, g1, rfl⟩
  · simp [execOp, ho, Instr.loadAt, Instr.sureAddr, hv, loadVar, hg, run_sizeOf hi, hrun]
theorem atom1K_some {v : AV} {k : Nat → Bool} (h : atom1K v k = true) : ∃ m, k m = true ∧ ∀ ρ u, VR E ρ v u → u = .int .u8 (E.byte m).toNat := by
  replace h := numK_some h
  rcases h with ⟨q, n, rfl, h⟩ | ⟨q, i, rfl, h⟩ | ⟨_, _, _, h⟩
  · replace h := ifK_and h
    obtain ⟨hk, h⟩ := h
    have := kindEq_of hk; subst this
    cases n with
    | negSucc n => cases h
    | ofNat m =>
      replace h := ifK_and (t := k m) h
      obtain ⟨hlt, h⟩ := h
      have hlt := blt_of hlt
      refine ⟨m, h, fun ρ u hu => ?_⟩
      simp only [VR] at hu
      rw [hu, byte_num]
      simp [Env.num, hlt]
  · replace h := ifK_and h
    obtain ⟨hk, h⟩ := h
    have := kindEq_of hk; subst this
    rw [forceN_eq] at h
    refine ⟨_, h, fun ρ u hu => ?_⟩
    simp only [VR] at hu
    rw [hu, byte_num]
    have : ¬ (256 + i < 256) := by omega
    simp [Env.num, this]
  · cases h
theorem atomsK_some : ∀ {l : List AV} {k : List Nat → Bool}, atomsK l k = true → ∃ s, k s = true ∧ ∀ ρ vs, VRs E ρ l vs → vs = s.map fun m => Value.int .u8 (E.byte m).toNat
  | [], _, h => ⟨[], h, fun ρ vs hv => by simpa [VRs] using hv⟩
  | v :: l, k, h => by
    obtain ⟨m, h, h1⟩ := atom1K_some (E := E) (v := v) (k := fun a => atomsK l fun r => k (a :: r)) h
    obtain ⟨s, h, h2⟩ := atomsK_some (l := l) h
    refine ⟨_, h, fun ρ vs hv => ?_⟩
    simp only [VRs] at hv
    obtain ⟨u, r, hu, hr, rfl⟩ := hv
    rw [h1 ρ u hu, h2 ρ r hr]; rfl
theorem strOf_bytes (s : List Nat) : strOfNums (s.map fun m => ((E.byte m).toNat : Int)) = E.bytes s := by
  apply ByteArray.ext
  apply Array.ext'
  rw [strOfNums_data]
  simp [Env.bytes]
theorem b2s_ok {src dst e : Nat} {x : Operand} {c : COpd} (ho : o.op = .convert src dst x) (hs : P.underlying src = some (.slice e)) (he' : P.underlying e = some (.int .u8)) (hd : P.underlying dst = some .string) (hx : OpdOk E x c) : ReadOk P E o (.b2s c) := fun fr h k hk => by
  obtain ⟨a, h1, h2⟩ := hx fr (fun v => slK v (fun i p n _ _ _ => blkK h i fun m t => ifK (Nat.ble (Nat.add p n) m) (readK t n p fun l => atomsK l fun s => k (.str s)) false) (k (.str [])) (k (.str []))) hk
  have em : k (.str []) = true → (∀ ρ v, VR E ρ a v → ∃ b c, v = .slice b 0 c) → ∃ r, k r = true ∧ ReadT P E o fr h.get r := fun hk hv => by
    refine ⟨_, hk, fun ρ e w he hh hI => ⟨.string (E.bytes []), by simp only [VR], ?_⟩⟩
    rw [ho] at hh
    obtain ⟨b, cc, hv⟩ := hv ρ _ (h2 ρ e he hh)
    cases b with
    | none => simp [execOp, ho, hv, convert, run_underlying hs, run_underlying hd, run_underlying he', Conv.bytesToString]; rfl
    | some ad =>
      have := run_bytesToString (P := P) w ad 0 cc [] (by simp [loadCells, loadCellsFrom])
      simp [execOp, ho, hv, run_convert_bytes_string w src dst _ (some ad) 0 cc hs he' hd, this]; rfl
  replace h1 := slK_some h1
  rcases h1 with ⟨i, p, n, cc, ex, es', rfl, h1⟩ | ⟨rfl, h1⟩ | ⟨rfl, h1⟩
  · replace h1 := blkK_some h1
    obtain ⟨N, tr, hb, h1⟩ := h1
    obtain ⟨hle, h1⟩ := ifK_and h1
    replace h1 := readK_some h1
    obtain ⟨l, hl, hlg, h1⟩ := h1
    obtain ⟨s, h1, hs1⟩ := atomsK_some (E := E) h1
    have hle := ble_of hle
    refine ⟨_, h1, fun ρ e w he hh hI => ⟨.string (E.bytes s), by simp only [VR], ?_⟩⟩
    rw [ho] at hh
    have hv := h2 ρ e he hh
    simp only [VR] at hv
    obtain ⟨L, q, hL, hv, _⟩ := hv
    obtain ⟨vs, g1, _, g3⟩ := (hI.blk hb hL).row hle hl hlg
    have hvs := hs1 ρ vs g1
    have hlen : vs.length = n := by rw [g1.length, hl]
    have hsl : s.length = n := by rw [← hlen, hvs]; simp
    have := run_convert_bytes_arg (P := P) w src _ hs he' L.b (L.o + p) n q (s.map fun m => ((E.byte m).toNat : Int)) (by simpa using hsl) (fun j hj => by
      rw [g3 j (by omega), hvs]
      have hj' : j < s.length := by omega
      simp [List.getD, hj']) dst hd
    rw [strOf_bytes] at this
    simp [execOp, ho, hv, this]
  · exact em h1 fun ρ v hv => by simp only [VR] at hv; exact ⟨_, _, hv⟩
  · exact em h1 fun ρ v hv => by simp only [VR] at hv; exact hv
end

/-! ### Unsafe pointers -/
section
variable {P : Program} {E : Env} {F : Facts} {o : Oper}
theorem tou_ok {s d t : Nat} {j : TypeInfo} {x : Operand} {c : COpd} (ho : o.op = .convert s d x) (hs : P.underlying s = some (.pointer t)) (hd : P.underlying d = some .unsafePointer) (ht : P.info? t = some j) (hj : 0 < j.size) (hx : OpdOk E x c) : ReadOk P E o (.tou c) := fun fr h k hk => by
  obtain ⟨a, h1, h2⟩ := hx fr (fun v => ptrK v fun i p => blkK h i fun n _ => ifK (Nat.blt p n) (k (.ptr i p)) false) hk
  replace h1 := ptrK_some h1
  obtain ⟨i, p, rfl, h1⟩ := h1
  replace h1 := blkK_some h1
  obtain ⟨n, tr, hb, h1⟩ := h1
  replace h1 := ifK_and h1
  obtain ⟨hlt, h1⟩ := h1
  have hlt := blt_of hlt
  refine ⟨_, h1, fun ρ e w he hh hI => ?_⟩
  rw [ho] at hh
  have hv := h2 ρ e he hh
  have hv' := hv
  simp only [VR] at hv
  obtain ⟨L, hL, hv⟩ := hv
  have hB := hI.blk hb hL
  have hbd := hB.bound hlt
  obtain ⟨cs, el, z, b1, _, b3, _⟩ := hB
  have hsh : w.shape? L.b = some (el, cs.size) := by unfold World.shape?; rw [b1]
  have := Lib.run_to_unsafe (P := P) w (src := s) (dst := d) ⟨L.b, L.o + p, none⟩ hs hd ht (by omega) hsh (by show L.o + p < cs.size; omega)
  exact ⟨_, hv', by simp [execOp, ho, hv, this]⟩
theorem lies_self {e count : Nat} (h0 : P.cellsOf e ≠ 0) (hc : 1 ≤ count) : liesAt P P.depth e count 0 e 1 = true := by
  have hd : P.depth = (2 * (P.types.size + Made.depth) + 1) + 1 := rfl
  rw [hd]
  simp only [liesAt, Bool.or_eq_true]
  left
  rw [hd]
  simp [rowAt, h0, hc, sameLayout]
theorem fru_ok {s d u m : Nat} {j : TypeInfo} {x : Operand} {c : COpd} (ho : o.op = .convert s d x) (hs : P.underlying s = some .unsafePointer) (hd : P.underlying d = some (.pointer u)) (hu : P.info? u = some j) (hm : P.cellsOf u = m) (hm0 : 0 < m) (hx : OpdOk E x c) : ReadOk P E o (.fru u m c) := fun fr h k hk => by
  obtain ⟨a, h1, h2⟩ := hx fr (fun v => ptrK v fun i p => ifK (Nat.beq p 0) (blkK h i fun n t => ifK (Nat.ble m n) (tyPK t n fun ty' => ifK (Nat.beq ty' u) (k (.ptr i 0)) false) false) false) hk
  replace h1 := ptrK_some h1
  obtain ⟨i, p, rfl, h1⟩ := h1
  replace h1 := ifK_and h1
  obtain ⟨hp, h1⟩ := h1
  have := beq_of hp; subst this
  replace h1 := blkK_some h1
  obtain ⟨n, tr, hb, h1⟩ := h1
  replace h1 := ifK_and h1
  obtain ⟨hle, h1⟩ := h1
  have hle := ble_of hle
  replace h1 := tyPK_some h1
  obtain ⟨ty', q', hty, h1⟩ := h1
  replace h1 := ifK_and h1
  obtain ⟨hu', h1⟩ := h1
  have := beq_of hu'; subst this
  refine ⟨_, h1, fun ρ e w he hh hI => ?_⟩
  rw [ho] at hh
  have hv := h2 ρ e he hh
  have hv' := hv
  simp only [VR] at hv
  obtain ⟨L, hL, hv⟩ := hv
  have hB := hI.blk hb hL
  have hbd := hB.bound (j := n - 1) (by omega)
  obtain ⟨cs, el, z, b1, _, b3, _, b5⟩ := hB
  obtain ⟨rfl, hLo, _, _⟩ := b5.2.1 _ _ hty
  rw [hLo] at hv hbd
  have hsh : w.shape? L.b = some (el, cs.size) := by unfold World.shape?; rw [b1]
  have h1c : 1 ≤ cs.size / P.cellsOf el := by rw [hm]; exact (Nat.one_le_div_iff hm0).2 (by omega)
  have := Lib.run_from_unsafe (P := P) w (src := s) (dst := d) ⟨L.b, 0 + 0, none⟩ hs hd hu hsh (lies_self (by omega) h1c)
  exact ⟨_, hv', by simp [execOp, ho, hv] at this ⊢; simp [this]⟩
end

/-! ### New blocks -/
inductive AF where
  | ptr
  /-- whose block's type is kept in mind -/
  | pty (ty : Nat)
  | sl (n c : Nat) (ex : Bool) (es : Nat)
noncomputable def afAV (f : AF) (i : Nat) : AV := @AF.rec (fun _ => AV) (.ptr i 0) (fun _ => .ptr i 0) (fun n c ex es => .sl i 0 n c ex es) f
noncomputable def afKey (f : AF) : Option AV := @AF.rec (fun _ => Option AV) none (fun ty => some (.ptr ty 0)) (fun _ _ _ _ => none) f
inductive AOp where
  | new (zs : List AV)
  | box (ty : Nat) (x : COpd)
  | bsl (n es : Nat) (zs : List AV) (ps : List (Nat × Nat × COpd))
  | mksl (by_ es : Nat) (zs : List AV) (l c : COpd)
  | s2b (x : COpd)
  | newt (ty : Nat) (zs : List AV)
noncomputable def ones1K (l : List AV) (k : Bool) : Bool := @List.rec AV (fun _ => Bool) k (fun x _ ih => one1K x ih) l
noncomputable def repK (zs : List AV) (n : Nat) : (List AV → Bool) → Bool := @Nat.rec (fun _ => (List AV → Bool) → Bool) (fun k => k []) (fun _ ih k => ih fun r => appK zs r k) n
noncomputable def atomAVs (s : List Nat) : (List AV → Bool) → Bool := @List.rec Nat (fun _ => (List AV → Bool) → Bool) (fun k => k []) (fun n _ ih k => atomK n fun v => ih fun r => k (v :: r)) s
noncomputable def aNew (zs : List AV) (_ : T AV) (k : AF → List AV → Bool) : Bool := k .ptr zs
noncomputable def aNewt (ty : Nat) (zs : List AV) (_ : T AV) (k : AF → List AV → Bool) : Bool := k (.pty ty) zs
noncomputable def aBox (ty : Nat) (x : COpd) (fr : T AV) (k : AF → List AV → Bool) : Bool := opdK fr (fun v => cellsK v fun cs => ones1K cs (k (.pty ty) cs)) x
noncomputable def aBsl (n es : Nat) (zs : List AV) (ps : List (Nat × Nat × COpd)) (fr : T AV) (k : AF → List AV → Bool) : Bool := fillK fr ps zs fun cs => ones1K cs (k (.sl n n true es) cs)
noncomputable def aMksl (by_ es : Nat) (zs : List AV) (l c : COpd) (fr : T AV) (k : AF → List AV → Bool) : Bool :=
  opd2 fr l c fun a b => natK a fun l => natK b fun c => ifK (Nat.ble l c) (ifK (Nat.ble (Nat.mul by_ c) 140737488355328) (ifK (Nat.ble c 1000000) (repK zs c fun cs => k (.sl l c true es) cs) false) false) false
noncomputable def aS2b (x : COpd) (fr : T AV) (k : AF → List AV → Bool) : Bool := opdK fr (fun v => strK v fun s => atomAVs s fun cs => lenK s 0 fun n => ifK (Nat.ble n 1000000) (k (.sl n n false 1) cs) false) x
noncomputable def allocOp (a : AOp) : T AV → (AF → List AV → Bool) → Bool := @AOp.rec (fun _ => T AV → (AF → List AV → Bool) → Bool) aNew aBox aBsl aMksl aS2b aNewt a

/-- The operation makes one block more, and yields where it lies. -/
def AllocT (P : Program) (E : Env) (o : Oper) (fr : T AV) (f : AF) (cs : List AV) : Prop :=
  ∀ ρ e w, Ev e → Holds E ρ fr e o.op.operands.toList → ∃ v w' c el z vs pl, (execOp e o).run P w = .ok (.value v) w' ∧ Pushed w w' (.cells c el z) ∧ (∀ k, k < c.size + pl → ¬ (z.1 ≤ k ∧ k < z.2)) ∧ VRs E ρ cs vs ∧ (∀ u ∈ vs, u.oneCell' = true) ∧
    (∀ j, j < vs.length → c[j]? = vs[j]?) ∧ (∀ ρ' i, ρ' i = some ⟨w.heap.size, 0, c.size, pl⟩ → VR E ρ' (afAV f i) v) ∧ TyAt E (afKey f) cs.length 0 c.size c el z
def AllocOk (P : Program) (E : Env) (o : Oper) (p : AOp) : Prop := ∀ fr k, allocOp p fr k = true → ∃ f cs, k f cs = true ∧ AllocT P E o fr f cs

section
variable {P : Program} {E : Env} {F : Facts} {o : Oper}
theorem ones1K_some {k : Bool} : ∀ {l : List AV}, ones1K l k = true → k = true ∧ ∀ a ∈ l, one1 a = true
  | [], h => ⟨h, fun _ h => (by cases h)⟩
  | x :: l, h => by
    replace h := one1K_some (x := x) (k := ones1K l k) h
    obtain ⟨h1, h⟩ := h
    obtain ⟨h2, h3⟩ := ones1K_some h
    exact ⟨h2, fun y hy => by cases hy with | head => exact h1 | tail _ hy => exact h3 y hy⟩
theorem ones_of {ρ : Nat → Option Loc} : ∀ {l : List AV} {vs : List Value}, VRs E ρ l vs → (∀ a ∈ l, one1 a = true) → ∀ v ∈ vs, v.oneCell' = true
  | [], _, h, _, v, hv => by simp only [VRs] at h; subst h; cases hv
  | a :: l, _, h, h1, v, hv => by
    simp only [VRs] at h
    obtain ⟨u, r, hu, hr, rfl⟩ := h
    cases hv with
    | head => exact one1_of hu (h1 a List.mem_cons_self)
    | tail _ hv => exact ones_of hr (fun a ha => h1 a (List.mem_cons_of_mem _ ha)) v hv
/-- A block that is just these cells. -/
theorem AllocT.of {fr : T AV} {f : AF} {cs : List AV} (h : ∀ ρ e w, Ev e → Holds E ρ fr e o.op.operands.toList → ∃ v el vs, (execOp e o).run P w = .ok (.value v) (w.alloc (.cells (Array.mk vs) el)) ∧ VRs E ρ cs vs ∧ (∀ u ∈ vs, u.oneCell' = true) ∧
    ∀ ρ' i, ρ' i = some ⟨w.heap.size, 0, vs.length, 1⟩ → VR E ρ' (afAV f i) v) (hf : afKey f = none := by rfl) : AllocT P E o fr f cs := fun ρ e w he hh => by
  obtain ⟨v, el, vs, h1, h2, h3, h4⟩ := h ρ e w he hh
  exact ⟨v, _, Array.mk vs, el, (0, 0), vs, 1, h1, Pushed.alloc _ _, fun k _ hk => by omega, h2, h3, fun j _ => by simp, fun ρ' i hi => h4 ρ' i (by simpa using hi), TyAt.of hf⟩
theorem vr_ptr {ρ' : Nat → Option Loc} {i b n pl : Nat} (h : ρ' i = some ⟨b, 0, n, pl⟩) : VR E ρ' (afAV .ptr i) (.pointer (some ⟨b, 0, none⟩)) := by
  show VR E ρ' (.ptr i 0) _
  simp only [VR]; exact ⟨_, h, rfl⟩
theorem new_ok {t : Nat} {it : TypeInfo} {z : Value} {zs : List AV} (ho : o.op = .alloc t) (hi : P.info? t = some it) (hz : it.zero = some z) (hzs : ∀ ρ, VRs E ρ zs z.cells.toList) (h1 : ∀ u ∈ z.cells.toList, u.oneCell' = true) : AllocOk P E o (.new zs) := fun fr k h =>
  ⟨.ptr, zs, h, .of fun ρ e w _ _ => ⟨_, t, z.cells.toList, by simp [execOp, ho, Instr.alloc, zeroValue, typeInfo, hi, hz, newVar, newRow], hzs ρ, h1, fun ρ' i hi => vr_ptr hi⟩⟩
theorem newt_ok {t : Nat} {it : TypeInfo} {z : Value} {zs : List AV} (ho : o.op = .alloc t) (hi : P.info? t = some it) (hz : it.zero = some z) (hzs : ∀ ρ, VRs E ρ zs z.cells.toList) (h1 : ∀ u ∈ z.cells.toList, u.oneCell' = true) : AllocOk P E o (.newt t zs) := fun fr k h =>
  ⟨.pty t, zs, h, fun ρ e w _ _ => ⟨_, _, Array.mk z.cells.toList, t, (0, 0), z.cells.toList, 1, by simp [execOp, ho, Instr.alloc, zeroValue, typeInfo, hi, hz, newVar, newRow], Pushed.alloc _ _, fun k _ hk => by omega, hzs ρ, h1, fun j _ => by simp,
    fun ρ' i hi => vr_ptr hi, TyAt.ptr (by simpa using (hzs ρ).length)⟩⟩
theorem box_ok {t : Nat} {x : Operand} {c : COpd} (ho : o.op = .box t x) (hx : OpdOk E x c) : AllocOk P E o (.box t c) := fun fr k h => by
  obtain ⟨a, h1, h2⟩ := hx fr (fun v => cellsK v fun cs => ones1K cs (k (.pty t) cs)) h
  have ⟨cs, h3, hcs⟩ : ∃ cs, ones1K cs (k (.pty t) cs) = true ∧ ∀ ρ v, VR E ρ a v → VRs E ρ cs v.cells.toList := by
    replace h1 := cellsK_some h1
    rcases h1 with ⟨l, rfl, h1⟩ | ⟨h0, h1⟩
    · exact ⟨l, h1, fun ρ v hv => by simp only [VR] at hv; obtain ⟨vs, hvs, rfl⟩ := hv; simpa [Value.cells] using hvs⟩
    · refine ⟨[a], h1, fun ρ v hv => ?_⟩
      have ho := one1_of hv h0
      have : v.cells = #[v] := by cases v <;> first | rfl | cases ho
      rw [this]
      exact VRs.cons hv VRs.nil
  obtain ⟨h3, h4⟩ := ones1K_some h3
  refine ⟨_, _, h3, fun ρ e w he hh => ?_⟩
  rw [ho] at hh
  have hv := hcs ρ _ (h2 ρ e he hh)
  exact ⟨_, _, Array.mk (e x).cells.toList, t, (0, 0), (e x).cells.toList, 1, by simp [execOp, ho, Instr.box, newVar, newRow], Pushed.alloc _ _, fun k _ hk => by omega, hv, ones_of hv h4, fun j _ => by simp,
    fun ρ' i hi => vr_ptr hi, TyAt.ptr (by simpa using hv.length)⟩
theorem bsl_ok {t el n : Nat} {ie : TypeInfo} {z : Value} {ps : Array (Nat × Operand)} {zs : List AV} {cs : List (Nat × Nat × COpd)} (ho : o.op = .buildSlice t n ps) (ht : P.underlying t = some (.slice el)) (hi : P.info? el = some ie) (hz : ie.zero = some z)
    (hsmall : n * ie.size ≤ 100000) (hpos : n * ie.size ≠ 0) (hzs : ∀ ρ, VRs E ρ zs (madeCells z.cells (n * ie.size)).toList) (hp : PartsOk E (fun i => some (i * ie.size, ie.size)) ps.toList cs) : AllocOk P E o (.bsl n ie.size zs cs) := fun fr k h => by
  obtain ⟨l, h1, hlen, h2⟩ := fillK_some hp (k := fun cs => ones1K cs (k (.sl n n true ie.size) cs)) h
  obtain ⟨h3, h4⟩ := ones1K_some h1
  refine ⟨_, _, h3, .of fun ρ e w he hh => ?_⟩
  rw [ho] at hh
  obtain ⟨lv, g1, g2⟩ := h2 ρ e he (hh.sub (by simp [Op.operands])) (madeCells z.cells (n * ie.size)) (hzs ρ)
  have e1 := (hzs ρ).length
  have e2 := g1.length
  rw [Array.length_toList, size_madeCells] at e1
  have hrun := run_buildSlice (P := P) w t el n (ps.map fun (i, x) => (i, e x)) lv ie z ht hi hz (by omega) hpos (by simpa [madeCells] using g2)
  refine ⟨.slice (some ⟨w.heap.size, 0, none⟩) n n, el, lv.toList, by simp [execOp, ho, hrun], g1, ones_of g1 h4, fun ρ' i hi => ?_⟩
  show VR E ρ' (.sl i 0 n n true ie.size) _
  simp only [VR]
  exact ⟨_, n, hi, rfl, Nat.le_refl _, fun _ => rfl, by show 0 + 0 + n * ie.size ≤ lv.toList.length; omega, fun _ => rfl, by have := Nat.le_mul_of_pos_right n (Nat.pos_of_ne_zero fun e => hpos (by rw [e]; rfl) : 0 < ie.size); unfold maxLen; omega, fun h => (by cases h)⟩
theorem repK_some {zs : List AV} : ∀ {n : Nat} {k : List AV → Bool}, repK zs n k = true → k (List.replicate n zs).flatten = true
  | 0, k, h => (show k [] = true from h)
  | n + 1, k, h => by
    have h := repK_some (zs := zs) (n := n) (k := fun r => appK zs r k) h
    rw [appK_eq] at h
    simpa [List.replicate_succ] using h
theorem madeCells_rep (z : Array Value) (hz : 0 < z.size) : ∀ n, (madeCells z (n * z.size)).toList = (List.replicate n z.toList).flatten := by
  intro n
  apply List.ext_getElem
  · simp [madeCells]
  · intro j h1 h2
    simp only [madeCells, Array.toList_map, Array.toList_range, List.getElem_map, List.getElem_range]
    have hj : j < n * z.size := by simpa [madeCells] using h1
    have hlt : j % z.size < z.size := Nat.mod_lt _ hz
    have key : ∀ (n j : Nat), j < n * z.size → (List.replicate n z.toList).flatten[j]? = z.toList[j % z.size]? := by
      intro n
      induction n with
      | zero => intro j hj; omega
      | succ n ih =>
        intro j hj
        rw [List.replicate_succ, List.flatten_cons]
        by_cases h : j < z.size
        · rw [List.getElem?_append_left (by simpa using h), Nat.mod_eq_of_lt h]
        · rw [List.getElem?_append_right (by simp; omega), Array.length_toList, ih _ (by rw [Nat.add_mul] at hj; omega)]
          congr 1
          exact (Nat.mod_eq_sub_mod (by omega)).symm
    have := key n j hj
    rw [List.getElem?_eq_getElem h2] at this
    have h3 : z.toList[j % z.size]? = some z[j % z.size] := by simp [hlt]
    rw [h3] at this
    rw [Option.some.inj this]
    simp [hlt]
theorem VRs.rep {ρ : Nat → Option Loc} {zs : List AV} {vs : List Value} (h : VRs E ρ zs vs) : ∀ n, VRs E ρ (List.replicate n zs).flatten (List.replicate n vs).flatten
  | 0 => by simpa using VRs.nil
  | n + 1 => by rw [List.replicate_succ, List.replicate_succ, List.flatten_cons, List.flatten_cons]; exact h.append (VRs.rep h n)
theorem mksl_ok {t el : Nat} {ie : TypeInfo} {z : Value} {x y : Operand} {zs : List AV} {c d : COpd} (ho : o.op = .makeSlice t x y) (ht : P.underlying t = some (.slice el)) (hi : P.info? el = some ie) (hz : ie.zero = some z) (hzs : ∀ ρ, VRs E ρ zs z.cells.toList) (h1 : ∀ u ∈ z.cells.toList, u.oneCell' = true)
    (hsz : z.cells.size = ie.size) (hpos : 0 < ie.size) (hx : OpdOk E x c) (hy : OpdOk E y d) : AllocOk P E o (.mksl ie.bytes ie.size zs c d) := fun fr k h => by
  obtain ⟨a, b, h3, h2⟩ := opd2_some hx hy (k := fun a b => natK a fun l => natK b fun c => ifK (Nat.ble l c) (ifK (Nat.ble (Nat.mul ie.bytes c) 140737488355328) (ifK (Nat.ble c 1000000) (repK zs c fun cs => k (.sl l c true ie.size) cs) false) false) false) h
  obtain ⟨l, h3, hl⟩ := natK_some (E := E) h3
  obtain ⟨m, h3, hm⟩ := natK_some (E := E) h3
  obtain ⟨b1, h3⟩ := ifK_and h3
  obtain ⟨b2, h3⟩ := ifK_and h3
  obtain ⟨b3, h3⟩ := ifK_and h3
  have b1 := ble_of b1
  have b2 := ble_of b2
  have b3 := ble_of b3
  have h3 := repK_some h3
  refine ⟨_, _, h3, .of fun ρ e w he hh => ?_⟩
  rw [ho] at hh
  obtain ⟨hv, hu⟩ := h2 ρ e he (hh.sub (by simp [Op.operands]))
  obtain ⟨q1, hq1⟩ := hl ρ _ hv
  obtain ⟨q2, hq2⟩ := hm ρ _ hu
  have hb : (ie.bytes : Int) * (m : Int) ≤ 281474976710656 := by
    have h0 : ((ie.bytes * m : Nat) : Int) ≤ ((140737488355328 : Nat) : Int) := Int.ofNat_le.2 b2
    rw [Int.natCast_mul] at h0
    omega
  have hrun := run_make (P := P) w t el ie z ht hi hz q1 q2 (l : Int) (m : Int) (by omega) (by omega) hb (by omega)
  simp only [Int.toNat_natCast] at hrun
  have hmk : (madeCells z.cells (m * ie.size)).toList = (List.replicate m z.cells.toList).flatten := by rw [← hsz]; exact madeCells_rep z.cells (by omega) m
  refine ⟨.slice (some ⟨w.heap.size, 0, none⟩) l m, el, (madeCells z.cells (m * ie.size)).toList, by simp [execOp, ho, hq1, hq2, hrun], by rw [hmk]; exact (hzs ρ).rep m, ?_, fun ρ' i hi => ?_⟩
  · intro u hu
    rw [hmk] at hu
    obtain ⟨r, hr, hu⟩ := List.mem_flatten.1 hu
    rw [(List.mem_replicate.1 hr).2] at hu
    exact h1 u hu
  · show VR E ρ' (.sl i 0 l m true ie.size) _
    simp only [VR]
    exact ⟨_, m, hi, rfl, Nat.le_refl _, fun _ => rfl, by show 0 + 0 + m * ie.size ≤ (madeCells z.cells (m * ie.size)).toList.length; rw [Array.length_toList, size_madeCells]; omega, fun _ => rfl, by unfold maxLen; omega, fun h => (by cases h)⟩
theorem atomAVs_some : ∀ {s : List Nat} {k : List AV → Bool}, atomAVs s k = true → ∃ cs, k cs = true ∧ ∀ ρ, VRs E ρ cs (s.map fun m => Value.int .u8 (E.byte m).toNat)
  | [], _, h => ⟨[], h, fun ρ => VRs.nil⟩
  | n :: s, k, h => by
    obtain ⟨a, h, ha⟩ := atomK_some (E := E) (n := n) (k := fun v => atomAVs s fun r => k (v :: r)) h
    obtain ⟨cs, h, hc⟩ := atomAVs_some (s := s) h
    exact ⟨_, h, fun ρ => VRs.cons (ha ρ) (hc ρ)⟩
theorem s2b_ok {src dst el : Nat} {x : Operand} {c : COpd} (ho : o.op = .convert src dst x) (hs : P.underlying src = some .string) (hd : P.underlying dst = some (.slice el)) (he' : P.underlying el = some (.int .u8)) (hx : OpdOk E x c) : AllocOk P E o (.s2b c) := fun fr k h => by
  obtain ⟨a, h1, h2⟩ := hx fr (fun v => strK v fun s => atomAVs s fun cs => lenK s 0 fun n => ifK (Nat.ble n 1000000) (k (.sl n n false 1) cs) false) h
  replace h1 := strK_some h1
  obtain ⟨s, rfl, h1⟩ := h1
  obtain ⟨cs, h1, hc⟩ := atomAVs_some (E := E) h1
  rw [lenK_eq] at h1
  replace h1 := ifK_and h1
  obtain ⟨hsl, h1⟩ := h1
  have hsl := ble_of hsl
  rw [Nat.zero_add] at hsl
  refine ⟨_, _, h1, fun ρ e w he hh => ?_⟩
  rw [ho] at hh
  have hv := h2 ρ e he hh
  simp only [VR] at hv
  have hrun := Lib.run_convert_string_bytes (P := P) w src dst el (E.bytes s) hs hd he'
  rw [bytes_size] at hrun
  refine ⟨.slice (some ⟨w.heap.size, 0, none⟩) s.length (grownCap w s.length 0 el), Lib.bytesWorld w el (E.bytes s), Lib.bytesCells w el (E.bytes s), el, ((Lib.bytesCells w el (E.bytes s)).size, (Lib.bytesCells w el (E.bytes s)).size + 1), _, 0, by simp only [execOp, ho, hv, Sem.run_bind, hrun]; rfl, ⟨?_, rfl, rfl, rfl⟩, fun k hk hz => by have := hz.1; omega, hc ρ, ?_, ?_, fun ρ' i hi => ?_, TyAt.none⟩
  · apply Array.ext
    · rw [Lib.bytesWorld_size]; simp
    · intro j h1 h2
      rw [Lib.bytesWorld_size] at h1
      have e1 : (Lib.bytesWorld w el (E.bytes s)).heap[j]? = (w.heap.push (.cells (Lib.bytesCells w el (E.bytes s)) el ((Lib.bytesCells w el (E.bytes s)).size, (Lib.bytesCells w el (E.bytes s)).size + 1)))[j]? := by
        by_cases hj : j < w.heap.size
        · rw [Lib.bytesWorld_at_old w el _ j hj, Array.getElem?_push, if_neg (by omega)]
        · rw [show j = w.heap.size from by omega, Lib.bytesWorld_at_new]; simp
      rw [Array.getElem?_eq_getElem (by rw [Lib.bytesWorld_size]; exact h1), Array.getElem?_eq_getElem h2] at e1
      exact Option.some.inj e1
  · intro u hu
    obtain ⟨m, _, rfl⟩ := List.mem_map.1 hu
    rfl
  · intro j hj
    simp only [List.length_map] at hj
    simp [Lib.bytesCells, Env.bytes, Array.getElem?_append, hj]
  · show VR E ρ' (.sl i 0 (0 + s.length) (0 + s.length) false 1) _
    simp only [VR]
    have hge := grownCap_ge w s.length 0 el
    refine ⟨_, grownCap w s.length 0 el, hi, by simp, by omega, fun h => (by cases h), ?_, fun h => absurd rfl h, grownCap_le_maxLen w s.length 0 el (by unfold maxLen; omega), fun _ => ?_⟩
    · show 0 + 0 + grownCap w s.length 0 el * 1 ≤ (Lib.bytesCells w el (E.bytes s)).size
      simp [Lib.bytesCells, bytes_size, Env.bytes, ByteArray.size]
      omega
    · show 0 + 0 + grownCap w s.length 0 el * 1 = (Lib.bytesCells w el (E.bytes s)).size
      simp [Lib.bytesCells, bytes_size, Env.bytes, ByteArray.size]
      omega
end
end Go.Proofs.YtdnahdcjnahfkaaGreatDoor.Ev
