/- The evaluator: operations that look at no memory, the rest of them. It speaks of any program; nothing of the claim's own program stands here. -/
import Derived.Test.YtfgmmabggjjhgaaGreatDoorEvO
import Derived.Laws.Tables
set_option linter.unusedVariables false
set_option linter.unusedSimpArgs false
namespace Go.Proofs.YtfgmmabggjjhgaaGreatDoor.Ev
open Go

inductive POp where
  | mv (x : COpd)
  | pick (c a b : COpd)
  | build (zs : List AV) (ps : List (Nat × Nat × COpd))
  | nilck (x : COpd)
  | ib (op : BinOp) (x y : COpd)
  | tb (op : BinOp) (x y : COpd)
  | eqp (n : Nat) (neg : Bool) (x y : COpd)
  | eqn (n : Nat) (neg : Bool) (x y : COpd)
  | eqs (l : List (Nat × Nat)) (neg : Bool) (x y : COpd)
  | not (x : COpd)
  | neg (x : COpd)
  | conv (k : IntKind) (x : COpd)
  | mkif (t : Nat) (x : COpd)
  | mkfn (f : Fn) (a b : List COpd)
  | slcs (x : COpd) (lo hi : Option COpd)
  | slc (es : Nat) (x : COpd) (lo hi mx : Option COpd)
  | faddr (o : Nat) (x : COpd)
  | fld (o n : Nat) (ag : Bool) (x : COpd)
  | iaddr (es : Nat) (x i : COpd)
  | iaddra (n es : Nat) (x i : COpd)
  | idxs (x i : COpd)
  | ext (i : Nat) (x : COpd)
  | tass (t : Nat) (z : AV) (ok : Bool) (x : COpd)
  | lenv (st : Bool) (x : COpd)
  | lenc (n : Nat)
  | capv (x : COpd)
  | mm (mx : Bool) (x y : COpd)
  | tassi (g : Nat → (Bool → Bool) → Bool) (z : AV) (x : COpd)
  | eqi (neg : Bool) (g : Nat → (IntKind → Bool) → Bool) (x y : COpd)
  | eqpp (neg : Bool) (x y : COpd)
  | sdata (x : COpd)

/-! ### what they do -/
noncomputable def opd2 (fr : T AV) (x y : COpd) (k : AV → AV → Bool) : Bool := opdK fr (fun a => opdK fr (fun b => k a b) y) x
noncomputable def pMv (x : COpd) (fr : T AV) (k : AV → Bool) : Bool := opdK fr k x
noncomputable def pPick (c a b : COpd) (fr : T AV) (k : AV → Bool) : Bool := opdK fr (fun v => boolK v fun t => @Bool.rec (fun _ => Bool) (opdK fr k b) (opdK fr k a) t) c
noncomputable def spliceK (o n : Nat) (vs zs : List AV) (k : List AV → Bool) : Bool := takeK o zs fun a => dropK (Nat.add o n) zs fun b => appK vs b fun m => appK a m k
noncomputable def fillK (fr : T AV) (ps : List (Nat × Nat × COpd)) : List AV → (List AV → Bool) → Bool :=
  @List.rec (Nat × Nat × COpd) (fun _ => List AV → (List AV → Bool) → Bool) (fun zs k => k zs)
    (fun p _ ih zs k => opdK fr (fun v => cellsK v fun vs => lenK vs 0 fun n => ifK (Nat.beq n p.2.1) (spliceK p.1 n vs zs fun zs => ih zs k) false) p.2.2) ps
noncomputable def pBuild (zs : List AV) (ps : List (Nat × Nat × COpd)) (fr : T AV) (k : AV → Bool) : Bool := fillK fr ps zs fun l => k (.agg l)
noncomputable def pNilck (x : COpd) (fr : T AV) (k : AV → Bool) : Bool := opdK fr (fun v => solidK v (k v)) x
noncomputable def pIb (F : Facts) (op : BinOp) (x y : COpd) (fr : T AV) (k : AV → Bool) : Bool := opd2 fr x y fun a b => ibF F op a b k
noncomputable def pTb (op : BinOp) (x y : COpd) (fr : T AV) (k : AV → Bool) : Bool := opd2 fr x y fun a b => tbF op a b k
noncomputable def negK (neg : Bool) (b : Bool) (k : AV → Bool) : Bool := @Bool.rec (fun _ => Bool) (@Bool.rec (fun _ => Bool) (k (.bool false)) (k (.bool true)) b) (@Bool.rec (fun _ => Bool) (k (.bool true)) (k (.bool false)) b) neg
theorem negK_eq (neg b : Bool) (k : AV → Bool) : negK neg b k = k (.bool (if neg then !b else b)) := by cases neg <;> cases b <;> rfl
noncomputable def eqBool (x y : AV) (c : Bool → Bool) : Bool := boolK x fun a => boolK y fun b => @Bool.rec (fun _ => Bool) (@Bool.rec (fun _ => Bool) (c true) (c false) b) (@Bool.rec (fun _ => Bool) (c false) (c true) b) a
noncomputable def symE (n : Int) (c : Bool) : Bool := ifK (bltI n 97) c (ifK (bltI 122 n) c false)
noncomputable def eqNum (F : Facts) (x y : AV) (c : Bool → Bool) : Bool :=
  numK x (fun k a => numK y (fun k' b => ifK (kindEq k k') (forceB (beqI a b) c) false) (fun k' _ => ifK (kindEq k k') (symE a (c false)) false) (fun _ _ => false))
    (fun k i => numK y (fun k' b => ifK (kindEq k k') (symE b (c false)) false) (fun k' j => ifK (kindEq k k') (ifK (Nat.beq i j) (c true) (ifK F.apart (ifK (Nat.blt i 2) (ifK (Nat.blt j 2) (c false) false) false) false)) false) (fun _ _ => false)) (fun _ _ => false)
noncomputable def eqTxt (F : Facts) (x y : AV) (c : Bool → Bool) : Bool := str2K x y fun s t => eqS F.apart c s t
noncomputable def eqNone (_ _ : AV) (_ : Bool → Bool) : Bool := false
noncomputable def eqPrim (F : Facts) (n : Nat) : AV → AV → (Bool → Bool) → Bool := @Nat.rec (fun _ => AV → AV → (Bool → Bool) → Bool) eqBool (fun m _ => @Nat.rec (fun _ => AV → AV → (Bool → Bool) → Bool) (eqNum F) (fun m _ => @Nat.rec (fun _ => AV → AV → (Bool → Bool) → Bool) (eqTxt F) (fun _ _ => eqNone) m) m) n
noncomputable def pEqp (F : Facts) (n : Nat) (neg : Bool) (x y : COpd) (fr : T AV) (k : AV → Bool) : Bool := opd2 fr x y fun a b => eqPrim F n a b fun r => negK neg r k
noncomputable def nilB (n : Nat) (x : AV) (k : Bool → Bool) : Bool :=
  @AV.casesOn (fun _ => Bool) x (fun _ => false) (fun _ _ => false) (fun _ _ => false) (fun _ _ => false) (fun _ => false) (fun _ _ => ifK (Nat.beq n 3) (k false) false) (ifK (Nat.beq n 3) (k true) false) (fun _ => false) (fun _ _ _ _ _ _ => ifK (Nat.beq n 1) (k false) false) (ifK (Nat.beq n 1) (k true) false) false
    (fun _ _ _ => ifK (Nat.beq n 6) (k false) false) (ifK (Nat.beq n 6) (k true) false) (fun _ _ => ifK (Nat.beq n 5) (k false) false) (ifK (Nat.beq n 5) (k true) false) (fun _ => false) (fun _ => false) false (fun _ _ => false)
noncomputable def eqNil (n : Nat) (x y : AV) (c : Bool → Bool) : Bool := nilB n x fun a => nilB n y fun b => @Bool.rec (fun _ => Bool) (@Bool.rec (fun _ => Bool) false (c false) b) (@Bool.rec (fun _ => Bool) (c false) (c true) b) a
noncomputable def pEqn (n : Nat) (neg : Bool) (x y : COpd) (fr : T AV) (k : AV → Bool) : Bool := opd2 fr x y fun a b => eqNil n a b fun r => negK neg r k
/-- Where a difference is known already: texts need not be compared. -/
noncomputable def looseEq (F : Facts) (n : Nat) (a b : AV) (k : Bool) : Bool := ifK (Nat.beq n 2) (str2K a b fun _ _ => k) (eqPrim F n a b fun _ => k)
noncomputable def allEq (F : Facts) (xs ys : List AV) (c : Bool → Bool) (l : List (Nat × Nat)) : Bool → Bool :=
  @List.rec (Nat × Nat) (fun _ => Bool → Bool) (fun r => c r) (fun p _ ih r => nthK xs p.1 fun a => nthK ys p.1 fun b => @Bool.rec (fun _ => Bool) (looseEq F p.2 a b (ih false)) (eqPrim F p.2 a b fun q => ih q) r) l
noncomputable def pEqs (F : Facts) (l : List (Nat × Nat)) (neg : Bool) (x y : COpd) (fr : T AV) (k : AV → Bool) : Bool := opd2 fr x y fun a b => aggK a fun xs => aggK b fun ys => allEq F xs ys (fun r => forceB r fun r => negK neg r k) l true
noncomputable def pNot (x : COpd) (fr : T AV) (k : AV → Bool) : Bool := opdK fr (fun v => boolK v fun b => @Bool.rec (fun _ => Bool) (k (.bool true)) (k (.bool false)) b) x
noncomputable def pNeg (x : COpd) (fr : T AV) (k : AV → Bool) : Bool := opdK fr (fun v => intK v fun q n => wrapK q (Int.sub 0 n) fun r => k (.int q r)) x
noncomputable def wideN (k : IntKind) (y : Bool) : Bool := @IntKind.rec (fun _ => Bool) false y y y y y y y k
noncomputable def pConv (q : IntKind) (x : COpd) (fr : T AV) (k : AV → Bool) : Bool := opdK fr (fun v => numK v (fun _ n => wrapK q n fun r => k (.int q r)) (fun _ i => wideN q (k (.sym q i))) (fun _ i => wideN q (k (.opq q i)))) x
noncomputable def pMkif (t : Nat) (x : COpd) (fr : T AV) (k : AV → Bool) : Bool := opdK fr (fun v => k (.ifc t v)) x
noncomputable def pMkfn (f : Fn) (a b : List COpd) (fr : T AV) (k : AV → Bool) : Bool := opdsK fr a fun as => opdsK fr b fun bs => k (.fn f as bs)
/-- A bound that may be left out. -/
noncomputable def natK (x : AV) (k : Nat → Bool) : Bool := intK x fun _ n => @Int.rec (fun _ => Bool) (fun m => forceN m k) (fun _ => false) n
noncomputable def bndK (fr : T AV) (x : Option COpd) (d : Nat) (k : Nat → Bool) : Bool := @Option.rec COpd (fun _ => Bool) (k d) (fun c => opdK fr (fun v => natK v k) c) x
noncomputable def pSlcs (x : COpd) (lo hi : Option COpd) (fr : T AV) (k : AV → Bool) : Bool :=
  opdK fr (fun v => strK v fun s => lenK s 0 fun n => bndK fr lo 0 fun l => bndK fr hi n fun h => ifK (Nat.ble l h) (ifK (Nat.ble h n) (dropK l s fun r => takeK (Nat.sub h l) r fun r => k (.str r)) false) false) x
noncomputable def slcIn (es i o n c : Nat) (l h : Nat) (k : AV → Bool) (ex : Bool) : Bool :=
  ifK (Nat.ble l h) (ifK (Nat.ble h c)
    (ifK (Nat.beq l c) (@Bool.rec (fun _ => Bool) (k .empt) (forceN (Nat.sub h l) fun n' => k (.sl i o n' 0 true es)) ex)
      (forceN (Nat.add o (Nat.mul l es)) fun o' => forceN (Nat.sub h l) fun n' => forceN (Nat.sub c l) fun c' => k (.sl i o' n' c' ex es))) false) false
noncomputable def pSlc (es : Nat) (x : COpd) (lo hi mx : Option COpd) (fr : T AV) (k : AV → Bool) : Bool :=
  opdK fr (fun v => slK v (fun i o n c ex es' => ifK (Nat.beq es es') (bndK fr lo 0 fun l => bndK fr hi n fun h =>
      @Option.rec COpd (fun _ => Bool) (slcIn es i o n c l h k ex) (fun m => opdK fr (fun v => natK v fun m => ifK (Nat.ble m c) (slcIn es i o n m l h k true) false) m) mx) false)
    (bndK fr lo 0 fun l => bndK fr hi 0 fun h => bndK fr mx 0 fun m => ifK (Nat.beq l 0) (ifK (Nat.beq h 0) (ifK (Nat.beq m 0) (k .nils) false) false) false) false) x
noncomputable def pFaddr (o : Nat) (x : COpd) (fr : T AV) (k : AV → Bool) : Bool := opdK fr (fun v => ptrK v fun i p => forceN (Nat.add p o) fun p => k (.ptr i p)) x
noncomputable def pFld (o n : Nat) (ag : Bool) (x : COpd) (fr : T AV) (k : AV → Bool) : Bool :=
  opdK fr (fun v => aggK v fun l => @Bool.rec (fun _ => Bool) (nthK l o k) (dropK o l fun r => takeK n r fun r => k (.agg r)) ag) x
noncomputable def pIaddr (es : Nat) (x i : COpd) (fr : T AV) (k : AV → Bool) : Bool :=
  opd2 fr x i fun v j => slK v (fun i o n _ _ es' => ifK (Nat.beq es es') (natK j fun j => ifK (Nat.blt j n) (forceN (Nat.add o (Nat.mul j es)) fun p => k (.ptr i p)) false) false) false false
noncomputable def pIaddra (n es : Nat) (x i : COpd) (fr : T AV) (k : AV → Bool) : Bool :=
  opd2 fr x i fun v j => ptrK v fun i o => natK j fun j => ifK (Nat.blt j n) (forceN (Nat.add o (Nat.mul j es)) fun p => k (.ptr i p)) false
noncomputable def atomK (n : Nat) (k : AV → Bool) : Bool := ifK (Nat.blt n 256) (k (.int .u8 (Int.ofNat n))) (forceN (Nat.sub n 256) fun i => k (.sym .u8 i))
noncomputable def pIdxs (x i : COpd) (fr : T AV) (k : AV → Bool) : Bool := opd2 fr x i fun v j => strK v fun s => natK j fun j => nthK s j fun n => atomK n k
noncomputable def pExt (i : Nat) (x : COpd) (fr : T AV) (k : AV → Bool) : Bool := opdK fr (fun v => tupK v fun l => nthK l i k) x
noncomputable def pTass (t : Nat) (z : AV) (ok : Bool) (x : COpd) (fr : T AV) (k : AV → Bool) : Bool :=
  opdK fr (fun v => ifcK v (fun u y => ifK (Nat.beq u t) (@Bool.rec (fun _ => Bool) (k y) (k (.tup [y, .bool true])) ok) (@Bool.rec (fun _ => Bool) false (k (.tup [z, .bool false])) ok)) (@Bool.rec (fun _ => Bool) false (k (.tup [z, .bool false])) ok)) x
noncomputable def pLenv (st : Bool) (x : COpd) (fr : T AV) (k : AV → Bool) : Bool :=
  opdK fr (fun v => @Bool.rec (fun _ => Bool) (slK v (fun _ _ n _ _ _ => k (.int .i64 (Int.ofNat n))) (k (.int .i64 0)) (k (.int .i64 0))) (strK v fun s => lenK s 0 fun n => k (.int .i64 (Int.ofNat n))) st) x
noncomputable def pLenc (n : Nat) (_ : T AV) (k : AV → Bool) : Bool := k (.int .i64 (Int.ofNat n))
noncomputable def pCapv (x : COpd) (fr : T AV) (k : AV → Bool) : Bool := opdK fr (fun v => slK v (fun _ _ _ c ex _ => ifK ex (k (.int .i64 (Int.ofNat c))) (k (.atl .i64 c))) (k (.int .i64 0)) false) x
noncomputable def pMm (mx : Bool) (x y : COpd) (fr : T AV) (k : AV → Bool) : Bool := opd2 fr x y fun a b => int2K a b fun q m n => ifK (bltI m n) (@Bool.rec (fun _ => Bool) (k (.int q m)) (k (.int q n)) mx) (@Bool.rec (fun _ => Bool) (k (.int q n)) (k (.int q m)) mx)

/-- Of an interface to another one. -/
noncomputable def pTassi (g : Nat → (Bool → Bool) → Bool) (z : AV) (x : COpd) (fr : T AV) (k : AV → Bool) : Bool :=
  opdK fr (fun v => ifcK v (fun t u => g t fun b => @Bool.rec (fun _ => Bool) (k (.tup [z, .bool false])) (k (.tup [.ifc t u, .bool true])) b) (k (.tup [z, .bool false]))) x
/-- Two interfaces, at least one of them not nil; of one type: numbers. -/
noncomputable def eqIfc (g : Nat → (IntKind → Bool) → Bool) (x y : AV) (c : Bool → Bool) : Bool :=
  ifcK x (fun t u => ifcK y (fun t' u' => @Bool.rec (fun _ => Bool) (c false) (g t fun q => intK u fun q1 m => intK u' fun q2 m' => ifK (kindEq q1 q) (ifK (kindEq q2 q) (forceB (beqI m m') c) false) false) (Nat.beq t t')) (c false)) (ifcK y (fun _ _ => c false) false)
noncomputable def pEqi (neg : Bool) (g : Nat → (IntKind → Bool) → Bool) (x y : COpd) (fr : T AV) (k : AV → Bool) : Bool := opd2 fr x y fun a b => eqIfc g a b fun r => negK neg r k

/-- Two pointers, of which one is nil, or that are the same. -/
noncomputable def eqPtr (x y : AV) (c : Bool → Bool) : Bool :=
  nilB 3 x fun a => nilB 3 y fun b => @Bool.rec (fun _ => Bool) (@Bool.rec (fun _ => Bool) (ptrK x fun i o => ptrK y fun j p => ifK (Nat.beq i j) (ifK (Nat.beq o p) (c true) false) false) (c false) b) (@Bool.rec (fun _ => Bool) (c false) (c true) b) a
noncomputable def pEqpp (neg : Bool) (x y : COpd) (fr : T AV) (k : AV → Bool) : Bool := opd2 fr x y fun a b => eqPtr a b fun r => negK neg r k
/-- Where a slice's cells lie. -/
noncomputable def pSdata (x : COpd) (fr : T AV) (k : AV → Bool) : Bool := opdK fr (fun v => slK v (fun i o _ c _ _ => ifK (Nat.blt 0 c) (k (.ptr i o)) false) (k .nilp) false) x

noncomputable def pureK (F : Facts) (p : POp) : T AV → (AV → Bool) → Bool :=
  @POp.rec (fun _ => T AV → (AV → Bool) → Bool) pMv pPick pBuild pNilck (pIb F) pTb (pEqp F) pEqn (pEqs F) pNot pNeg pConv pMkif pMkfn pSlcs pSlc pFaddr pFld pIaddr pIaddra pIdxs pExt pTass pLenv pLenc pCapv pMm pTassi pEqi pEqpp pSdata p
end Go.Proofs.YtfgmmabggjjhgaaGreatDoor.Ev
namespace Go.Proofs.YtfgmmabggjjhgaaGreatDoor.Ev
open Go

/-- The operation yields a value that r stands for, in any world. -/
def PureT (P : Program) (E : Env) (o : Oper) (fr : T AV) (r : AV) : Prop :=
  ∀ ρ e, Ev e → Holds E ρ fr e o.op.operands.toList → ∃ v, VR E ρ r v ∧ ∀ w, (execOp e o).run P w = .ok (.value v) w
def PureOk (P : Program) (E : Env) (F : Facts) (o : Oper) (p : POp) : Prop := ∀ fr k, pureK F p fr k = true → ∃ r, k r = true ∧ PureT P E o fr r

section
variable {P : Program} {E : Env} {F : Facts} {o : Oper}
theorem opd2_some {x y : Operand} {c d : COpd} (hx : OpdOk E x c) (hy : OpdOk E y d) {fr : T AV} {k : AV → AV → Bool} (h : opd2 fr c d k = true) :
    ∃ a b, k a b = true ∧ ∀ ρ e, Ev e → Holds E ρ fr e [x, y] → VR E ρ a (e x) ∧ VR E ρ b (e y) := by
  obtain ⟨a, h1, h2⟩ := hx fr (fun a => opdK fr (fun b => k a b) d) h
  obtain ⟨b, h3, h4⟩ := hy fr _ h1
  exact ⟨a, b, h3, fun ρ e he hh => ⟨h2 ρ e he (hh.sub (by simp)), h4 ρ e he (hh.sub (by simp))⟩⟩

theorem mv_ok {x : Operand} {c : COpd} (ho : o.op = .move x ∨ o.op = .assign x) (hx : OpdOk E x c) : PureOk P E F o (.mv c) := fun fr k h => by
  obtain ⟨a, h1, h2⟩ := hx fr k h
  refine ⟨a, h1, fun ρ e he hh => ⟨e x, ?_, fun w => ?_⟩⟩
  · rcases ho with ho | ho <;> rw [ho] at hh <;> exact h2 ρ e he hh
  · rcases ho with ho | ho <;> simp [execOp, ho]
theorem pick_ok {c a b : Operand} {cc ca cb : COpd} (ho : o.op = .pick c a b) (hc : OpdOk E c cc) (ha : OpdOk E a ca) (hb : OpdOk E b cb) : PureOk P E F o (.pick cc ca cb) := fun fr k h => by
  obtain ⟨v, h1, h2⟩ := hc fr (fun v => boolK v fun t => @Bool.rec (fun _ => Bool) (opdK fr k cb) (opdK fr k ca) t) h
  obtain ⟨t, rfl, h1⟩ := boolK_some h1
  cases t with
  | false =>
    obtain ⟨u, h3, h4⟩ := hb fr k h1
    refine ⟨u, h3, fun ρ e he hh => ⟨e b, ?_, fun w => ?_⟩⟩
    · rw [ho] at hh; exact h4 ρ e he (hh.sub (by simp [Op.operands]))
    · rw [ho] at hh
      have := h2 ρ e he (hh.sub (by simp [Op.operands]))
      simp only [VR] at this
      simp [execOp, ho, this, asBool]
  | true =>
    obtain ⟨u, h3, h4⟩ := ha fr k h1
    refine ⟨u, h3, fun ρ e he hh => ⟨e a, ?_, fun w => ?_⟩⟩
    · rw [ho] at hh; exact h4 ρ e he (hh.sub (by simp [Op.operands]))
    · rw [ho] at hh
      have := h2 ρ e he (hh.sub (by simp [Op.operands]))
      simp only [VR] at this
      simp [execOp, ho, this, asBool]

theorem nilck_ok {x : Operand} {c : COpd} (ho : o.op = .nilCheck x) (hx : OpdOk E x c) : PureOk P E F o (.nilck c) := fun fr k h => by
  obtain ⟨a, h1, h2⟩ := hx fr (fun v => solidK v (k v)) h
  obtain ⟨hk, n1, n2, n3, n4⟩ := solidK_some h1
  refine ⟨a, hk, fun ρ e he hh => ?_⟩
  rw [ho] at hh
  have hv := h2 ρ e he hh
  refine ⟨e x, hv, fun w => ?_⟩
  cases a with
  | nilp => exact absurd rfl n1
  | nili => exact absurd rfl n2
  | nilf => exact absurd rfl n3
  | fn f a b =>
    obtain ⟨i, rfl⟩ := n4 f a b rfl
    simp only [VR] at hv
    obtain ⟨a', b', _, _, hv⟩ := hv
    simp [execOp, ho, hv]
  | ptr i p => simp only [VR] at hv; obtain ⟨_, _, hv⟩ := hv; simp [execOp, ho, hv]
  | sl => simp only [VR] at hv; obtain ⟨_, _, _, hv, _⟩ := hv; simp [execOp, ho, hv]
  | empt => simp only [VR] at hv; obtain ⟨_, _, hv⟩ := hv; simp [execOp, ho, hv]
  | ifc => simp only [VR] at hv; obtain ⟨_, _, hv⟩ := hv; simp [execOp, ho, hv]
  | agg => simp only [VR] at hv; obtain ⟨_, _, hv⟩ := hv; simp [execOp, ho, hv]
  | tup => simp only [VR] at hv; obtain ⟨_, _, hv⟩ := hv; simp [execOp, ho, hv]
  | any => cases h1
  | atl => cases h1
  | _ => simp only [VR] at hv; simp [execOp, ho, hv]

theorem run_binOp {e : Operand → Value} {op : BinOp} {t t' : TypeId} {x y : Operand} {z : Value} {w : World} (ho : o.op = .binOp op t x y t') (hop : op ≠ .eql ∧ op ≠ .neq) (h : (binOp op t (e x) (e y)).run P w = .ok z w) :
    (execOp e o).run P w = .ok (.value z) w := by
  have hg : (eqGuard op t x y (e x) (e y)).run P w = .ok () w := by
    obtain ⟨h1, h2⟩ := hop
    cases op <;> first | exact absurd rfl h1 | exact absurd rfl h2 | (simp [eqGuard])
  simp only [execOp, ho, Sem.run_bind, hg, h, Result.andThen_ok]
  rfl
theorem ib_ok {op : BinOp} {t t' : TypeId} {x y : Operand} {c d : COpd} (hF : F.Of E) (ho : o.op = .binOp op t x y t') (hop : op ≠ .eql ∧ op ≠ .neq) (hx : OpdOk E x c) (hy : OpdOk E y d) : PureOk P E F o (.ib op c d) := fun fr k h => by
  obtain ⟨a, b, h1, h2⟩ := opd2_some hx hy (k := fun a b => ibF F op a b k) h
  obtain ⟨r, hr, ht⟩ := ibF_some hF h1
  refine ⟨r, hr, fun ρ e he hh => ?_⟩
  rw [ho] at hh
  obtain ⟨ha, hb⟩ := h2 ρ e he (hh.sub (by simp [Op.operands]))
  obtain ⟨z, hz, hrun⟩ := ht ρ _ _ ha hb
  exact ⟨z, hz, fun w => run_binOp ho hop (hrun P w t)⟩
theorem tb_ok {op : BinOp} {t t' : TypeId} {x y : Operand} {c d : COpd} (ho : o.op = .binOp op t x y t') (hop : op ≠ .eql ∧ op ≠ .neq) (hx : OpdOk E x c) (hy : OpdOk E y d) : PureOk P E F o (.tb op c d) := fun fr k h => by
  obtain ⟨a, b, h1, h2⟩ := opd2_some hx hy (k := fun a b => tbF op a b k) h
  obtain ⟨r, hr, ht⟩ := tbF_some (E := E) h1
  refine ⟨r, hr, fun ρ e he hh => ?_⟩
  rw [ho] at hh
  obtain ⟨ha, hb⟩ := h2 ρ e he (hh.sub (by simp [Op.operands]))
  obtain ⟨z, hz, hrun⟩ := ht ρ _ _ ha hb
  exact ⟨z, hz, fun w => run_binOp ho hop (hrun P w t)⟩

/-! ### Equality -/
theorem eqPrim_some (hF : F.Of E) {n : Nat} {x y : AV} {c : Bool → Bool} (h : eqPrim F n x y c = true) : ∃ r, c r = true ∧ ∀ ρ v u, VR E ρ x v → VR E ρ y u → PrimIs n v u r := by
  match n with
  | 0 =>
    replace h : eqBool x y c = true := h
    replace h := boolK_some h
    obtain ⟨a, rfl, h⟩ := h
    replace h := boolK_some h
    obtain ⟨b, rfl, h⟩ := h
    refine ⟨a == b, by cases a <;> cases b <;> exact h, fun ρ v u hv hu => ?_⟩
    simp only [VR] at hv hu
    exact .inl ⟨rfl, a, b, hv, hu, rfl⟩
  | 1 =>
    replace h : eqNum F x y c = true := h
    have fin : ∀ {x y : AV} {b : Bool}, c b = true → (∀ ρ v u, VR E ρ x v → VR E ρ y u → ∃ k m n, v = .int k m ∧ u = .int k n ∧ b = decide (m = n)) → ∃ r, c r = true ∧ ∀ ρ v u, VR E ρ x v → VR E ρ y u → PrimIs 1 v u r := fun hb hh =>
      ⟨_, hb, fun ρ v u hv hu => by
        obtain ⟨k, m, n, h1, h2, h3⟩ := hh ρ v u hv hu
        refine .inr (.inl ⟨rfl, k, m, n, h1, h2, ?_⟩)
        rw [h3]; rfl⟩
    have sym : ∀ {n : Int} {b : Bool}, symE n b = true → b = true ∧ ∀ j, (E.letter j : Int) ≠ n := fun {n b} h => by
      unfold symE at h
      rw [ifK_eq, ifK_eq, bltI_eq, bltI_eq] at h
      by_cases h1 : n < 97
      · simp [h1] at h; exact ⟨h, fun j => by have := E.lo j; omega⟩
      · by_cases h2 : 122 < n
        · simp [h1, h2] at h; exact ⟨h, fun j => by have := E.hi j; omega⟩
        · simp [h1, h2] at h
    replace h := numK_some h
    rcases h with ⟨k, a, rfl, h⟩ | ⟨k, i, rfl, h⟩ | ⟨_, _, _, h⟩
    · replace h := numK_some h
      rcases h with ⟨k', b, rfl, h⟩ | ⟨k', j, rfl, h⟩ | ⟨_, _, _, h⟩
      · replace h := ifK_and h
        obtain ⟨hk, h⟩ := h
        have := kindEq_of hk; subst this
        rw [forceB_eq, beqI_eq] at h
        exact fin h fun ρ v u hv hu => by simp only [VR] at hv hu; exact ⟨k, a, b, hv, hu, rfl⟩
      · replace h := ifK_and h
        obtain ⟨hk, h⟩ := h
        have := kindEq_of hk; subst this
        obtain ⟨h, hn⟩ := sym h
        exact fin h fun ρ v u hv hu => by simp only [VR] at hv hu; exact ⟨k, _, _, hv, hu, (decide_eq_false (Ne.symm (hn j))).symm⟩
      · cases h
    · replace h := numK_some h
      rcases h with ⟨k', b, rfl, h⟩ | ⟨k', j, rfl, h⟩ | ⟨_, _, _, h⟩
      · replace h := ifK_and h
        obtain ⟨hk, h⟩ := h
        have := kindEq_of hk; subst this
        obtain ⟨h, hn⟩ := sym h
        exact fin h fun ρ v u hv hu => by simp only [VR] at hv hu; exact ⟨k, _, _, hv, hu, (decide_eq_false (hn i)).symm⟩
      · replace h := ifK_and h
        obtain ⟨hk, h⟩ := h
        have := kindEq_of hk; subst this
        rw [ifK_eq, ifK_eq] at h
        by_cases hij : i = j
        · subst hij
          simp at h
          exact fin h fun ρ v u hv hu => by simp only [VR] at hv hu; exact ⟨k, _, _, hv, hu, by simp⟩
        · have hb : Nat.beq i j = false := by
            cases hb : Nat.beq i j with
            | false => rfl
            | true => exact absurd (beq_of hb) hij
          rw [hb] at h
          cases ha : F.apart with
          | false => rw [ha] at h; cases h
          | true =>
            rw [ha] at h
            replace h := ifK_and h
            obtain ⟨hi, h⟩ := h
            replace h := ifK_and h
            obtain ⟨hj, h⟩ := h
            have hne := hF.apart ha i j (by simpa [bltN] using hi) (by simpa [bltN] using hj) hij
            refine fin (b := false) h fun ρ v u hv hu => ?_
            simp only [VR] at hv hu
            exact ⟨k, _, _, hv, hu, (decide_eq_false (by omega)).symm⟩
      · cases h
    · cases h
  | 2 =>
    replace h : eqTxt F x y c = true := h
    replace h := str2K_some h
    obtain ⟨s, t, rfl, rfl, h⟩ := h
    have h := eqS_some hF h
    refine ⟨_, h, fun ρ v u hv hu => ?_⟩
    simp only [VR] at hv hu
    exact .inr (.inr ⟨rfl, _, _, hv, hu, (bytes_beq s t).symm⟩)
  | n + 3 => cases h

/-- The test that stands ahead of equality lets these by. -/
def GuardOk (P : Program) (op : BinOp) (t : TypeId) (x y : Operand) (a b : Value) : Prop := ∀ w, (eqGuard op t x y a b).run P w = .ok () w
theorem run_eq {e : Operand → Value} {op : BinOp} {t t' : TypeId} {x y : Operand} {b neg : Bool} {w : World} (ho : o.op = .binOp op t x y t') (hg : GuardOk P op t x y (e x) (e y)) (hop : op = if neg then .neq else .eql)
    (h : (binOp .eql t (e x) (e y)).run P w = .ok (.bool b) w) (h' : (binOp .neq t (e x) (e y)).run P w = .ok (.bool (!b)) w) : (execOp e o).run P w = .ok (.value (.bool (if neg then !b else b))) w := by
  subst hop
  cases neg
  · simp only [execOp, ho, Sem.run_bind, Bool.false_eq_true, if_false] at *
    rw [hg w]
    simp only [Result.andThen_ok, h]
    rfl
  · simp only [execOp, ho, Sem.run_bind, if_true] at *
    rw [hg w]
    simp only [Result.andThen_ok, h']
    rfl
theorem prim_guard {n : Nat} {a b : Value} {r : Bool} (h : PrimIs n a b r) (op : BinOp) (t : TypeId) (x y : Operand) : GuardOk P op t x y a b := fun w => by
  rcases h with ⟨_, p, q, rfl, rfl, _⟩ | ⟨_, k, p, q, rfl, rfl, _⟩ | ⟨_, p, q, rfl, rfl, _⟩ <;> cases op <;> simp [eqGuard]
theorem prim_run {n t : Nat} {de : TypeDesc} {a b : Value} {r : Bool} (h : PrimIs n a b r) (hd : P.underlying t = some de) (ht : DescTag de n) (w : World) :
    (binOp .eql t a b).run P w = .ok (.bool r) w ∧ (binOp .neq t a b).run P w = .ok (.bool (!r)) w := by
  have h' := h
  rcases h with ⟨rfl, p, q, rfl, rfl, rfl⟩ | ⟨rfl, k, p, q, rfl, rfl, rfl⟩ | ⟨rfl, p, q, rfl, rfl, rfl⟩
  · have := h'.run (d := 9999) hd ht w
    simp only [Nat.reduceAdd] at this
    simp [binOp, Op.equal, Op.maxDepth, this]
  · simp [binOp, Op.intCmp, bne]
  · simp [binOp, Op.stringOp]
theorem eqp_ok {n : Nat} {neg : Bool} {op : BinOp} {t t' : TypeId} {de : TypeDesc} {x y : Operand} {c d : COpd} (hF : F.Of E) (ho : o.op = .binOp op t x y t') (hop : op = if neg then .neq else .eql) (hd : P.underlying t = some de) (ht : DescTag de n)
    (hx : OpdOk E x c) (hy : OpdOk E y d) : PureOk P E F o (.eqp n neg c d) := fun fr k h => by
  obtain ⟨a, b, h1, h2⟩ := opd2_some hx hy (k := fun a b => eqPrim F n a b fun r => negK neg r k) h
  obtain ⟨r, h3, h4⟩ := eqPrim_some hF h1
  rw [negK_eq] at h3
  refine ⟨_, h3, fun ρ e he hh => ?_⟩
  rw [ho] at hh
  obtain ⟨ha, hb⟩ := h2 ρ e he (hh.sub (by simp [Op.operands]))
  have hp := h4 ρ _ _ ha hb
  exact ⟨_, by simp only [VR], fun w => run_eq ho (prim_guard hp op t x y) hop (prim_run hp hd ht w).1 (prim_run hp hd ht w).2⟩

/-! nil -/
def NilIs (n : Nat) (v : Value) (b : Bool) : Prop :=
  (n = 3 ∧ ((b = true ∧ v = .pointer none) ∨ (b = false ∧ ∃ a, v = .pointer (some a)))) ∨ (n = 1 ∧ ((b = true ∧ v = .slice none 0 0) ∨ (b = false ∧ ∃ a l c, v = .slice (some a) l c))) ∨
  (n = 5 ∧ ((b = true ∧ v = .nilIface) ∨ (b = false ∧ ∃ t x, v = .iface t x))) ∨ (n = 6 ∧ ((b = true ∧ v = .nilFunc) ∨ (b = false ∧ ∃ f a c, v = .func f a c)))
theorem nilB_some {n : Nat} {x : AV} {k : Bool → Bool} (h : nilB n x k = true) : ∃ b, k b = true ∧ ∀ ρ v, VR E ρ x v → NilIs n v b := by
  cases x with
  | ptr =>
    replace h := ifK_and (t := k false) h
    obtain ⟨hn, h⟩ := h
    exact ⟨false, h, fun ρ v hv => by simp only [VR] at hv; obtain ⟨_, _, rfl⟩ := hv; exact .inl ⟨beq_of hn, .inr ⟨rfl, _, rfl⟩⟩⟩
  | nilp =>
    replace h := ifK_and (t := k true) h
    obtain ⟨hn, h⟩ := h
    exact ⟨true, h, fun ρ v hv => by simp only [VR] at hv; exact .inl ⟨beq_of hn, .inl ⟨rfl, hv⟩⟩⟩
  | sl =>
    replace h := ifK_and (t := k false) h
    obtain ⟨hn, h⟩ := h
    exact ⟨false, h, fun ρ v hv => by simp only [VR] at hv; obtain ⟨_, _, _, rfl, _⟩ := hv; exact .inr (.inl ⟨beq_of hn, .inr ⟨rfl, _, _, _, rfl⟩⟩)⟩
  | nils =>
    replace h := ifK_and (t := k true) h
    obtain ⟨hn, h⟩ := h
    exact ⟨true, h, fun ρ v hv => by simp only [VR] at hv; exact .inr (.inl ⟨beq_of hn, .inl ⟨rfl, hv⟩⟩)⟩
  | fn =>
    replace h := ifK_and (t := k false) h
    obtain ⟨hn, h⟩ := h
    exact ⟨false, h, fun ρ v hv => by simp only [VR] at hv; obtain ⟨_, _, _, _, rfl⟩ := hv; exact .inr (.inr (.inr ⟨beq_of hn, .inr ⟨rfl, _, _, _, rfl⟩⟩))⟩
  | nilf =>
    replace h := ifK_and (t := k true) h
    obtain ⟨hn, h⟩ := h
    exact ⟨true, h, fun ρ v hv => by simp only [VR] at hv; exact .inr (.inr (.inr ⟨beq_of hn, .inl ⟨rfl, hv⟩⟩))⟩
  | ifc =>
    replace h := ifK_and (t := k false) h
    obtain ⟨hn, h⟩ := h
    exact ⟨false, h, fun ρ v hv => by simp only [VR] at hv; obtain ⟨_, _, rfl⟩ := hv; exact .inr (.inr (.inl ⟨beq_of hn, .inr ⟨rfl, _, _, rfl⟩⟩))⟩
  | nili =>
    replace h := ifK_and (t := k true) h
    obtain ⟨hn, h⟩ := h
    exact ⟨true, h, fun ρ v hv => by simp only [VR] at hv; exact .inr (.inr (.inl ⟨beq_of hn, .inl ⟨rfl, hv⟩⟩))⟩
  | _ => cases h
theorem nil_run {n t : Nat} {de : TypeDesc} {v u : Value} {a b : Bool} (hv : NilIs n v a) (hu : NilIs n u b) (hab : (a || b) = true) (hd : P.underlying t = some de) (hs : DescShape de n) (w : World) :
    (binOp .eql t v u).run P w = .ok (.bool (a && b)) w ∧ (binOp .neq t v u).run P w = .ok (.bool (!(a && b))) w := by
  have key : ∀ d, (Op.equalIn (d + 1) t v u).run P w = .ok (a && b) w := by
    intro d
    rcases hv with ⟨rfl, hv⟩ | ⟨rfl, hv⟩ | ⟨rfl, hv⟩ | ⟨rfl, hv⟩
    · obtain ⟨el, rfl⟩ : ∃ e, de = .pointer e := by rcases hs with h | h | h | h | h | h | h | h | h <;> first | exact h.2 | (obtain ⟨h, _⟩ := h; cases h)
      rcases hu with ⟨_, hu⟩ | ⟨h, _⟩ | ⟨h, _⟩ | ⟨h, _⟩ <;> first | cases h | skip
      rcases hv with ⟨rfl, rfl⟩ | ⟨rfl, p, rfl⟩ <;> rcases hu with ⟨rfl, rfl⟩ | ⟨rfl, q, rfl⟩ <;> first | (cases hab; done) | simp [Op.equalIn, run_underlying hd]
    · obtain ⟨el, rfl⟩ : ∃ e, de = .slice e := by rcases hs with h | h | h | h | h | h | h | h | h <;> first | exact h.2 | (obtain ⟨h, _⟩ := h; cases h)
      rcases hu with ⟨h, _⟩ | ⟨_, hu⟩ | ⟨h, _⟩ | ⟨h, _⟩ <;> first | cases h | skip
      rcases hv with ⟨rfl, rfl⟩ | ⟨rfl, p, _, _, rfl⟩ <;> rcases hu with ⟨rfl, rfl⟩ | ⟨rfl, q, _, _, rfl⟩ <;> first | (cases hab; done) | simp [Op.equalIn, run_underlying hd]
    · obtain ⟨el, rfl⟩ : ∃ e, de = .interface e := by rcases hs with h | h | h | h | h | h | h | h | h <;> first | exact h.2 | (obtain ⟨h, _⟩ := h; cases h)
      rcases hu with ⟨h, _⟩ | ⟨h, _⟩ | ⟨_, hu⟩ | ⟨h, _⟩ <;> first | cases h | skip
      rcases hv with ⟨rfl, rfl⟩ | ⟨rfl, p, _, rfl⟩ <;> rcases hu with ⟨rfl, rfl⟩ | ⟨rfl, q, _, rfl⟩ <;> first | (cases hab; done) | simp [Op.equalIn, run_underlying hd]
    · obtain ⟨p1, p2, p3, rfl⟩ : ∃ a b c, de = .func a b c := by rcases hs with h | h | h | h | h | h | h | h | h <;> first | exact h.2 | (obtain ⟨h, _⟩ := h; cases h)
      rcases hu with ⟨h, _⟩ | ⟨h, _⟩ | ⟨h, _⟩ | ⟨_, hu⟩ <;> first | cases h | skip
      rcases hv with ⟨rfl, rfl⟩ | ⟨rfl, p, _, _, rfl⟩ <;> rcases hu with ⟨rfl, rfl⟩ | ⟨rfl, q, _, _, rfl⟩ <;> first | (cases hab; done) | simp [Op.equalIn, run_underlying hd]
  have e : binOp .eql t v u = (do pure (.bool (← Op.equal t v u))) ∧ binOp .neq t v u = (do pure (.bool (!(← Op.equal t v u)))) := by
    rcases hv with ⟨_, ⟨_, rfl⟩ | ⟨_, p, rfl⟩⟩ | ⟨_, ⟨_, rfl⟩ | ⟨_, p, _, _, rfl⟩⟩ | ⟨_, ⟨_, rfl⟩ | ⟨_, p, _, rfl⟩⟩ | ⟨_, ⟨_, rfl⟩ | ⟨_, p, _, _, rfl⟩⟩ <;> exact ⟨rfl, rfl⟩
  rw [e.1, e.2]
  simp only [Op.equal, Op.maxDepth, Sem.run_bind]
  rw [key 9999]
  exact ⟨rfl, rfl⟩
theorem eqn_ok {n : Nat} {neg : Bool} {op : BinOp} {t t' : TypeId} {de : TypeDesc} {x y : Operand} {c d : COpd} (ho : o.op = .binOp op t x y t') (hop : op = if neg then .neq else .eql) (hd : P.underlying t = some de) (hs : DescShape de n)
    (hc : (∃ v, x = .const v) ∨ ∃ v, y = .const v) (hx : OpdOk E x c) (hy : OpdOk E y d) : PureOk P E F o (.eqn n neg c d) := fun fr k h => by
  obtain ⟨a, b, h1, h2⟩ := opd2_some hx hy (k := fun a b => eqNil n a b fun r => negK neg r k) h
  obtain ⟨p, h3, h4⟩ := nilB_some (E := E) h1
  obtain ⟨q, h5, h6⟩ := nilB_some (E := E) h3
  have h7 : (p || q) = true ∧ negK neg (p && q) k = true := by cases p <;> cases q <;> first | (cases h5; done) | exact ⟨rfl, h5⟩
  obtain ⟨hpq, h8⟩ := h7
  rw [negK_eq] at h8
  refine ⟨_, h8, fun ρ e he hh => ?_⟩
  rw [ho] at hh
  obtain ⟨ha, hb⟩ := h2 ρ e he (hh.sub (by simp [Op.operands]))
  have hv := h4 ρ _ ha
  have hu := h6 ρ _ hb
  refine ⟨.bool (if neg then !(p && q) else (p && q)), by simp only [VR], fun w => run_eq ho (fun w => ?_) hop (nil_run hv hu hpq hd hs w).1 (nil_run hv hu hpq hd hs w).2⟩
  generalize e x = v at hv
  generalize e y = u at hu
  have hm : (match x with | .const _ => true | _ => false) = true ∨ (match y with | .const _ => true | _ => false) = true := by
    rcases hc with ⟨v, rfl⟩ | ⟨v, rfl⟩
    · exact .inl rfl
    · exact .inr rfl
  rcases hv with ⟨rfl, ⟨_, rfl⟩ | ⟨_, p, rfl⟩⟩ | ⟨rfl, ⟨_, rfl⟩ | ⟨_, p, _, _, rfl⟩⟩ | ⟨rfl, ⟨_, rfl⟩ | ⟨_, p, _, rfl⟩⟩ | ⟨rfl, ⟨_, rfl⟩ | ⟨_, p, _, _, rfl⟩⟩ <;>
    rcases hu with ⟨h, ⟨_, rfl⟩ | ⟨_, q, rfl⟩⟩ | ⟨h, ⟨_, rfl⟩ | ⟨_, q, _, _, rfl⟩⟩ | ⟨h, ⟨_, rfl⟩ | ⟨_, q, _, rfl⟩⟩ | ⟨h, ⟨_, rfl⟩ | ⟨_, q, _, _, rfl⟩⟩ <;> first | (cases h; done) | (cases op <;> simp [eqGuard]; done) | skip
  all_goals (rcases hc with ⟨v, rfl⟩ | ⟨v, rfl⟩ <;> cases op <;> simp [eqGuard])

/-! structs -/
theorem looseEq_some (hF : F.Of E) {n : Nat} {x y : AV} {k : Bool} (h : looseEq F n x y k = true) : k = true ∧ ∀ ρ v u, VR E ρ x v → VR E ρ y u → ∃ r, PrimIs n v u r := by
  unfold looseEq at h
  rw [ifK_eq] at h
  split at h
  · have hn : n = 2 := Nat.eq_of_beq_eq_true (by assumption)
    subst hn
    replace h := str2K_some h
    obtain ⟨s, t, rfl, rfl, h⟩ := h
    refine ⟨h, fun ρ v u hv hu => ?_⟩
    simp only [VR] at hv hu
    exact ⟨_, .inr (.inr ⟨rfl, _, _, hv, hu, rfl⟩)⟩
  · obtain ⟨r, h, hp⟩ := eqPrim_some hF h
    exact ⟨h, fun ρ v u hv hu => ⟨r, hp ρ v u hv hu⟩⟩
theorem allEq_some (hF : F.Of E) {xs ys : List AV} {c : Bool → Bool} : ∀ {l : List (Nat × Nat)} {r : Bool}, allEq F xs ys c l r = true →
    ∃ q, c q = true ∧ ∀ ρ vs us, VRs E ρ xs vs → VRs E ρ ys us → ∃ s, AllIs l (fun j => vs[j]?) (fun j => us[j]?) s ∧ q = (s && r)
  | [], r, h => ⟨r, h, fun _ _ _ _ _ => ⟨true, rfl, (Bool.true_and r).symm⟩⟩
  | p :: l, false, h => by
    replace h := nthK_some (k := fun a => nthK ys p.1 fun b => looseEq F p.2 a b (allEq F xs ys c l false)) h
    obtain ⟨a, ha, h⟩ := h
    replace h := nthK_some h
    obtain ⟨b, hb, h⟩ := h
    obtain ⟨h, hp⟩ := looseEq_some hF h
    obtain ⟨q, h, hs⟩ := allEq_some hF h
    refine ⟨q, h, fun ρ vs us hv hu => ?_⟩
    obtain ⟨v, hv1, hv2⟩ := hv.get ha
    obtain ⟨u, hu1, hu2⟩ := hu.get hb
    obtain ⟨r1, h1⟩ := hp ρ v u hv2 hu2
    obtain ⟨s, h2, h3⟩ := hs ρ vs us hv hu
    exact ⟨r1 && s, ⟨v, u, r1, s, hv1, hu1, h1, h2, rfl⟩, by rw [h3, Bool.and_false, Bool.and_false]⟩
  | p :: l, true, h => by
    replace h := nthK_some (k := fun a => nthK ys p.1 fun b => eqPrim F p.2 a b fun q => allEq F xs ys c l q) h
    obtain ⟨a, ha, h⟩ := h
    replace h := nthK_some h
    obtain ⟨b, hb, h⟩ := h
    obtain ⟨q, h, hp⟩ := eqPrim_some hF h
    obtain ⟨z, h, hs⟩ := allEq_some hF h
    refine ⟨z, h, fun ρ vs us hv hu => ?_⟩
    obtain ⟨v, hv1, hv2⟩ := hv.get ha
    obtain ⟨u, hu1, hu2⟩ := hu.get hb
    obtain ⟨s, h2, h3⟩ := hs ρ vs us hv hu
    exact ⟨q && s, ⟨v, u, q, s, hv1, hu1, hp ρ v u hv2 hu2, h2, rfl⟩, by rw [h3]; cases q <;> cases s <;> rfl⟩
theorem eqs_ok {n : Nat} {l : List (Nat × Nat)} {neg : Bool} {op : BinOp} {t t' : TypeId} {x y : Operand} {c d : COpd} (hF : F.Of E) (ho : o.op = .binOp op t x y t') (hop : op = if neg then .neq else .eql) (hn : n ≤ 9999) (hr : EqRun P n t l)
    (hg : P.eqGuardType P.depth t = false) (hx : OpdOk E x c) (hy : OpdOk E y d) : PureOk P E F o (.eqs l neg c d) := fun fr k h => by
  obtain ⟨a, b, h1, h2⟩ := opd2_some hx hy (k := fun a b => aggK a fun xs => aggK b fun ys => allEq F xs ys (fun r => forceB r fun r => negK neg r k) l true) h
  replace h1 := aggK_some h1
  obtain ⟨xs, rfl, h1⟩ := h1
  replace h1 := aggK_some h1
  obtain ⟨ys, rfl, h1⟩ := h1
  obtain ⟨q, h3, h4⟩ := allEq_some hF h1
  rw [forceB_eq, negK_eq] at h3
  refine ⟨_, h3, fun ρ e he hh => ?_⟩
  rw [ho] at hh
  obtain ⟨ha, hb⟩ := h2 ρ e he (hh.sub (by simp [Op.operands]))
  simp only [VR] at ha hb
  obtain ⟨vs, hv, ha⟩ := ha
  obtain ⟨us, hu, hb⟩ := hb
  obtain ⟨s, h4, h5⟩ := h4 ρ vs us hv hu
  rw [Bool.and_true] at h5; subst h5
  have key := fun w => hr 9999 hn vs.toArray us.toArray q w (by simpa using h4)
  refine ⟨.bool (if neg then !q else q), by simp only [VR], fun w => run_eq ho (fun w => ?_) hop ?_ ?_⟩
  · rw [ha, hb]; exact run_eqGuard_agg w op t x y _ _ hg
  · rw [ha, hb, run_eql_struct, key]; rfl
  · rw [ha, hb, run_neq_struct, key]; rfl
end
end Go.Proofs.YtfgmmabggjjhgaaGreatDoor.Ev
set_option linter.unusedVariables false
set_option linter.unusedSimpArgs false
namespace Go.Proofs.YtfgmmabggjjhgaaGreatDoor.Ev
open Go

section
variable {P : Program} {E : Env} {F : Facts} {o : Oper}

theorem not_ok {t : TypeId} {x : Operand} {c : COpd} (ho : o.op = .unOp .not t x) (hx : OpdOk E x c) : PureOk P E F o (.not c) := fun fr k h => by
  obtain ⟨a, h1, h2⟩ := hx fr (fun v => boolK v fun b => @Bool.rec (fun _ => Bool) (k (.bool true)) (k (.bool false)) b) h
  replace h1 := boolK_some h1
  obtain ⟨b, rfl, h1⟩ := h1
  refine ⟨.bool (!b), by cases b <;> exact h1, fun ρ e he hh => ⟨.bool (!b), by simp only [VR], fun w => ?_⟩⟩
  rw [ho] at hh
  have hv := h2 ρ e he hh
  simp only [VR] at hv
  simp [execOp, ho, hv, Op.unary]
theorem neg_ok {t : TypeId} {x : Operand} {c : COpd} (ho : o.op = .unOp .neg t x) (hx : OpdOk E x c) : PureOk P E F o (.neg c) := fun fr k h => by
  obtain ⟨a, h1, h2⟩ := hx fr (fun v => intK v fun q n => wrapK q (Int.sub 0 n) fun r => k (.int q r)) h
  replace h1 := intK_some h1
  obtain ⟨q, n, rfl, h1⟩ := h1
  rw [wrapK_eq] at h1
  refine ⟨_, h1, fun ρ e he hh => ⟨.int q (q.wrap (Int.sub 0 n)), by simp only [VR], fun w => ?_⟩⟩
  rw [ho] at hh
  have hv := h2 ρ e he hh
  simp only [VR] at hv
  simp only [execOp, ho, hv, Op.unary, Op.intArith]
  rfl
theorem wideN_some {k : IntKind} {y : Bool} (h : wideN k y = true) : y = true ∧ ∀ n : Nat, n ≤ 255 → k.wrap (n : Int) = n := by
  cases k with
  | i8 => cases h
  | _ => refine ⟨h, fun n hn => wrap_lim _ (by simp [limN]; omega)⟩
theorem conv_ok {src dst : TypeId} {ds : TypeDesc} {q : IntKind} {x : Operand} {c : COpd} (ho : o.op = .convert src dst x) (hs : P.underlying src = some ds) (hd : P.underlying dst = some (.int q)) (hx : OpdOk E x c) : PureOk P E F o (.conv q c) := fun fr k h => by
  obtain ⟨a, h1, h2⟩ := hx fr (fun v => numK v (fun _ n => wrapK q n fun r => k (.int q r)) (fun _ i => wideN q (k (.sym q i))) (fun _ i => wideN q (k (.opq q i)))) h
  have run : ∀ (e : Operand → Value) (p : IntKind) (n m : Int), e x = .int p n → q.wrap n = m → ∀ w, (execOp e o).run P w = .ok (.value (.int q m)) w := fun e p n m hv hm w => by
    subst hm
    simp [execOp, ho, hv, convert, run_underlying hs, run_underlying hd, Conv.intToInt]
  replace h1 := numK_some h1
  rcases h1 with ⟨p, n, rfl, h1⟩ | ⟨p, i, rfl, h1⟩ | ⟨p, i, rfl, h1⟩
  · rw [wrapK_eq] at h1
    refine ⟨_, h1, fun ρ e he hh => ⟨.int q (q.wrap n), by simp only [VR], fun w => ?_⟩⟩
    rw [ho] at hh
    have hv := h2 ρ e he hh
    simp only [VR] at hv
    exact run e p n _ hv rfl w
  · obtain ⟨h1, hw⟩ := wideN_some h1
    refine ⟨_, h1, fun ρ e he hh => ⟨.int q (E.letter i), by simp only [VR], fun w => ?_⟩⟩
    rw [ho] at hh
    have hv := h2 ρ e he hh
    simp only [VR] at hv
    exact run e p _ _ hv (hw _ (by have := E.hi i; omega)) w
  · obtain ⟨h1, hw⟩ := wideN_some h1
    refine ⟨_, h1, fun ρ e he hh => ⟨.int q (E.arg i), by simp only [VR], fun w => ?_⟩⟩
    rw [ho] at hh
    have hv := h2 ρ e he hh
    simp only [VR] at hv
    exact run e p _ _ hv (hw _ (E.arghi i)) w
theorem mkif_ok {t n : TypeId} {d : TypeDesc} {x : Operand} {c : COpd} (ho : o.op = .makeInterface t x) (hd : P.underlying t = some d) (hs : DescShape d n) (h5 : n ≠ 5) (hx : OpdOk E x c) : PureOk P E F o (.mkif t c) := fun fr k h => by
  obtain ⟨a, h1, h2⟩ := hx fr (fun v => k (.ifc t v)) h
  refine ⟨_, h1, fun ρ e he hh => ⟨.iface t (e x), ?_, fun w => ?_⟩⟩
  · rw [ho] at hh; simp only [VR]; exact ⟨_, h2 ρ e he hh, rfl⟩
  · rcases hs with ⟨_, rfl⟩ | ⟨_, _, rfl⟩ | ⟨_, _, _, rfl⟩ | ⟨_, _, rfl⟩ | ⟨_, _, rfl⟩ | ⟨h, _⟩ | ⟨_, _, _, _, rfl⟩ | ⟨_, _, rfl⟩ | ⟨_, rfl⟩ <;> first | exact absurd h h5 | simp [execOp, ho, Instr.makeInterface, run_underlying hd]
theorem mkfn_ok {f : Fn} {a b : Array Operand} {ca cb : List COpd} (ho : o.op = .makeFunc f a b) (ha : OpdsOk E a.toList ca) (hb : OpdsOk E b.toList cb) : PureOk P E F o (.mkfn f ca cb) := fun fr k h => by
  obtain ⟨as, h1, h2⟩ := ha fr (fun as => opdsK fr cb fun bs => k (.fn f as bs)) h
  obtain ⟨bs, h3, h4⟩ := hb fr _ h1
  refine ⟨_, h3, fun ρ e he hh => ⟨.func f (a.map e) (b.map e), ?_, fun w => ?_⟩⟩
  · rw [ho] at hh
    simp only [VR]
    refine ⟨_, _, h2 ρ e he (hh.sub fun x hx => ?_), h4 ρ e he (hh.sub fun x hx => ?_), ?_⟩
    · simp only [Op.operands, Array.toList_append]; exact List.mem_append_left _ hx
    · simp only [Op.operands, Array.toList_append]; exact List.mem_append_right _ hx
    · congr 1 <;> (apply Array.ext'; simp)
  · simp [execOp, ho, Instr.makeFunc]

/-! ### Bounds -/
theorem natK_some {x : AV} {k : Nat → Bool} (h : natK x k = true) : ∃ m, k m = true ∧ ∀ ρ v, VR E ρ x v → ∃ q, v = .int q (m : Int) := by
  replace h := intK_some h
  obtain ⟨q, n, rfl, h⟩ := h
  cases n with
  | negSucc n => cases h
  | ofNat m =>
    change forceN m k = true at h
    rw [forceN_eq] at h
    exact ⟨m, h, fun ρ v hv => by simp only [VR] at hv; exact ⟨q, hv⟩⟩
def BndIs (E : Env) (ρ : Nat → Option Loc) (e : Operand → Value) (x : Option Operand) (d n : Nat) : Prop := (x.map e = none ∧ n = d) ∨ ∃ q, x.map e = some (.int q (n : Int))
theorem bndK_some {x : Option Operand} {c : Option COpd} (hx : OptOk E x c) {fr : T AV} {d : Nat} {k : Nat → Bool} (h : bndK fr c d k = true) : ∃ n, k n = true ∧ ∀ ρ e, Ev e → Holds E ρ fr e x.toList → BndIs E ρ e x d n := by
  rcases hx with ⟨rfl, rfl⟩ | ⟨y, c, rfl, rfl, hy⟩
  · exact ⟨d, h, fun ρ e _ _ => .inl ⟨rfl, rfl⟩⟩
  · obtain ⟨a, h1, h2⟩ := hy fr (fun v => natK v k) h
    obtain ⟨m, h3, h4⟩ := natK_some (E := E) h1
    refine ⟨m, h3, fun ρ e he hh => .inr ?_⟩
    obtain ⟨q, hq⟩ := h4 ρ _ (h2 ρ e he hh)
    exact ⟨q, by simp [hq]⟩

theorem slcs_ok {t : TypeId} {x : Operand} {lo hi : Option Operand} {c : COpd} {cl ch : Option COpd} (ho : o.op = .slice t x lo hi none) (ht : P.underlying t = some .string) (hx : OpdOk E x c) (hl : OptOk E lo cl) (hh : OptOk E hi ch) : PureOk P E F o (.slcs c cl ch) := fun fr k h => by
  obtain ⟨a, h1, h2⟩ := hx fr (fun v => strK v fun s => lenK s 0 fun n => bndK fr cl 0 fun l => bndK fr ch n fun h => ifK (Nat.ble l h) (ifK (Nat.ble h n) (dropK l s fun r => takeK (Nat.sub h l) r fun r => k (.str r)) false) false) h
  replace h1 := strK_some h1
  obtain ⟨s, rfl, h1⟩ := h1
  rw [lenK_eq] at h1
  obtain ⟨l, h3, h4⟩ := bndK_some hl h1
  obtain ⟨m, h5, h6⟩ := bndK_some hh h3
  obtain ⟨b1, h7⟩ := ifK_and h5
  obtain ⟨b2, h7⟩ := ifK_and h7
  have b1 := ble_of b1
  have b2 := ble_of b2
  simp only [Nat.zero_add] at b2
  obtain ⟨d1, h7⟩ := dropK_some h7
  obtain ⟨d2, h7⟩ := takeK_some h7
  refine ⟨_, h7, fun ρ e he hd => ⟨.string (E.bytes ((s.drop l).take (m - l))), by simp only [VR]; rfl, fun w => ?_⟩⟩
  rw [ho] at hd
  have hv := h2 ρ e he (hd.sub (by simp [Op.operands]))
  have hbl := h4 ρ e he (hd.sub (by simp [Op.operands]; intro y hy; simp [hy]))
  have hbh := h6 ρ e he (hd.sub (by simp [Op.operands]; intro y hy; simp [hy]))
  simp only [VR] at hv
  have hsz : (E.bytes s).size = s.length := bytes_size s
  have e1 : (0 : Int) ≤ (l : Int) := Int.natCast_nonneg _
  have e2 : (0 : Int) ≤ (m : Int) := Int.natCast_nonneg _
  have hb : (Instr.sliceBounds false (E.bytes s).size (E.bytes s).size (lo.map e) (hi.map e) none).run P w = .ok (l, m, (E.bytes s).size) w := by
    rw [hsz]
    rcases hbh with ⟨hbh, rfl⟩ | ⟨q2, hbh⟩
    · rcases hbl with ⟨hbl, rfl⟩ | ⟨q1, hbl⟩
      · rw [hbl, hbh]; simp [Instr.sliceBounds]
      · rw [hbl, hbh]; simp only [Nat.zero_add] at b1; simp [Instr.sliceBounds, run_sliceBound, b1]
    · rcases hbl with ⟨hbl, rfl⟩ | ⟨q1, hbl⟩
      · rw [hbl, hbh]; simp [Instr.sliceBounds, run_sliceBound, b2]
      · rw [hbl, hbh]; simp [Instr.sliceBounds, run_sliceBound, b1, b2]
  have hx' : (E.bytes s).extract l m = E.bytes ((s.drop l).take (m - l)) := by
    unfold Env.bytes
    rw [ByteArray.extract_mk, List.map_take, List.map_drop]
  simp [execOp, ho, Instr.sliceAt, Instr.slice, run_underlying ht, hv, hb, hx']

/-- 'x[lo:hi:max]' of a slice. -/
theorem run_slc {t et : TypeId} {sz : Nat} {a : Option Addr} {m c lo hi mx : Nat} {lv hv mv : Option Value} {w : World} (ht : P.underlying t = some (.slice et)) (hs : (sizeOf et).run P w = .ok sz w)
    (hl : (lv = none ∧ lo = 0) ∨ ∃ k, lv = some (.int k (lo : Int))) (hh : (hv = none ∧ hi = m ∧ mv = none) ∨ ∃ k, hv = some (.int k (hi : Int))) (hmx : (mv = none ∧ mx = c) ∨ ∃ k, mv = some (.int k (mx : Int)))
    (h1 : lo ≤ hi) (h2 : hi ≤ mx) (h3 : mx ≤ c) :
    (Instr.sliceAt t (.slice a m c) lv hv mv).run P w = .ok (.slice (if mx = lo then a else a.map (·.add (lo * sz))) (hi - lo) (mx - lo)) w := by
  have e1 : (0 : Int) ≤ (lo : Int) := Int.natCast_nonneg _
  have e2 : (0 : Int) ≤ (hi : Int) := Int.natCast_nonneg _
  have e3 : (0 : Int) ≤ (mx : Int) := Int.natCast_nonneg _
  have hb : (Instr.sliceBounds true m c lv hv mv).run P w = .ok (lo, hi, mx) w := by
    rcases hmx with ⟨rfl, rfl⟩ | ⟨k3, rfl⟩
    · rcases hh with ⟨rfl, rfl, _⟩ | ⟨k2, rfl⟩
      · rcases hl with ⟨rfl, rfl⟩ | ⟨k1, rfl⟩
        · simp [Instr.sliceBounds]
        · simp [Instr.sliceBounds, run_sliceBound, h1]
      · rcases hl with ⟨rfl, rfl⟩ | ⟨k1, rfl⟩
        · simp [Instr.sliceBounds, run_sliceBound, h2]
        · simp [Instr.sliceBounds, run_sliceBound, h1, h2]
    · rcases hh with ⟨_, _, h⟩ | ⟨k2, rfl⟩
      · cases h
      · rcases hl with ⟨rfl, rfl⟩ | ⟨k1, rfl⟩
        · simp [Instr.sliceBounds, run_sliceBound, h2, h3]
        · simp [Instr.sliceBounds, run_sliceBound, h1, h2, h3]
  simp [Instr.sliceAt, Instr.slice, run_underlying ht, hb, hs]
theorem add_lit (b p n : Nat) : (⟨b, p, none⟩ : Addr).add n = ⟨b, p + n, none⟩ := by unfold Addr.add; split <;> simp_all

theorem slc_ok {t et : TypeId} {it : TypeInfo} {x : Operand} {lo hi mx : Option Operand} {c : COpd} {cl ch cm : Option COpd} (ho : o.op = .slice t x lo hi mx) (ht : P.underlying t = some (.slice et)) (hi' : P.info? et = some it)
    (hmh : mx.isSome = true → hi.isSome = true) (hx : OpdOk E x c) (hl : OptOk E lo cl) (hh : OptOk E hi ch) (hm : OptOk E mx cm) : PureOk P E F o (.slc it.size c cl ch cm) := fun fr k h => by
  replace h := hx fr _ h
  obtain ⟨a, h, h2⟩ := h
  replace h := slK_some h
  have hs : ∀ w, (sizeOf et).run P w = .ok it.size w := run_sizeOf hi'
  rcases h with ⟨i, p, n, cc, ex, es', rfl, h⟩ | ⟨rfl, h⟩ | ⟨_, h⟩
  · replace h := ifK_and h
    obtain ⟨hes, h⟩ := h
    have := beq_of hes; subst this
    replace h := bndK_some hl h
    obtain ⟨l, h, h4⟩ := h
    replace h := bndK_some hh h
    obtain ⟨m, h, h6⟩ := h
    -- what the bounds are, with a greatest one or without
    have fin : ∀ (M : Nat) (x' : Bool), slcIn it.size i p n M l m k x' = true → (∀ ρ e, Ev e → Holds E ρ fr e o.op.operands.toList → ∀ L cap, ρ i = some L → e x = .slice (some ⟨L.b, L.o + p, none⟩) n cap → cc ≤ cap → (ex = true → cap = cc) → L.o + p + cap * it.size ≤ L.sz →
        ∃ M', M ≤ M' ∧ M' ≤ cap ∧ (x' = true → M' = M) ∧ ((mx.map e = none ∧ M' = cap) ∨ ∃ q, mx.map e = some (.int q (M' : Int)))) → ∃ r, k r = true ∧ PureT P E o fr r := by
      intro M x' h hM
      unfold slcIn at h
      replace h := ifK_and h
      obtain ⟨b1, h⟩ := h
      replace h := ifK_and h
      obtain ⟨b2, h⟩ := h
      have b1 := ble_of b1
      have b2 := ble_of b2
      have go : ∀ ρ e, Ev e → Holds E ρ fr e o.op.operands.toList → ∃ L cap M', ρ i = some L ∧ M ≤ M' ∧ (x' = true → M' = M) ∧ L.o + p + M' * it.size ≤ L.sz ∧ ((it.size ≠ 1 → L.pl = 1) ∧ M' ≤ maxLen) ∧
          ∀ w, (execOp e o).run P w = .ok (.value (.slice (if M' = l then some ⟨L.b, L.o + p, none⟩ else some ⟨L.b, L.o + p + l * it.size, none⟩) (m - l) (M' - l))) w ∧ M' ≤ cap := by
        intro ρ e he hd
        have hd' := hd
        rw [ho] at hd'
        have hv := h2 ρ e he (hd'.sub (by simp [Op.operands]))
        have hbl := h4 ρ e he (hd'.sub (by simp [Op.operands]; intro y hy; simp [hy]))
        have hbh := h6 ρ e he (hd'.sub (by simp [Op.operands]; intro y hy; simp [hy]))
        simp only [VR] at hv
        obtain ⟨L, cap, hL, hv, v1, v2, v3, v4⟩ := hv
        obtain ⟨M', m1, m2, m3, m4⟩ := hM ρ e he hd L cap hL hv v1 v2 v3
        refine ⟨L, cap, M', hL, m1, m3, ?_, ⟨v4.1, Nat.le_trans m2 v4.2⟩, fun w => ⟨?_, m2⟩⟩
        · have := Nat.mul_le_mul_right it.size m2; omega
        · have hh' : (hi.map e = none ∧ m = n ∧ mx.map e = none) ∨ ∃ k, hi.map e = some (.int k (m : Int)) := by
            rcases hbh with ⟨h1, h2⟩ | h1
            · refine .inl ⟨h1, h2, ?_⟩
              cases mx with
              | none => rfl
              | some y =>
                have := hmh rfl
                cases hi with
                | none => cases this
                | some z => simp at h1
            · exact .inr h1
          have := run_slc (P := P) (a := some ⟨L.b, L.o + p, none⟩) (w := w) ht (hs w) hbl hh' m4 b1 (by omega) m2
          simp only [Option.map_some, add_lit] at this
          simp [execOp, ho, hv, this]
      rw [ifK_eq] at h
      by_cases hlM : l = M
      · subst hlM
        simp only [Nat.beq_refl, if_true] at h
        cases x' with
        | false =>
          refine ⟨_, h, fun ρ e he hd => ?_⟩
          obtain ⟨L, cap, M', _, _, _, _, _, hr⟩ := go ρ e he hd
          refine ⟨_, ?_, fun w => (hr w).1⟩
          simp only [VR]
          exact ⟨_, _, by rw [show m - l = 0 from by omega]⟩
        | true =>
          change forceN (Nat.sub m l) (fun n' => k (.sl i p n' 0 true it.size)) = true at h
          rw [forceN_eq] at h
          refine ⟨_, h, fun ρ e he hd => ?_⟩
          obtain ⟨L, cap, M', hL, _, hx', hz, v4, hr⟩ := go ρ e he hd
          have := hx' rfl; subst this
          refine ⟨_, ?_, fun w => (hr w).1⟩
          simp only [VR]
          exact ⟨L, 0, hL, by simp only [Nat.sub_self, if_true, Nat.sub_eq], Nat.le_refl _, fun _ => rfl, by omega, v4.1, Nat.zero_le _⟩
      · have hb : Nat.beq l M = false := by
          cases hb : Nat.beq l M with
          | false => rfl
          | true => exact absurd (beq_of hb) hlM
        rw [hb] at h
        simp only [Bool.false_eq_true, if_false] at h
        rw [forceN_eq, forceN_eq, forceN_eq] at h
        refine ⟨_, h, fun ρ e he hd => ?_⟩
        obtain ⟨L, cap, M', hL, m1, hx', hz, v4, hr⟩ := go ρ e he hd
        refine ⟨_, ?_, fun w => (hr w).1⟩
        simp only [VR]
        refine ⟨L, M' - l, hL, ?_, ?_, ?_, ?_, v4.1, Nat.le_trans (Nat.sub_le _ _) v4.2⟩
        · rw [if_neg (by omega)]; simp only [Nat.add_eq, Nat.mul_eq, Nat.sub_eq, Nat.add_assoc]
        · simp only [Nat.sub_eq]; omega
        · intro hx; have := hx' hx; subst this; rfl
        · simp only [Nat.add_eq, Nat.mul_eq]
          have : M' * it.size = l * it.size + (M' - l) * it.size := by rw [← Nat.add_mul]; congr 1; omega
          omega
    rcases hm with ⟨rfl, rfl⟩ | ⟨ym, dm, rfl, rfl, hym⟩
    · exact fin cc ex h fun ρ e he hd L cap hL hv v1 v2 v3 => ⟨cap, v1, Nat.le_refl _, v2, .inl ⟨rfl, rfl⟩⟩
    · replace h := hym fr _ h
      obtain ⟨am, h, h8⟩ := h
      replace h := natK_some (E := E) h
      obtain ⟨M, h, h9⟩ := h
      replace h := ifK_and h
      obtain ⟨b3, h⟩ := h
      have b3 := ble_of b3
      refine fin M true h fun ρ e he hd L cap hL hv v1 v2 v3 => ⟨M, Nat.le_refl _, by omega, fun _ => rfl, .inr ?_⟩
      rw [ho] at hd
      obtain ⟨q, hq⟩ := h9 ρ _ (h8 ρ e he (hd.sub (by simp [Op.operands])))
      exact ⟨q, by simp [hq]⟩
  · replace h := bndK_some hl h
    obtain ⟨l, h, h4⟩ := h
    replace h := bndK_some hh h
    obtain ⟨m, h, h6⟩ := h
    replace h := bndK_some hm h
    obtain ⟨M, h, h8⟩ := h
    replace h := ifK_and h
    obtain ⟨b1, h⟩ := h
    replace h := ifK_and h
    obtain ⟨b2, h⟩ := h
    replace h := ifK_and h
    obtain ⟨b3, h⟩ := h
    have := beq_of b1; subst this
    have := beq_of b2; subst this
    have := beq_of b3; subst this
    refine ⟨_, h, fun ρ e he hd => ⟨.slice none 0 0, by simp only [VR], fun w => ?_⟩⟩
    rw [ho] at hd
    have hv := h2 ρ e he (hd.sub (by simp [Op.operands]))
    have hbl := h4 ρ e he (hd.sub (by simp [Op.operands]; intro y hy; simp [hy]))
    have hbh := h6 ρ e he (hd.sub (by simp [Op.operands]; intro y hy; simp [hy]))
    have hbm := h8 ρ e he (hd.sub (by simp [Op.operands]; intro y hy; simp [hy]))
    simp only [VR] at hv
    have hh' : (hi.map e = none ∧ 0 = 0 ∧ mx.map e = none) ∨ ∃ k, hi.map e = some (.int k ((0 : Nat) : Int)) := by
      rcases hbh with ⟨h1, _⟩ | h1
      · refine .inl ⟨h1, rfl, ?_⟩
        cases mx with
        | none => rfl
        | some y =>
          have := hmh rfl
          cases hi with
          | none => cases this
          | some z => simp at h1
      · exact .inr h1
    have := run_slc (P := P) (a := none) (m := 0) (c := 0) (w := w) ht (hs w) hbl hh' hbm (Nat.le_refl _) (Nat.le_refl _) (Nat.le_refl _)
    simp [execOp, ho, hv, this]
  · cases h
end
end Go.Proofs.YtfgmmabggjjhgaaGreatDoor.Ev
