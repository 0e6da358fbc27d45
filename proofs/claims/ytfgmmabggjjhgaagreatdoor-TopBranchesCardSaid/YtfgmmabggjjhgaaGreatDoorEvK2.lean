/- The evaluator: from the program's operations to what is run, rightly. It speaks of any program; nothing of the claim's own program stands here. -/
import Derived.Test.YtfgmmabggjjhgaaGreatDoorEvV
namespace Go.Proofs.YtfgmmabggjjhgaaGreatDoor.Ev
open Go

/-- What is not known: it is never run. -/
noncomputable def stuckOp : COp := .p (.eqp 3 false (.const .nilp) (.const .nilp))
section
variable {P : Program} {E : Env} {F : Facts} {o : Oper}
theorem stuck_ok : OpRel P E F o stuckOp := fun fr k h => by
  have : (false : Bool) = true := h
  cases this
def Got (P : Program) (E : Env) (F : Facts) (o : Oper) (k : COp → Bool) : Prop := ∃ c, k c = true ∧ OpRel P E F o c
theorem stuck_got {k : COp → Bool} (h : k stuckOp = true) : Got P E F o k := ⟨_, h, stuck_ok⟩
end

noncomputable def zeroK (z : Option Value) (k : Value → Bool) : Bool := @Option.rec Value (fun _ => Bool) false (fun v => k v) z
theorem zeroK_some {z : Option Value} {k : Value → Bool} (h : zeroK z k = true) : ∃ v, z = some v ∧ k v = true := by cases z <;> first | exact ⟨_, rfl, h⟩ | cases h
noncomputable def stepsK (tt : T TypeInfo) (fs : List Field) : (List (Nat × Nat) → Bool) → Bool :=
  @List.rec Field (fun _ => (List (Nat × Nat) → Bool) → Bool) (fun k => k []) (fun f _ ih k => infoK tt f.type fun i => forceN f.offset fun o => forceN i.size fun n => ih fun r => k ((o, n) :: r)) fs
noncomputable def partsK (pl : List (Nat × Nat)) (ps : List (Nat × Operand)) : (List (Nat × Nat × COpd) → Bool) → Bool :=
  @List.rec (Nat × Operand) (fun _ => (List (Nat × Nat × COpd) → Bool) → Bool) (fun k => k []) (fun p _ ih k => nthK pl p.1 fun q => copdK p.2 fun c => ih fun r => k ((q.1, q.2, c) :: r)) ps
noncomputable def partsLK (es : Nat) (ps : List (Nat × Operand)) : (List (Nat × Nat × COpd) → Bool) → Bool :=
  @List.rec (Nat × Operand) (fun _ => (List (Nat × Nat × COpd) → Bool) → Bool) (fun k => k []) (fun p _ ih k => forceN (Nat.mul p.1 es) fun o => copdK p.2 fun c => ih fun r => k ((o, es, c) :: r)) ps
noncomputable def isConst (x : Operand) (y n : Bool) : Bool := @Operand.casesOn (fun _ => Bool) x (fun _ => n) (fun _ => y) (fun _ => n) (fun _ => n)
theorem isConst_some {x : Operand} {y n : Bool} (h : isConst x y n = true) : ((∃ v, x = .const v) ∧ y = true) ∨ n = true := by cases x <;> first | exact .inl ⟨⟨_, rfl⟩, h⟩ | exact .inr h

section
variable (P : Program) (tt : T TypeInfo)
noncomputable def cMove (x : Operand) (k : COp → Bool) : Bool := copdK x fun c => k (.p (.mv c))
noncomputable def cPick (a b c : Operand) (k : COp → Bool) : Bool := copdK a fun a => copdK b fun b => copdK c fun c => k (.p (.pick a b c))
/-- A pointer and a slice, both nil: the type of such a block is kept in mind (it may be a strings.Builder). -/
noncomputable def isBld (zs : List AV) : Bool := @List.rec AV (fun _ => Bool) false (fun x r _ => nilB 3 x fun b => ifK b (@List.rec AV (fun _ => Bool) false (fun y q _ => nilB 1 y fun b => ifK b (@List.rec AV (fun _ => Bool) true (fun _ _ _ => false) q) false) r) false) zs
noncomputable def cAlloc (t : Nat) (k : COp → Bool) : Bool := infoK tt t fun it => zeroK it.zero fun z => constCellsK z fun zs => ifK (isBld zs) (k (.a (.newt t zs))) (k (.a (.new zs)))
noncomputable def cBox (x : Operand) (k : COp → Bool) : Bool := copdK x fun c => k (.a (.box c))
noncomputable def cBuild (t : Nat) (ps : Array (Nat × Operand)) (k : COp → Bool) : Bool :=
  undK tt t fun d => structK d fun fs => infoK tt t fun it => zeroK it.zero fun z => constCellsK z fun zs => stepsK tt fs fun pl => partsK pl ps.toList fun cs => k (.p (.build zs cs))
noncomputable def cBslN (t n : Nat) (ps : Array (Nat × Operand)) (k : COp → Bool) : Bool :=
  undK tt t fun d => sliceK d fun el => infoK tt el fun ie => zeroK ie.zero fun z => constCellsK z fun zs => lenK zs 0 fun es => forceN n fun n => ifK (Nat.beq es ie.size) (ifK (Nat.ble (Nat.mul n es) 100000) (ifK (Nat.blt 0 (Nat.mul n es)) (repK zs n fun zs => partsLK es ps.toList fun cs => k (.a (.bsl n es zs cs))) false) false) false
noncomputable def cBsl0 (t : Nat) (ps : Array (Nat × Operand)) (k : COp → Bool) : Bool :=
  @List.rec (Nat × Operand) (fun _ => Bool) (undK tt t fun d => sliceK d fun el => infoK tt el fun ie => forceN ie.size fun es => k (.a (.bsl 0 es [] []))) (fun _ _ _ => false) ps.toList
noncomputable def cBsl (t n : Nat) (ps : Array (Nat × Operand)) (k : COp → Bool) : Bool := @Nat.rec (fun _ => Bool) (cBsl0 tt t ps k) (fun _ _ => cBslN tt t n ps k) n
noncomputable def cLoad (t : Nat) (x : Operand) (k : COp → Bool) : Bool :=
  undK tt t fun d => aggDK d (infoK tt t fun it => forceN it.size fun n => copdK x fun c => k (.r (.ldn n c))) (copdK x fun c => k (.r (.ld1 c)))
noncomputable def cStore (t : Nat) (x y : Operand) (k : COp → Bool) : Bool := infoK tt t fun it => forceN it.size fun n => copdK x fun c => copdK y fun d => k (.e (.st n c d))
noncomputable def cNilck (x : Operand) (k : COp → Bool) : Bool := copdK x fun c => k (.p (.nilck c))
noncomputable def cBin (op : BinOp) (t : Nat) (x y : Operand) (k : COp → Bool) : Bool :=
  undK tt t fun d => tagK d fun n => copdK x fun c => copdK y fun d => ifK (Nat.beq n 2) (k (.p (.tb op c d))) (k (.p (.ib op c d)))
/-- A type of numbers that may be held against each other. -/
noncomputable def numT (u : Nat) (k : IntKind → Bool) : Bool := undK tt u fun d => intDK d fun q => infoK tt u fun i => ifK i.comparable (k q) false
/-- The methods that a type lacks: none? -/
noncomputable def lackK (ms : Array (String × TypeId)) (u : Nat) (k : Bool → Bool) : Bool := infoK tt u fun i => forceB (lacking ms i.methods).isEmpty k
noncomputable def findM (nm : String) (k : Method → Bool) (l : List Method) : Bool := @List.rec Method (fun _ => Bool) false (fun m _ ih => ifK (m.name == nm) (k m) ih) l
noncomputable def nilL {β : Type} (l : List β) (k : Bool) : Bool := @List.rec β (fun _ => Bool) k (fun _ _ _ => false) l
noncomputable def ptrDK (d : TypeDesc) (y n : Bool) : Bool := shapeK d fun m => ifK (Nat.beq m 3) y n
noncomputable def methFK (d : TypeDesc) (k : Nat → Bool) (f : Option (FuncId × Bool)) : Bool := @Option.rec (FuncId × Bool) (fun _ => Bool) false (fun p => @Bool.rec (fun _ => Bool) (ptrDK d false (k p.1)) (ptrDK d (k p.1) false) p.2) f
/-- The function that a method's name leads to, by the type. -/
noncomputable def methK (nm : String) (t : Nat) (k : Nat → Bool) : Bool := infoK tt t fun i => undK tt t fun d => findM nm (fun m => nilL m.path.toList (methFK d (fun f => forceN f k) m.func)) i.methods.toList
/-- A pointer's type; unsafe pointers. -/
noncomputable def pointerDK (d : TypeDesc) (k : Nat → Bool) (e : Bool) : Bool :=
  @TypeDesc.casesOn (fun _ => Bool) d e e (fun _ => e) (fun _ => e) (fun _ => e) e e (fun t => k t) (fun _ => e) (fun _ _ => e) (fun _ _ => e) (fun _ _ => e) (fun _ => e) (fun _ _ _ => e) (fun _ => e) (fun _ => e) (fun _ _ => e)
theorem pointerDK_some {d : TypeDesc} {k : Nat → Bool} {e : Bool} (h : pointerDK d k e = true) : (∃ t, d = .pointer t ∧ k t = true) ∨ e = true := by
  cases d <;> first | exact .inl ⟨_, rfl, h⟩ | exact .inr h
noncomputable def rawDK (d : TypeDesc) (y e : Bool) : Bool :=
  @TypeDesc.casesOn (fun _ => Bool) d e e (fun _ => e) (fun _ => e) (fun _ => e) e y (fun _ => e) (fun _ => e) (fun _ _ => e) (fun _ _ => e) (fun _ _ => e) (fun _ => e) (fun _ _ _ => e) (fun _ => e) (fun _ => e) (fun _ _ => e)
theorem rawDK_some {d : TypeDesc} {y e : Bool} (h : rawDK d y e = true) : (d = .unsafePointer ∧ y = true) ∨ e = true := by
  cases d <;> first | exact .inl ⟨rfl, h⟩ | exact .inr h
/-- Equality; 'neg': the other way. -/
noncomputable def cEq (neg : Bool) (t : Nat) (x y : Operand) (k : COp → Bool) : Bool :=
  undK tt t fun d0 => shapeK d0 fun n => copdK x fun c => copdK y fun d =>
    ifK (Nat.beq n 8) (k (.p (.eqp 0 neg c d))) (ifK (Nat.beq n 4) (k (.p (.eqp 1 neg c d))) (ifK (Nat.beq n 0) (k (.p (.eqp 2 neg c d)))
      (ifK (Nat.beq n 7) (notB (P.eqGuardType P.depth t) (leavesK P tt 20 t fun l => k (.p (.eqs l neg c d)))) (isConst x (k (.p (.eqn n neg c d))) (isConst y (k (.p (.eqn n neg c d))) (pointerDK d0 (fun e => infoK tt e fun _ => k (.p (.eqpp neg c d))) (ifaceDK d0 fun _ => k (.p (.eqi neg (numT tt) c d)))))))))
noncomputable def cBinop (op : BinOp) (t : Nat) (x y : Operand) (k : COp → Bool) : Bool :=
  @BinOp.casesOn (fun _ => Bool) op (cBin tt .add t x y k) (cBin tt .sub t x y k) (cBin tt .mul t x y k) (cBin tt .quo t x y k) (cBin tt .rem t x y k) (cBin tt .and t x y k) (cBin tt .or t x y k) (cBin tt .xor t x y k) (cBin tt .shl t x y k) (cBin tt .shr t x y k) (cBin tt .andNot t x y k)
    (cEq P tt false t x y k) (cEq P tt true t x y k) (cBin tt .lss t x y k) (cBin tt .leq t x y k) (cBin tt .gtr t x y k) (cBin tt .geq t x y k)
noncomputable def cUn (op : UnOp) (x : Operand) (k : COp → Bool) : Bool := @UnOp.casesOn (fun _ => Bool) op (copdK x fun c => k (.p (.neg c))) (k stuckOp) (copdK x fun c => k (.p (.not c))) (k stuckOp)
noncomputable def cRaw (s d : Nat) (x : Operand) (k : COp → Bool) (e : Bool) : Bool :=
  undK tt s fun ds => undK tt d fun dd => rawDK dd (pointerDK ds (fun t => infoK tt t fun it => ifK (Nat.blt 0 it.size) (copdK x fun c => k (.r (.tou c))) false) false)
    (rawDK ds (pointerDK dd (fun u => infoK tt u fun it => forceN it.size fun m => ifK (Nat.blt 0 m) (copdK x fun c => forceN u fun u => k (.r (.fru u m c))) false) false) e)
noncomputable def cConv (s d : Nat) (x : Operand) (k : COp → Bool) : Bool :=
  undK tt s fun ds => undK tt d fun dd => shapeK dd fun n => copdK x fun c => ifK (Nat.beq n 4) (intDK dd fun q => k (.p (.conv q c)))
    (ifK (Nat.beq n 0) (sliceK ds fun e => undK tt e fun de => intDK de fun q => ifK (kindEq q .u8) (k (.r (.b2s c))) false)
      (sliceK dd fun e => undK tt e fun de => intDK de fun q => ifK (kindEq q .u8) (shapeK ds fun m => ifK (Nat.beq m 0) (k (.a (.s2b c))) false) false))
noncomputable def cMkif (t : Nat) (x : Operand) (k : COp → Bool) : Bool := undK tt t fun d => shapeK d fun n => ifK (Nat.beq n 5) (k stuckOp) (copdK x fun c => forceN t fun t => k (.p (.mkif t c)))
noncomputable def cMkfn (f : Fn) (a b : Array Operand) (k : COp → Bool) : Bool := copdsK a.toList fun a => copdsK b.toList fun b => k (.p (.mkfn f a b))
noncomputable def cMksl (t : Nat) (x y : Operand) (k : COp → Bool) : Bool :=
  undK tt t fun d => sliceK d fun el => infoK tt el fun ie => zeroK ie.zero fun z => constCellsK z fun zs => lenK zs 0 fun es => ifK (Nat.beq es ie.size) (ifK (Nat.blt 0 es) (copdK x fun c => copdK y fun d => forceN ie.bytes fun bs => k (.a (.mksl bs es zs c d))) false) false
noncomputable def cSlice (t : Nat) (x : Operand) (lo hi mx : Option Operand) (k : COp → Bool) : Bool :=
  undK tt t fun d => shapeK d fun n => copdK x fun c => coptK lo fun cl => coptK hi fun ch =>
    ifK (Nat.beq n 0) (optNone mx (k (.p (.slcs c cl ch)))) (ifK (Nat.beq n 1) (sliceK d fun el => infoK tt el fun ie => forceN ie.size fun es => coptK mx fun cm => @Option.rec Operand (fun _ => Bool) (k (.p (.slc es c cl ch cm))) (fun _ => @Option.rec Operand (fun _ => Bool) false (fun _ => k (.p (.slc es c cl ch cm))) hi) mx) (k stuckOp))
noncomputable def cFaddr (s : Nat) (x : Operand) (j : Nat) (k : COp → Bool) : Bool :=
  undK tt s fun d => structK d fun fs => nthK fs j fun f => infoK tt f.type fun it => ifK (Nat.blt 0 it.size) (forceN f.offset fun o => copdK x fun c => k (.p (.faddr o c))) false
noncomputable def cField (s : Nat) (x : Operand) (j : Nat) (k : COp → Bool) : Bool :=
  undK tt s fun d => structK d fun fs => nthK fs j fun f => undK tt f.type fun e => forceN f.offset fun o => copdK x fun c =>
    aggDK e (infoK tt f.type fun it => forceN it.size fun n => k (.p (.fld o n true c))) (k (.p (.fld o 0 false c)))
noncomputable def cIaddr (t : Nat) (x j : Operand) (k : COp → Bool) : Bool :=
  undK tt t fun d => shapeK d fun n => copdK x fun c => copdK j fun e =>
    ifK (Nat.beq n 1) (sliceK d fun el => infoK tt el fun ie => forceN ie.size fun es => k (.p (.iaddr es c e)))
      (ifK (Nat.beq n 2) (arrayK d fun m el => infoK tt el fun ie => forceN ie.size fun es => forceN m fun m => k (.p (.iaddra m es c e))) (k stuckOp))
noncomputable def cIndex (t : Nat) (x j : Operand) (k : COp → Bool) : Bool :=
  undK tt t fun d => shapeK d fun n => ifK (Nat.beq n 0) (copdK x fun c => copdK j fun e => k (.p (.idxs c e))) (k stuckOp)
noncomputable def cTass (x : Operand) (t : Nat) (ok : Bool) (k : COp → Bool) : Bool :=
  undK tt t fun d => shapeK d fun n => infoK tt t fun it => zeroK it.zero fun z => constK z fun za => copdK x fun c => ifK (Nat.beq n 5) (@Bool.rec (fun _ => Bool) (k stuckOp) (ifaceDK d fun ms => k (.p (.tassi (lackK tt ms) za c))) ok) (forceN t fun t => k (.p (.tass t za ok c)))
noncomputable def cExt (x : Operand) (i : Nat) (k : COp → Bool) : Bool := copdK x fun c => forceN i fun i => k (.p (.ext i c))
/-- Lists of one, of two. -/
noncomputable def l1K {β : Type} (l : List β) (k : β → Bool) (no : Bool) : Bool := @List.rec β (fun _ => Bool) no (fun x r _ => @List.rec β (fun _ => Bool) (k x) (fun _ _ _ => no) r) l
noncomputable def l2K {β : Type} (l : List β) (k : β → β → Bool) (no : Bool) : Bool := @List.rec β (fun _ => Bool) no (fun x r _ => l1K r (fun y => k x y) no) l
theorem l1K_some {β : Type} {l : List β} {k : β → Bool} {no : Bool} (h : l1K l k no = true) : (∃ x, l = [x] ∧ k x = true) ∨ no = true := by
  match l, h with
  | [], h => exact .inr h
  | [x], h => exact .inl ⟨x, rfl, h⟩
  | _ :: _ :: _, h => exact .inr h
theorem l2K_some {β : Type} {l : List β} {k : β → β → Bool} {no : Bool} (h : l2K l k no = true) : (∃ x y, l = [x, y] ∧ k x y = true) ∨ no = true := by
  match l, h with
  | [], h => exact .inr h
  | x :: r, h =>
    rcases l1K_some (l := r) (k := fun y => k x y) h with ⟨y, rfl, h⟩ | h
    · exact .inl ⟨x, y, rfl, h⟩
    · exact .inr h
noncomputable def cLen (xs : List Operand) (ts : List Nat) (k : COp → Bool) : Bool :=
  l1K xs (fun x => l1K ts (fun t => undK tt t fun d => shapeK d fun n => ifK (Nat.beq n 0) (copdK x fun c => k (.p (.lenv true c))) (ifK (Nat.beq n 1) (copdK x fun c => k (.p (.lenv false c))) (ifK (Nat.beq n 2) (arrayK d fun m _ => forceN m fun m => k (.p (.lenc m))) (k stuckOp)))) (k stuckOp)) (k stuckOp)
noncomputable def cCap (xs : List Operand) (ts : List Nat) (k : COp → Bool) : Bool :=
  l1K xs (fun x => l1K ts (fun t => undK tt t fun d => shapeK d fun n => ifK (Nat.beq n 1) (copdK x fun c => k (.p (.capv c))) (k stuckOp)) (k stuckOp)) (k stuckOp)
noncomputable def cMm (mx : Bool) (xs : List Operand) (k : COp → Bool) : Bool := l2K xs (fun x y => copdK x fun c => copdK y fun d => k (.p (.mm mx c d))) (k stuckOp)
noncomputable def cApp (xs : List Operand) (ts : List Nat) (k : COp → Bool) : Bool :=
  l2K xs (fun x y => l2K ts (fun t u => undK tt t fun d => sliceK d fun el => infoK tt el fun ie => zeroK ie.zero fun z => constCellsK z fun zs => lenK zs 0 fun es => ifK (Nat.beq es ie.size)
    (undK tt u fun du => shapeK du fun n => copdK x fun c => copdK y fun d => forceN ie.bytes fun bs => ifK (Nat.ble n 1) (forceN el fun el => k (.e (.app bs es el c d))) (intDK du fun _ => k (.e (.appz bs es zs c d)))) false) (k stuckOp)) (k stuckOp)
noncomputable def cCpy (xs : List Operand) (ts : List Nat) (k : COp → Bool) : Bool :=
  l2K xs (fun x y => l2K ts (fun t _ => undK tt t fun d => sliceK d fun el => infoK tt el fun ie => forceN ie.size fun es => copdK x fun c => copdK y fun d => k (.e (.cpy es c d))) (k stuckOp)) (k stuckOp)
noncomputable def cClr (xs : List Operand) (ts : List Nat) (k : COp → Bool) : Bool :=
  l1K xs (fun x => l1K ts (fun t => undK tt t fun d => shapeK d fun n => ifK (Nat.beq n 1) (sliceK d fun el => infoK tt el fun ie => zeroK ie.zero fun z => constCellsK z fun zs => lenK zs 0 fun es => ifK (Nat.beq es ie.size) (ifK (Nat.blt 0 es) (copdK x fun c => k (.e (.clr es zs c))) false) false) (k stuckOp)) (k stuckOp)) (k stuckOp)
noncomputable def cSdata (xs : List Operand) (k : COp → Bool) : Bool := l1K xs (fun x => copdK x fun c => k (.p (.sdata c))) (k stuckOp)
noncomputable def cUstr (xs : List Operand) (ts : List Nat) (k : COp → Bool) : Bool :=
  l2K xs (fun x y => l2K ts (fun t _ => undK tt t fun d => pointerDK d (fun et => infoK tt et fun it => ifK (Nat.beq it.size 1) (copdK x fun c => copdK y fun d => forceN et fun et => k (.e (.ustr et c d))) false) false) (k stuckOp)) (k stuckOp)
noncomputable def cBuiltin (b : Builtin) (xs : List Operand) (ts : List Nat) (k : COp → Bool) : Bool :=
  @Builtin.casesOn (fun _ => Bool) b (cApp tt xs ts k) (cCap tt xs ts k) (cClr tt xs ts k) (k stuckOp) (k stuckOp) (cCpy tt xs ts k) (k stuckOp) (k stuckOp) (cLen tt xs ts k) (k stuckOp) (cMm true xs k) (cMm false xs k) (k stuckOp) (k stuckOp) (k stuckOp) (k stuckOp) (k stuckOp) (k stuckOp)
    (k stuckOp) (k stuckOp) (cSdata xs k) (cUstr tt xs ts k) (k stuckOp) (k stuckOp) (k stuckOp) (k stuckOp)
noncomputable def cCall (c : Call) (k : COp → Bool) : Bool :=
  @Callee.casesOn (fun _ => Bool) c.callee (fun f => copdK f fun f => copdsK c.args.toList fun xs => k (.call (.val f) xs)) (fun x nm => copdK x fun x => copdsK c.args.toList fun xs => k (.call (.inv x (methK tt nm)) xs)) (fun b => cBuiltin tt b c.args.toList c.argTypes.toList k)
noncomputable def copK (op : Op) (k : COp → Bool) : Bool :=
  @Op.casesOn (fun _ => Bool) op (fun x => cMove x k) (fun x => cMove x k) (fun a b c => cPick a b c k) (fun t => cAlloc tt t k) (fun _ x => cBox x k) (fun t ps => cBuild tt t ps k) (fun t n ps => cBsl tt t n ps k) (fun _ _ _ _ => k stuckOp) (fun t x => cLoad tt t x k) (fun t x y => cStore tt t x y k) (fun _ => k stuckOp) (fun _ => k stuckOp)
    (fun x => cNilck x k) (fun op t x y _ => cBinop P tt op t x y k) (fun op _ x => cUn op x k) (fun s d x => cRaw tt s d x k (cConv tt s d x k)) (fun _ _ => k stuckOp) (fun t x => cMkif tt t x k) (fun f a b => cMkfn f a b k) (fun _ _ => k stuckOp) (fun _ _ => k stuckOp) (fun t x y => cMksl tt t x y k) (fun t x lo hi mx => cSlice tt t x lo hi mx k)
    (fun t x j => cFaddr tt t x j k) (fun t x j => cField tt t x j k) (fun t x j => cIaddr tt t x j k) (fun t x j => cIndex tt t x j k) (fun _ _ _ _ => k stuckOp) (fun _ _ _ _ => k stuckOp) (fun _ _ _ => k stuckOp) (fun _ _ _ _ => k stuckOp) (fun _ _ => k stuckOp) (fun _ _ => k stuckOp) (fun _ => k stuckOp)
    (fun x _ t ok => cTass tt x t ok k) (fun x i => cExt x i k) (fun c => cCall tt c k) (fun _ => k stuckOp) (fun _ => k stuckOp) (fun _ => k stuckOp) (fun _ _ => k stuckOp) (fun _ _ _ => k stuckOp) (fun _ _ => k stuckOp)
end
end Go.Proofs.YtfgmmabggjjhgaaGreatDoor.Ev
namespace Go.Proofs.YtfgmmabggjjhgaaGreatDoor.Ev
open Go

section
variable {P : Program} {tt : T TypeInfo} {E : Env} {F : Facts} {o : Oper} {k : COp → Bool}
theorem stepsK_some (hT : TypesOf P tt) : ∀ {fs : List Field} {k : List (Nat × Nat) → Bool}, stepsK tt fs k = true → ∃ pl, k pl = true ∧ fs.mapM (fun f => (P.info? f.type).map fun i => (f.offset, i.size)) = some pl
  | [], k, h => ⟨[], h, rfl⟩
  | f :: fs, k, h => by
    change infoK tt f.type (fun i => forceN f.offset fun o => forceN i.size fun n => stepsK tt fs fun r => k ((o, n) :: r)) = true at h
    replace h := infoK_some hT h
    obtain ⟨i, hi, h⟩ := h
    rw [forceN_eq, forceN_eq] at h
    replace h := stepsK_some hT h
    obtain ⟨pl, h, hp⟩ := h
    refine ⟨_, h, ?_⟩
    rw [List.mapM_cons, hp, hi]; rfl
theorem partsK_some {pl : List (Nat × Nat)} : ∀ {ps : List (Nat × Operand)} {k : List (Nat × Nat × COpd) → Bool}, partsK pl ps k = true → ∃ cs, k cs = true ∧ PartsOk E (pl.toArray[·]?) ps cs
  | [], k, h => ⟨[], h, .nil⟩
  | p :: ps, k, h => by
    change nthK pl p.1 (fun q => copdK p.2 fun c => partsK pl ps fun r => k ((q.1, q.2, c) :: r)) = true at h
    replace h := nthK_some h
    obtain ⟨q, hq, h⟩ := h
    replace h := copdK_some (E := E) h
    obtain ⟨c, h, hc⟩ := h
    replace h := partsK_some h
    obtain ⟨cs, h, hs⟩ := h
    exact ⟨_, h, .cons (by simpa using hq) hc hs⟩
theorem partsLK_some {es : Nat} : ∀ {ps : List (Nat × Operand)} {k : List (Nat × Nat × COpd) → Bool}, partsLK es ps k = true → ∃ cs, k cs = true ∧ PartsOk E (fun i => some (i * es, es)) ps cs
  | [], k, h => ⟨[], h, .nil⟩
  | p :: ps, k, h => by
    change forceN (Nat.mul p.1 es) (fun o => copdK p.2 fun c => partsLK es ps fun r => k ((o, es, c) :: r)) = true at h
    rw [forceN_eq] at h
    replace h := copdK_some (E := E) h
    obtain ⟨c, h, hc⟩ := h
    replace h := partsLK_some h
    obtain ⟨cs, h, hs⟩ := h
    exact ⟨_, h, .cons rfl hc hs⟩

theorem cMove_some {x : Operand} (ho : o.op = .move x ∨ o.op = .assign x) (h : cMove x k = true) : Got P E F o k := by
  unfold cMove at h
  replace h := copdK_some (E := E) h
  obtain ⟨c, h, hc⟩ := h
  exact ⟨_, h, mv_ok ho hc⟩
theorem cPick_some {a b c : Operand} (ho : o.op = .pick a b c) (h : cPick a b c k = true) : Got P E F o k := by
  unfold cPick at h
  replace h := copdK_some (E := E) h
  obtain ⟨a', h, ha⟩ := h
  replace h := copdK_some (E := E) h
  obtain ⟨b', h, hb⟩ := h
  replace h := copdK_some (E := E) h
  obtain ⟨c', h, hc⟩ := h
  exact ⟨_, h, pick_ok ho ha hb hc⟩
theorem cAlloc_some (hT : TypesOf P tt) {t : Nat} (ho : o.op = .alloc t) (h : cAlloc tt t k = true) : Got P E F o k := by
  unfold cAlloc at h
  replace h := infoK_some hT h
  obtain ⟨it, hi, h⟩ := h
  replace h := zeroK_some h
  obtain ⟨z, hz, h⟩ := h
  replace h := constCellsK_some (E := E) h
  obtain ⟨zs, h, _, h1, hzs⟩ := h
  cases hb : isBld zs with
  | true => rw [hb] at h; exact ⟨_, h, newt_ok ho hi hz hzs h1⟩
  | false => rw [hb] at h; exact ⟨_, h, new_ok ho hi hz hzs h1⟩
theorem cBox_some {t : Nat} {x : Operand} (ho : o.op = .box t x) (h : cBox x k = true) : Got P E F o k := by
  unfold cBox at h
  replace h := copdK_some (E := E) h
  obtain ⟨c, h, hc⟩ := h
  exact ⟨_, h, box_ok ho hc⟩
theorem cBuild_some (hT : TypesOf P tt) {t : Nat} {ps : Array (Nat × Operand)} (ho : o.op = .build t ps) (h : cBuild tt t ps k = true) : Got P E F o k := by
  unfold cBuild at h
  replace h := undK_some hT h
  obtain ⟨d, hd, h⟩ := h
  replace h := structK_some h
  obtain ⟨fs, rfl, h⟩ := h
  replace h := infoK_some hT h
  obtain ⟨it, hi, h⟩ := h
  replace h := zeroK_some h
  obtain ⟨z, hz, h⟩ := h
  replace h := constCellsK_some (E := E) h
  obtain ⟨zs, h, _, _, hzs⟩ := h
  replace h := stepsK_some hT h
  obtain ⟨pl, h, hpl⟩ := h
  replace h := partsK_some (E := E) h
  obtain ⟨cs, h, hp⟩ := h
  exact ⟨_, h, build_ok ho hd hi hz hpl hzs hp⟩
theorem len_cells {ρ : Nat → Option Loc} {zs : List AV} {z : Value} (h : VRs E ρ zs z.cells.toList) : z.cells.size = zs.length := by
  have := h.length; simpa using this
theorem cBslN_some (hT : TypesOf P tt) {t n : Nat} {ps : Array (Nat × Operand)} (ho : o.op = .buildSlice t n ps) (h : cBslN tt t n ps k = true) : Got P E F o k := by
  unfold cBslN at h
  replace h := undK_some hT h
  obtain ⟨d, hd, h⟩ := h
  replace h := sliceK_some h
  obtain ⟨el, rfl, h⟩ := h
  replace h := infoK_some hT h
  obtain ⟨ie, hi, h⟩ := h
  replace h := zeroK_some h
  obtain ⟨z, hz, h⟩ := h
  replace h := constCellsK_some (E := E) h
  obtain ⟨zs, h, _, h1, hzs⟩ := h
  rw [lenK_eq, forceN_eq, Nat.zero_add] at h
  replace h := ifK_and h
  obtain ⟨he, h⟩ := h
  replace h := ifK_and h
  obtain ⟨hsm, h⟩ := h
  replace h := ifK_and h
  obtain ⟨hp, h⟩ := h
  replace h := repK_some h
  replace h := partsLK_some (E := E) h
  obtain ⟨cs, h, hps⟩ := h
  have he := beq_of he
  have hsm := ble_of hsm
  have hp := blt_of hp
  rw [he] at h hsm hp hps
  change 0 < n * ie.size at hp
  have hsz : z.cells.size = ie.size := by rw [len_cells (hzs fun _ => none), he]
  have hpos : 0 < ie.size := Nat.pos_of_ne_zero fun e => by rw [e] at hp; simp at hp
  refine ⟨_, h, bsl_ok ho hd hi hz hsm (by omega) (fun ρ => ?_) hps⟩
  have hm : (madeCells z.cells (n * ie.size)).toList = (List.replicate n z.cells.toList).flatten := by rw [← hsz]; exact madeCells_rep z.cells (by omega) n
  rw [hm]; exact (hzs ρ).rep n
theorem bsl0_ok {t el : Nat} {ie : TypeInfo} {ps : Array (Nat × Operand)} (ho : o.op = .buildSlice t 0 ps) (hps : ps.toList = []) (ht : P.underlying t = some (.slice el)) (hi : P.info? el = some ie) : AllocOk P E o (.bsl 0 ie.size [] []) := fun fr k h => by
  have hp : ps = #[] := by obtain ⟨l⟩ := ps; simp only at hps; subst hps; rfl
  subst hp
  have h : k (.sl 0 0 true ie.size) [] = true := h
  refine ⟨_, _, h, .of fun ρ e w he hh => ⟨.slice (some ⟨w.heap.size, 0, none⟩) 0 0, el, [], ?_, VRs.nil, fun u hu => (List.not_mem_nil hu).elim, fun ρ' i hi => ?_⟩⟩
  · have hr : ∀ f : Nat → Value, Array.map f (Array.range 0) = #[] := fun f => by simp [Array.range]
    simp [execOp, ho, Instr.buildSlice, run_underlying ht, run_sizeOf hi, Instr.fill, newRow, hr]
  · show VR E ρ' (.sl i 0 0 0 true ie.size) _
    simp only [VR]
    exact ⟨_, 0, hi, rfl, Nat.le_refl _, fun _ => rfl, by simp, fun _ => rfl, Nat.zero_le _⟩
theorem cBsl_some (hT : TypesOf P tt) {t n : Nat} {ps : Array (Nat × Operand)} (ho : o.op = .buildSlice t n ps) (h : cBsl tt t n ps k = true) : Got P E F o k := by
  cases n with
  | succ n => exact cBslN_some hT ho h
  | zero =>
    change @List.rec (Nat × Operand) (fun _ => Bool) (undK tt t fun d => sliceK d fun el => infoK tt el fun ie => forceN ie.size fun es => k (.a (.bsl 0 es [] []))) (fun _ _ _ => false) ps.toList = true at h
    cases hps : ps.toList with
    | cons x l => rw [hps] at h; cases h
    | nil =>
      rw [hps] at h
      replace h := undK_some hT h
      obtain ⟨d, hd, h⟩ := h
      replace h := sliceK_some h
      obtain ⟨el, rfl, h⟩ := h
      replace h := infoK_some hT h
      obtain ⟨ie, hi, h⟩ := h
      rw [forceN_eq] at h
      exact ⟨_, h, bsl0_ok ho hps hd hi⟩
theorem cLoad_some (hT : TypesOf P tt) {t : Nat} {x : Operand} (ho : o.op = .load t x) (h : cLoad tt t x k = true) : Got P E F o k := by
  unfold cLoad at h
  replace h := undK_some hT h
  obtain ⟨d, hd, h⟩ := h
  replace h := aggDK_some hd h
  rcases h with ⟨h, hg⟩ | ⟨h, hg⟩
  · replace h := infoK_some hT h
    obtain ⟨it, hi, h⟩ := h
    rw [forceN_eq] at h
    replace h := copdK_some (E := E) h
    obtain ⟨c, h, hc⟩ := h
    exact ⟨_, h, ldn_ok ho hg hi hc⟩
  · replace h := copdK_some (E := E) h
    obtain ⟨c, h, hc⟩ := h
    exact ⟨_, h, ld1_ok ho hg hc⟩
theorem cStore_some (hT : TypesOf P tt) {t : Nat} {x y : Operand} (ho : o.op = .store t x y) (h : cStore tt t x y k = true) : Got P E F o k := by
  unfold cStore at h
  replace h := infoK_some hT h
  obtain ⟨it, hi, h⟩ := h
  rw [forceN_eq] at h
  replace h := copdK_some (E := E) h
  obtain ⟨c, h, hc⟩ := h
  replace h := copdK_some (E := E) h
  obtain ⟨d, h, hd⟩ := h
  exact ⟨_, h, st_ok ho hi hc hd⟩
theorem cNilck_some {x : Operand} (ho : o.op = .nilCheck x) (h : cNilck x k = true) : Got P E F o k := by
  unfold cNilck at h
  replace h := copdK_some (E := E) h
  obtain ⟨c, h, hc⟩ := h
  exact ⟨_, h, nilck_ok ho hc⟩
theorem cBin_some (hF : F.Of E) {op : BinOp} {t t' : Nat} {x y : Operand} (ho : o.op = .binOp op t x y t') (hop : op ≠ .eql ∧ op ≠ .neq) (h : cBin tt op t x y k = true) : Got P E F o k := by
  unfold cBin at h
  replace h := getK_some h
  obtain ⟨i, _, h⟩ := h
  have key : ∀ d : TypeDesc, (tagK d fun n => copdK x fun c => copdK y fun d => ifK (Nat.beq n 2) (k (.p (.tb op c d))) (k (.p (.ib op c d)))) = true → Got P E F o k := by
    intro d h
    replace h := tagK_some h
    obtain ⟨n, _, h⟩ := h
    replace h := copdK_some (E := E) h
    obtain ⟨c, h, hc⟩ := h
    replace h := copdK_some (E := E) h
    obtain ⟨d, h, hd⟩ := h
    cases hb : Nat.beq n 2 with
    | true => rw [hb] at h; exact ⟨_, h, tb_ok ho hop hc hd⟩
    | false => rw [hb] at h; exact ⟨_, h, ib_ok hF ho hop hc hd⟩
  replace h := namedK_some h
  rcases h with ⟨_, u, _, h⟩ | ⟨_, h⟩
  · replace h := getK_some h
    obtain ⟨j, _, h⟩ := h
    exact key _ h
  · exact key _ h
theorem ifK_two {b t e : Bool} (h : ifK b t e = true) : (b = true ∧ t = true) ∨ (b = false ∧ e = true) := by cases b <;> first | exact .inr ⟨rfl, h⟩ | exact .inl ⟨rfl, h⟩
theorem cEq_some (hT : TypesOf P tt) (hF : F.Of E) {neg : Bool} {op : BinOp} {t t' : Nat} {x y : Operand} (ho : o.op = .binOp op t x y t') (hop : op = if neg then .neq else .eql) (h : cEq P tt neg t x y k = true) : Got P E F o k := by
  unfold cEq at h
  replace h := undK_some hT h
  obtain ⟨d, hd, h⟩ := h
  replace h := shapeK_some h
  obtain ⟨n, hn, h⟩ := h
  replace h := copdK_some (E := E) h
  obtain ⟨c, h, hc⟩ := h
  replace h := copdK_some (E := E) h
  obtain ⟨c', h, hc'⟩ := h
  have tag : ∀ m, DescTag d m → k (.p (.eqp m neg c c')) = true → Got P E F o k := fun m hm h => ⟨_, h, eqp_ok hF ho hop hd hm hc hc'⟩
  replace h := ifK_two h
  rcases h with ⟨e, h⟩ | ⟨_, h⟩
  · have := beq_of e; subst this
    refine tag 0 (.inl ⟨rfl, ?_⟩) h
    unfold DescShape at hn
    rcases hn with ⟨h, _⟩ | ⟨h, _⟩ | ⟨h, _⟩ | ⟨h, _⟩ | ⟨h, _⟩ | ⟨h, _⟩ | ⟨h, _⟩ | ⟨h, _⟩ | ⟨_, h⟩ <;> first | exact h | omega
  replace h := ifK_two h
  rcases h with ⟨e, h⟩ | ⟨_, h⟩
  · have := beq_of e; subst this
    refine tag 1 (.inr (.inl ⟨rfl, ?_⟩)) h
    unfold DescShape at hn
    rcases hn with ⟨h, _⟩ | ⟨h, _⟩ | ⟨h, _⟩ | ⟨h, _⟩ | ⟨_, h⟩ | ⟨h, _⟩ | ⟨h, _⟩ | ⟨h, _⟩ | ⟨h, _⟩ <;> first | exact h | omega
  replace h := ifK_two h
  rcases h with ⟨e, h⟩ | ⟨_, h⟩
  · have := beq_of e; subst this
    refine tag 2 (.inr (.inr ⟨rfl, ?_⟩)) h
    unfold DescShape at hn
    rcases hn with ⟨_, h⟩ | ⟨h, _⟩ | ⟨h, _⟩ | ⟨h, _⟩ | ⟨h, _⟩ | ⟨h, _⟩ | ⟨h, _⟩ | ⟨h, _⟩ | ⟨h, _⟩ <;> first | exact h | omega
  replace h := ifK_two h
  rcases h with ⟨e, h⟩ | ⟨_, h⟩
  · obtain ⟨hg, h⟩ := notB_some h
    replace h := leavesK_some hT h
    obtain ⟨l, h, hr⟩ := h
    exact ⟨_, h, eqs_ok hF ho hop (by omega) hr hg hc hc'⟩
  replace h := isConst_some h
  rcases h with ⟨hx, h⟩ | h
  · exact ⟨_, h, eqn_ok ho hop hd hn (.inl hx) hc hc'⟩
  replace h := isConst_some h
  rcases h with ⟨hx, h⟩ | h
  · exact ⟨_, h, eqn_ok ho hop hd hn (.inr hx) hc hc'⟩
  rcases pointerDK_some h with ⟨e, rfl, h⟩ | h
  · obtain ⟨j, hj, h⟩ := infoK_some hT h
    exact ⟨_, h, eqpp_ok ho hop hd hj hc hc'⟩
  obtain ⟨ms, rfl, h⟩ := ifaceDK_some h
  refine ⟨_, h, eqi_ok ho hop hd (fun u k hk => ?_) hc hc'⟩
  unfold numT at hk
  replace hk := undK_some hT hk
  obtain ⟨d, hd, hk⟩ := hk
  obtain ⟨q, rfl, hk⟩ := intDK_some hk
  replace hk := infoK_some hT hk
  obtain ⟨i, hi, hk⟩ := hk
  obtain ⟨hcmp, hk⟩ := ifK_and hk
  exact ⟨q, i, hk, hd, hi, hcmp⟩
theorem cBinop_some (hT : TypesOf P tt) (hF : F.Of E) {op : BinOp} {t t' : Nat} {x y : Operand} (ho : o.op = .binOp op t x y t') (h : cBinop P tt op t x y k = true) : Got P E F o k := by
  cases op with
  | eql => exact cEq_some hT hF ho (neg := false) rfl h
  | neq => exact cEq_some hT hF ho (neg := true) rfl h
  | _ => exact cBin_some hF ho ⟨by decide, by decide⟩ h
theorem cUn_some {op : UnOp} {t : Nat} {x : Operand} (ho : o.op = .unOp op t x) (h : cUn op x k = true) : Got P E F o k := by
  cases op with
  | neg =>
    replace h := copdK_some (E := E) (k := fun c => k (.p (.neg c))) h
    obtain ⟨c, h, hc⟩ := h
    exact ⟨_, h, neg_ok ho hc⟩
  | not =>
    replace h := copdK_some (E := E) (k := fun c => k (.p (.not c))) h
    obtain ⟨c, h, hc⟩ := h
    exact ⟨_, h, not_ok ho hc⟩
  | _ => exact stuck_got h
theorem shape_str {d : TypeDesc} (h : DescShape d 0) : d = .string := by
  unfold DescShape at h
  rcases h with ⟨_, h⟩ | ⟨h, _⟩ | ⟨h, _⟩ | ⟨h, _⟩ | ⟨h, _⟩ | ⟨h, _⟩ | ⟨h, _⟩ | ⟨h, _⟩ | ⟨h, _⟩ <;> first | exact h | omega
theorem cConv_some (hT : TypesOf P tt) {s d : Nat} {x : Operand} (ho : o.op = .convert s d x) (h : cConv tt s d x k = true) : Got P E F o k := by
  unfold cConv at h
  replace h := undK_some hT h
  obtain ⟨ds, hs, h⟩ := h
  replace h := undK_some hT h
  obtain ⟨dd, hd, h⟩ := h
  replace h := shapeK_some h
  obtain ⟨n, hn, h⟩ := h
  replace h := copdK_some (E := E) h
  obtain ⟨c, h, hc⟩ := h
  replace h := ifK_two h
  rcases h with ⟨_, h⟩ | ⟨_, h⟩
  · replace h := intDK_some h
    obtain ⟨q, rfl, h⟩ := h
    exact ⟨_, h, conv_ok ho hs hd hc⟩
  replace h := ifK_two h
  rcases h with ⟨e, h⟩ | ⟨_, h⟩
  · have := beq_of e; subst this
    have := shape_str hn; subst this
    replace h := sliceK_some h
    obtain ⟨el, rfl, h⟩ := h
    replace h := undK_some hT h
    obtain ⟨de, he, h⟩ := h
    replace h := intDK_some h
    obtain ⟨q, rfl, h⟩ := h
    replace h := ifK_and h
    obtain ⟨hq, h⟩ := h
    have := kindEq_of hq; subst this
    exact ⟨_, h, b2s_ok ho hs he hd hc⟩
  · replace h := sliceK_some h
    obtain ⟨el, rfl, h⟩ := h
    replace h := undK_some hT h
    obtain ⟨de, he, h⟩ := h
    replace h := intDK_some h
    obtain ⟨q, rfl, h⟩ := h
    replace h := ifK_and h
    obtain ⟨hq, h⟩ := h
    have := kindEq_of hq; subst this
    replace h := shapeK_some h
    obtain ⟨m, hm, h⟩ := h
    replace h := ifK_and h
    obtain ⟨e, h⟩ := h
    have := beq_of e; subst this
    have := shape_str hm; subst this
    exact ⟨_, h, s2b_ok ho hs hd he hc⟩
theorem cells_of_info {t : Nat} {it : TypeInfo} (h : P.info? t = some it) : P.cellsOf t = it.size := by simp [Program.cellsOf, h]
theorem cRaw_some (hT : TypesOf P tt) {s d : Nat} {x : Operand} {e : Bool} (ho : o.op = .convert s d x) (h : cRaw tt s d x k e = true) : Got P E F o k ∨ e = true := by
  unfold cRaw at h
  obtain ⟨ds, hs, h⟩ := undK_some hT h
  obtain ⟨dd, hd, h⟩ := undK_some hT h
  rcases rawDK_some h with ⟨rfl, h⟩ | h
  · rcases pointerDK_some h with ⟨t, rfl, h⟩ | h
    · obtain ⟨it, hi, h⟩ := infoK_some hT h
      replace h := ifK_and h
      obtain ⟨h0, h⟩ := h
      obtain ⟨c, h, hc⟩ := copdK_some (E := E) h
      exact .inl ⟨_, h, tou_ok ho hs hd hi (blt_of h0) hc⟩
    · cases h
  · rcases rawDK_some h with ⟨rfl, h⟩ | h
    · rcases pointerDK_some h with ⟨u, rfl, h⟩ | h
      · obtain ⟨it, hi, h⟩ := infoK_some hT h
        rw [forceN_eq] at h
        replace h := ifK_and h
        obtain ⟨h0, h⟩ := h
        obtain ⟨c, h, hc⟩ := copdK_some (E := E) h
        rw [forceN_eq] at h
        exact .inl ⟨_, h, fru_ok ho hs hd hi (cells_of_info hi) (blt_of h0) hc⟩
      · cases h
    · exact .inr h
theorem cMkif_some (hT : TypesOf P tt) {t : Nat} {x : Operand} (ho : o.op = .makeInterface t x) (h : cMkif tt t x k = true) : Got P E F o k := by
  unfold cMkif at h
  replace h := undK_some hT h
  obtain ⟨d, hd, h⟩ := h
  replace h := shapeK_some h
  obtain ⟨n, hn, h⟩ := h
  replace h := ifK_two h
  rcases h with ⟨_, h⟩ | ⟨e, h⟩
  · exact stuck_got h
  · replace h := copdK_some (E := E) h
    obtain ⟨c, h, hc⟩ := h
    rw [forceN_eq] at h
    exact ⟨_, h, mkif_ok ho hd hn (fun e' => by subst e'; cases e) hc⟩
theorem cMkfn_some {f : Fn} {a b : Array Operand} (ho : o.op = .makeFunc f a b) (h : cMkfn f a b k = true) : Got P E F o k := by
  unfold cMkfn at h
  replace h := copdsK_some (E := E) h
  obtain ⟨ca, h, ha⟩ := h
  replace h := copdsK_some (E := E) h
  obtain ⟨cb, h, hb⟩ := h
  exact ⟨_, h, mkfn_ok ho ha hb⟩
theorem cMksl_some (hT : TypesOf P tt) {t : Nat} {x y : Operand} (ho : o.op = .makeSlice t x y) (h : cMksl tt t x y k = true) : Got P E F o k := by
  unfold cMksl at h
  replace h := undK_some hT h
  obtain ⟨d, hd, h⟩ := h
  replace h := sliceK_some h
  obtain ⟨el, rfl, h⟩ := h
  replace h := infoK_some hT h
  obtain ⟨ie, hi, h⟩ := h
  replace h := zeroK_some h
  obtain ⟨z, hz, h⟩ := h
  replace h := constCellsK_some (E := E) h
  obtain ⟨zs, h, _, h1, hzs⟩ := h
  rw [lenK_eq, Nat.zero_add] at h
  replace h := ifK_and h
  obtain ⟨he, h⟩ := h
  replace h := ifK_and h
  obtain ⟨hp, h⟩ := h
  replace h := copdK_some (E := E) h
  obtain ⟨c, h, hc⟩ := h
  replace h := copdK_some (E := E) h
  obtain ⟨d, h, hd'⟩ := h
  rw [forceN_eq] at h
  have he := beq_of he
  rw [he] at h hp
  exact ⟨_, h, mksl_ok ho hd hi hz hzs h1 (by rw [len_cells (hzs fun _ => none), he]) (blt_of hp) hc hd'⟩
theorem shape_slice {d : TypeDesc} (h : DescShape d 0) : d = .string := shape_str h
theorem cSlice_some (hT : TypesOf P tt) {t : Nat} {x : Operand} {lo hi mx : Option Operand} (ho : o.op = .slice t x lo hi mx) (h : cSlice tt t x lo hi mx k = true) : Got P E F o k := by
  unfold cSlice at h
  replace h := undK_some hT h
  obtain ⟨d, hd, h⟩ := h
  replace h := shapeK_some h
  obtain ⟨n, hn, h⟩ := h
  replace h := copdK_some (E := E) h
  obtain ⟨c, h, hc⟩ := h
  replace h := coptK_some (E := E) h
  obtain ⟨cl, h, hl⟩ := h
  replace h := coptK_some (E := E) h
  obtain ⟨ch, h, hh⟩ := h
  replace h := ifK_two h
  rcases h with ⟨e, h⟩ | ⟨_, h⟩
  · have := beq_of e; subst this
    have := shape_str hn; subst this
    replace h := optNone_some h
    obtain ⟨rfl, h⟩ := h
    exact ⟨_, h, slcs_ok ho hd hc hl hh⟩
  replace h := ifK_two h
  rcases h with ⟨e, h⟩ | ⟨_, h⟩
  · replace h := sliceK_some h
    obtain ⟨el, rfl, h⟩ := h
    replace h := infoK_some hT h
    obtain ⟨ie, hi', h⟩ := h
    rw [forceN_eq] at h
    replace h := coptK_some (E := E) h
    obtain ⟨cm, h, hm⟩ := h
    cases mx with
    | none => exact ⟨_, h, slc_ok ho hd hi' (by simp) hc hl hh hm⟩
    | some m =>
      cases hi with
      | none => cases h
      | some i => exact ⟨_, h, slc_ok ho hd hi' (by simp) hc hl hh hm⟩
  · exact stuck_got h
theorem cFaddr_some (hT : TypesOf P tt) {s j : Nat} {x : Operand} (ho : o.op = .fieldAddr s x j) (h : cFaddr tt s x j k = true) : Got P E F o k := by
  unfold cFaddr at h
  replace h := undK_some hT h
  obtain ⟨d, hd, h⟩ := h
  replace h := structK_some h
  obtain ⟨fs, rfl, h⟩ := h
  replace h := nthK_some h
  obtain ⟨f, hf, h⟩ := h
  replace h := infoK_some hT h
  obtain ⟨it, hi, h⟩ := h
  replace h := ifK_and h
  obtain ⟨hz, h⟩ := h
  rw [forceN_eq] at h
  replace h := copdK_some (E := E) h
  obtain ⟨c, h, hc⟩ := h
  have hz := blt_of hz
  exact ⟨_, h, faddr_ok ho hd (by simpa using hf) hi (by omega) hc⟩
theorem cField_some (hT : TypesOf P tt) {s j : Nat} {x : Operand} (ho : o.op = .field s x j) (h : cField tt s x j k = true) : Got P E F o k := by
  unfold cField at h
  replace h := undK_some hT h
  obtain ⟨d, hd, h⟩ := h
  replace h := structK_some h
  obtain ⟨fs, rfl, h⟩ := h
  replace h := nthK_some h
  obtain ⟨f, hf, h⟩ := h
  replace h := undK_some hT h
  obtain ⟨e, he, h⟩ := h
  rw [forceN_eq] at h
  replace h := copdK_some (E := E) h
  obtain ⟨c, h, hc⟩ := h
  replace h := aggDK_some he h
  rcases h with ⟨h, hg⟩ | ⟨h, hg⟩
  · replace h := infoK_some hT h
    obtain ⟨it, hi, h⟩ := h
    rw [forceN_eq] at h
    exact ⟨_, h, fldn_ok ho hd (by simpa using hf) hg hi hc⟩
  · exact ⟨_, h, fld1_ok ho hd (by simpa using hf) hg 0 hc⟩
theorem cIaddr_some (hT : TypesOf P tt) {t : Nat} {x j : Operand} (ho : o.op = .indexAddr t x j) (h : cIaddr tt t x j k = true) : Got P E F o k := by
  unfold cIaddr at h
  replace h := undK_some hT h
  obtain ⟨d, hd, h⟩ := h
  replace h := shapeK_some h
  obtain ⟨n, hn, h⟩ := h
  replace h := copdK_some (E := E) h
  obtain ⟨c, h, hc⟩ := h
  replace h := copdK_some (E := E) h
  obtain ⟨e, h, he⟩ := h
  replace h := ifK_two h
  rcases h with ⟨_, h⟩ | ⟨_, h⟩
  · replace h := sliceK_some h
    obtain ⟨el, rfl, h⟩ := h
    replace h := infoK_some hT h
    obtain ⟨ie, hi, h⟩ := h
    rw [forceN_eq] at h
    exact ⟨_, h, iaddr_ok ho hd hi hc he⟩
  replace h := ifK_two h
  rcases h with ⟨_, h⟩ | ⟨_, h⟩
  · replace h := arrayK_some h
    obtain ⟨m, el, rfl, h⟩ := h
    replace h := infoK_some hT h
    obtain ⟨ie, hi, h⟩ := h
    rw [forceN_eq, forceN_eq] at h
    exact ⟨_, h, iaddra_ok ho hd hi hc he⟩
  · exact stuck_got h
theorem cIndex_some (hT : TypesOf P tt) {t : Nat} {x j : Operand} (ho : o.op = .index t x j) (h : cIndex tt t x j k = true) : Got P E F o k := by
  unfold cIndex at h
  replace h := undK_some hT h
  obtain ⟨d, hd, h⟩ := h
  replace h := shapeK_some h
  obtain ⟨n, hn, h⟩ := h
  replace h := ifK_two h
  rcases h with ⟨e, h⟩ | ⟨_, h⟩
  · have := beq_of e; subst this
    have := shape_str hn; subst this
    replace h := copdK_some (E := E) h
    obtain ⟨c, h, hc⟩ := h
    replace h := copdK_some (E := E) h
    obtain ⟨e, h, he⟩ := h
    exact ⟨_, h, idxs_ok ho hd hc he⟩
  · exact stuck_got h
theorem cTass_some (hT : TypesOf P tt) {x : Operand} {xt t : Nat} {ok : Bool} (ho : o.op = .typeAssert x xt t ok) (h : cTass tt x t ok k = true) : Got P E F o k := by
  unfold cTass at h
  replace h := undK_some hT h
  obtain ⟨d, hd, h⟩ := h
  replace h := shapeK_some h
  obtain ⟨n, hn, h⟩ := h
  replace h := infoK_some hT h
  obtain ⟨it, hi, h⟩ := h
  replace h := zeroK_some h
  obtain ⟨z, hz, h⟩ := h
  replace h := constK_some (E := E) h
  obtain ⟨za, h, hza⟩ := h
  replace h := copdK_some (E := E) h
  obtain ⟨c, h, hc⟩ := h
  replace h := ifK_two h
  rcases h with ⟨_, h⟩ | ⟨e, h⟩
  · cases ok with
    | false => exact stuck_got h
    | true =>
      obtain ⟨ms, rfl, h⟩ := ifaceDK_some h
      refine ⟨_, h, tassi_ok ho hd hi hz hza (fun u k hk => ?_) hc⟩
      unfold lackK at hk
      replace hk := infoK_some hT hk
      obtain ⟨i, hi, hk⟩ := hk
      rw [forceB_eq] at hk
      exact ⟨i, hi, hk⟩
  · rw [forceN_eq] at h
    exact ⟨_, h, tass_ok ho hd hn (fun e' => by subst e'; cases e) hi hz hza hc⟩
theorem cExt_some {x : Operand} {i : Nat} (ho : o.op = .extract x i) (h : cExt x i k = true) : Got P E F o k := by
  unfold cExt at h
  replace h := copdK_some (E := E) h
  obtain ⟨c, h, hc⟩ := h
  rw [forceN_eq] at h
  exact ⟨_, h, ext_ok ho hc⟩
theorem call_eq {b : Builtin} {c : Call} {xs : List Operand} {ts : List Nat} (hb : c.callee = .builtin b) (hx : c.args.toList = xs) (ht : c.argTypes.toList = ts) : c = ⟨.builtin b, xs.toArray, ts.toArray⟩ := by
  obtain ⟨callee, ⟨a⟩, ⟨t⟩⟩ := c
  simp only at hb hx ht
  subst hb; subst hx; subst ht; rfl
theorem cLen_some (hT : TypesOf P tt) {c : Call} (ho : o.op = .call c) (hb : c.callee = .builtin .len) (h : cLen tt c.args.toList c.argTypes.toList k = true) : Got P E F o k := by
  unfold cLen at h
  replace h := l1K_some h
  rcases h with ⟨x, hx, h⟩ | h
  · replace h := l1K_some h
    rcases h with ⟨t, ht, h⟩ | h
    · have hc := call_eq hb hx ht
      rw [hc] at ho
      replace h := undK_some hT h
      obtain ⟨d, hd, h⟩ := h
      replace h := shapeK_some h
      obtain ⟨n, hn, h⟩ := h
      replace h := ifK_two h
      rcases h with ⟨e, h⟩ | ⟨_, h⟩
      · have := beq_of e; subst this
        have := shape_str hn; subst this
        replace h := copdK_some (E := E) h
        obtain ⟨c, h, hc⟩ := h
        exact ⟨_, h, lens_ok ho hd hc⟩
      replace h := ifK_two h
      rcases h with ⟨e, h⟩ | ⟨_, h⟩
      · have := beq_of e; subst this
        obtain ⟨el, rfl⟩ : ∃ el, d = .slice el := by
          unfold DescShape at hn
          rcases hn with ⟨h, _⟩ | ⟨_, h⟩ | ⟨h, _⟩ | ⟨h, _⟩ | ⟨h, _⟩ | ⟨h, _⟩ | ⟨h, _⟩ | ⟨h, _⟩ | ⟨h, _⟩ <;> first | exact h | omega
        replace h := copdK_some (E := E) h
        obtain ⟨c, h, hc⟩ := h
        exact ⟨_, h, lenl_ok ho hd hc⟩
      replace h := ifK_two h
      rcases h with ⟨e, h⟩ | ⟨_, h⟩
      · replace h := arrayK_some h
        obtain ⟨m, el, rfl, h⟩ := h
        rw [forceN_eq] at h
        exact ⟨_, h, lenc_ok ho hd⟩
      · exact stuck_got h
    · exact stuck_got h
  · exact stuck_got h
theorem cCap_some (hT : TypesOf P tt) {c : Call} (ho : o.op = .call c) (hb : c.callee = .builtin .cap) (h : cCap tt c.args.toList c.argTypes.toList k = true) : Got P E F o k := by
  unfold cCap at h
  replace h := l1K_some h
  rcases h with ⟨x, hx, h⟩ | h
  · replace h := l1K_some h
    rcases h with ⟨t, ht, h⟩ | h
    · have hc := call_eq hb hx ht
      rw [hc] at ho
      replace h := undK_some hT h
      obtain ⟨d, hd, h⟩ := h
      replace h := shapeK_some h
      obtain ⟨n, hn, h⟩ := h
      replace h := ifK_two h
      rcases h with ⟨e, h⟩ | ⟨_, h⟩
      · have := beq_of e; subst this
        obtain ⟨el, rfl⟩ : ∃ el, d = .slice el := by
          unfold DescShape at hn
          rcases hn with ⟨h, _⟩ | ⟨_, h⟩ | ⟨h, _⟩ | ⟨h, _⟩ | ⟨h, _⟩ | ⟨h, _⟩ | ⟨h, _⟩ | ⟨h, _⟩ | ⟨h, _⟩ <;> first | exact h | omega
        replace h := copdK_some (E := E) h
        obtain ⟨c, h, hc⟩ := h
        exact ⟨_, h, capv_ok ho hd hc⟩
      · exact stuck_got h
    · exact stuck_got h
  · exact stuck_got h
theorem cSdata_some {c : Call} (ho : o.op = .call c) (hb : c.callee = .builtin .unsafeSliceData) (h : cSdata c.args.toList k = true) : Got P E F o k := by
  unfold cSdata at h
  rcases l1K_some h with ⟨x, hx, h⟩ | h
  · have hc := call_eq hb hx rfl
    rw [hc] at ho
    obtain ⟨c, h, hc⟩ := copdK_some (E := E) h
    exact ⟨_, h, sdata_ok ho hc⟩
  · exact stuck_got h
theorem cUstr_some (hT : TypesOf P tt) {c : Call} (ho : o.op = .call c) (hb : c.callee = .builtin .unsafeString) (h : cUstr tt c.args.toList c.argTypes.toList k = true) : Got P E F o k := by
  unfold cUstr at h
  rcases l2K_some h with ⟨x, y, hx, h⟩ | h
  · rcases l2K_some h with ⟨t, u, ht, h⟩ | h
    · have hc := call_eq hb hx ht
      rw [hc] at ho
      obtain ⟨d, hd, h⟩ := undK_some hT h
      rcases pointerDK_some h with ⟨et, rfl, h⟩ | h
      · obtain ⟨it, hi, h⟩ := infoK_some hT h
        replace h := ifK_and h
        obtain ⟨h1, h⟩ := h
        obtain ⟨c, h, hc⟩ := copdK_some (E := E) h
        obtain ⟨d, h, hd'⟩ := copdK_some (E := E) h
        rw [forceN_eq] at h
        exact ⟨_, h, ustr_ok ho hd (by rw [cells_of_info hi]; exact beq_of h1) hc hd'⟩
      · cases h
    · exact stuck_got h
  · exact stuck_got h
theorem cMm_some {mx : Bool} {c : Call} (ho : o.op = .call c) (hb : c.callee = .builtin (if mx then .max else .min)) (h : cMm mx c.args.toList k = true) : Got P E F o k := by
  unfold cMm at h
  replace h := l2K_some h
  rcases h with ⟨x, y, hx, h⟩ | h
  · have hc := call_eq hb hx rfl
    rw [hc] at ho
    replace h := copdK_some (E := E) h
    obtain ⟨c, h, hc⟩ := h
    replace h := copdK_some (E := E) h
    obtain ⟨d, h, hd⟩ := h
    exact ⟨_, h, mm_ok ho hc hd⟩
  · exact stuck_got h
theorem cApp_some (hT : TypesOf P tt) {c : Call} (ho : o.op = .call c) (hb : c.callee = .builtin .append) (h : cApp tt c.args.toList c.argTypes.toList k = true) : Got P E F o k := by
  unfold cApp at h
  replace h := l2K_some h
  rcases h with ⟨x, y, hx, h⟩ | h
  · replace h := l2K_some h
    rcases h with ⟨t, u, ht, h⟩ | h
    · have hc := call_eq hb hx ht
      rw [hc] at ho
      replace h := undK_some hT h
      obtain ⟨d, hd, h⟩ := h
      replace h := sliceK_some h
      obtain ⟨el, rfl, h⟩ := h
      replace h := infoK_some hT h
      obtain ⟨ie, hi, h⟩ := h
      replace h := zeroK_some h
      obtain ⟨z, hz, h⟩ := h
      replace h := constCellsK_some (E := E) h
      obtain ⟨zs, h, _, h1, hzs⟩ := h
      rw [lenK_eq, Nat.zero_add] at h
      replace h := ifK_and h
      obtain ⟨he, h⟩ := h
      replace h := undK_some hT h
      obtain ⟨du, hu, h⟩ := h
      replace h := shapeK_some h
      obtain ⟨n, hn, h⟩ := h
      replace h := copdK_some (E := E) h
      obtain ⟨c, h, hc⟩ := h
      replace h := copdK_some (E := E) h
      obtain ⟨d, h, hd'⟩ := h
      rw [forceN_eq] at h
      have he := beq_of he
      rw [he] at h
      replace h := ifK_two h
      rcases h with ⟨hle, h⟩ | ⟨_, h⟩
      rotate_left
      · obtain ⟨kq, rfl, h⟩ := intDK_some h
        exact ⟨_, h, appz_ok ho hd hu hi hz (by rw [len_cells (hzs fun _ => none), he]) hzs h1 hc hd'⟩
      rw [forceN_eq] at h
      have hle := ble_of hle
      have hdu : du = .string ∨ ∃ e, du = .slice e := by
        unfold DescShape at hn
        rcases hn with ⟨_, h⟩ | ⟨_, h⟩ | ⟨h, _⟩ | ⟨h, _⟩ | ⟨h, _⟩ | ⟨h, _⟩ | ⟨h, _⟩ | ⟨h, _⟩ | ⟨h, _⟩ <;> first | exact .inl h | exact .inr h | omega
      exact ⟨_, h, app_ok ho hd hu hdu hi hz (by rw [len_cells (hzs fun _ => none), he]) hc hd'⟩
    · exact stuck_got h
  · exact stuck_got h
theorem cCpy_some (hT : TypesOf P tt) {c : Call} (ho : o.op = .call c) (hb : c.callee = .builtin .copy) (h : cCpy tt c.args.toList c.argTypes.toList k = true) : Got P E F o k := by
  unfold cCpy at h
  replace h := l2K_some h
  rcases h with ⟨x, y, hx, h⟩ | h
  · replace h := l2K_some h
    rcases h with ⟨t, u, ht, h⟩ | h
    · have hc := call_eq hb hx ht
      rw [hc] at ho
      replace h := undK_some hT h
      obtain ⟨d, hd, h⟩ := h
      replace h := sliceK_some h
      obtain ⟨el, rfl, h⟩ := h
      replace h := infoK_some hT h
      obtain ⟨ie, hi, h⟩ := h
      rw [forceN_eq] at h
      replace h := copdK_some (E := E) h
      obtain ⟨c, h, hc⟩ := h
      replace h := copdK_some (E := E) h
      obtain ⟨d, h, hd'⟩ := h
      exact ⟨_, h, cpy_ok ho hd hi hc hd'⟩
    · exact stuck_got h
  · exact stuck_got h
theorem cClr_some (hT : TypesOf P tt) {c : Call} (ho : o.op = .call c) (hb : c.callee = .builtin .clear) (h : cClr tt c.args.toList c.argTypes.toList k = true) : Got P E F o k := by
  unfold cClr at h
  replace h := l1K_some h
  rcases h with ⟨x, hx, h⟩ | h
  · replace h := l1K_some h
    rcases h with ⟨t, ht, h⟩ | h
    · have hc := call_eq hb hx ht
      rw [hc] at ho
      replace h := undK_some hT h
      obtain ⟨d, hd, h⟩ := h
      replace h := shapeK_some h
      obtain ⟨n, hn, h⟩ := h
      replace h := ifK_two h
      rcases h with ⟨e, h⟩ | ⟨_, h⟩
      · replace h := sliceK_some h
        obtain ⟨el, rfl, h⟩ := h
        replace h := infoK_some hT h
        obtain ⟨ie, hi, h⟩ := h
        replace h := zeroK_some h
        obtain ⟨z, hz, h⟩ := h
        replace h := constCellsK_some (E := E) h
        obtain ⟨zs, h, _, h1, hzs⟩ := h
        rw [lenK_eq, Nat.zero_add] at h
        replace h := ifK_and h
        obtain ⟨he, h⟩ := h
        replace h := ifK_and h
        obtain ⟨hp, h⟩ := h
        replace h := copdK_some (E := E) h
        obtain ⟨c, h, hc⟩ := h
        have he := beq_of he
        rw [he] at h hp
        exact ⟨_, h, clr_ok ho hd hi hz (by rw [len_cells (hzs fun _ => none), he]) (blt_of hp) hzs h1 hc⟩
      · exact stuck_got h
    · exact stuck_got h
  · exact stuck_got h
theorem findM_some {nm : String} {k : Method → Bool} : ∀ {l : List Method}, findM nm k l = true → ∃ m, l.find? (fun m => m.name == nm) = some m ∧ k m = true
  | [], h => by cases h
  | x :: l, h => by
    change ifK (x.name == nm) (k x) (findM nm k l) = true at h
    rw [ifK_eq] at h
    cases hn : (x.name == nm) with
    | true => rw [hn] at h; exact ⟨x, by simp [List.find?, hn], by simpa using h⟩
    | false =>
      rw [hn] at h
      obtain ⟨m, h1, h2⟩ := findM_some (l := l) (by simpa using h)
      exact ⟨m, by simpa [List.find?, hn] using h1, h2⟩
theorem ptrDK_some {d : TypeDesc} {y n : Bool} (h : ptrDK d y n = true) : (y = true ∧ ∃ e, d = .pointer e) ∨ (n = true ∧ ∀ e, d ≠ .pointer e) := by
  unfold ptrDK at h
  obtain ⟨m, hm, h⟩ := shapeK_some h
  rcases ifK_two h with ⟨e, h⟩ | ⟨e, h⟩
  · have := beq_of e; subst this
    refine .inl ⟨h, ?_⟩
    unfold DescShape at hm
    rcases hm with ⟨h, _⟩ | ⟨h, _⟩ | ⟨h, _⟩ | ⟨_, h⟩ | ⟨h, _⟩ | ⟨h, _⟩ | ⟨h, _⟩ | ⟨h, _⟩ | ⟨h, _⟩ <;> first | exact h | omega
  · refine .inr ⟨h, fun el hd => ?_⟩
    subst hd
    unfold DescShape at hm
    rcases hm with ⟨_, h⟩ | ⟨_, _, h⟩ | ⟨_, _, _, h⟩ | ⟨h, _⟩ | ⟨_, _, h⟩ | ⟨_, _, h⟩ | ⟨_, _, _, _, h⟩ | ⟨_, _, h⟩ | ⟨_, h⟩ <;> first | (cases h; done) | (subst h; cases e)
theorem methK_some (hT : TypesOf P tt) {nm : String} {t : Nat} {k : Nat → Bool} (h : methK tt nm t k = true) : ∃ f, k f = true ∧ ∀ v w, (method (P.types.size + Made.depth) t v nm).run P w = .ok (f, v) w := by
  unfold methK at h
  replace h := infoK_some hT h
  obtain ⟨i, hi, h⟩ := h
  replace h := undK_some hT h
  obtain ⟨d, hd, h⟩ := h
  obtain ⟨m, hm, h⟩ := findM_some h
  have hpath : m.path.toList = [] ∧ methFK d (fun f => forceN f k) m.func = true := by
    cases hp : m.path.toList with
    | nil => rw [hp] at h; exact ⟨rfl, h⟩
    | cons a l => rw [hp] at h; cases h
  obtain ⟨hp, hq⟩ := hpath
  have hpe : m.path.isEmpty = true := by
    have : m.path = #[] := by apply Array.ext'; simpa using hp
    rw [this]; rfl
  have hfind : i.methods.find? (fun m => m.name == nm) = some m := by rw [← Array.find?_toList]; exact hm
  cases hf : m.func with
  | none => rw [hf] at hq; cases hq
  | some p =>
    obtain ⟨f, pr⟩ := p
    rw [hf] at hq
    have fuel : P.types.size + Made.depth = (P.types.size + Made.depth - 1) + 1 := by
      have : 0 < Made.depth := by decide
      omega
    have fin : k f = true → (∀ (v : Value) (w : World) (wr : Option String), (receiverAt t (.val v) pr wr).run P w = .ok v w) → ∃ f, k f = true ∧ ∀ v w, (method (P.types.size + Made.depth) t v nm).run P w = .ok (f, v) w := fun hk hr =>
      ⟨f, hk, fun v w => by
        rw [fuel, method]
        simp [typeInfo, hi, hfind, hp, follow, hf, hr]⟩
    cases pr with
    | false =>
      rcases ptrDK_some hq with ⟨h2, _⟩ | ⟨h2, hne⟩
      · cases h2
      · change forceN f k = true at h2
        rw [forceN_eq] at h2
        refine fin h2 fun v w wr => ?_
        simp only [receiverAt, Sem.run_bind, run_underlying hd, Result.andThen_ok]
        cases d with
        | pointer e => exact absurd rfl (hne e)
        | _ => simp [Place.get]
    | true =>
      rcases ptrDK_some hq with ⟨h2, el, rfl⟩ | ⟨h2, _⟩
      · change forceN f k = true at h2
        rw [forceN_eq] at h2
        refine fin h2 fun v w wr => ?_
        simp [receiverAt, run_underlying hd, Place.get]
      · cases h2
theorem cCall_some (hT : TypesOf P tt) {c : Call} (ho : o.op = .call c) (h : cCall tt c k = true) : Got P E F o k := by
  unfold cCall at h
  cases hb : c.callee with
  | value f =>
    rw [hb] at h
    change copdK f (fun f => copdsK c.args.toList fun xs => k (.call (.val f) xs)) = true at h
    replace h := copdK_some (E := E) h
    obtain ⟨g, h, hg⟩ := h
    replace h := copdsK_some (E := E) h
    obtain ⟨xs, h, hx⟩ := h
    refine ⟨_, h, c.args, ⟨f, c.argTypes, ?_, hg⟩, hx⟩
    rw [ho, ← hb]
  | invoke r m =>
    rw [hb] at h
    change copdK r (fun x => copdsK c.args.toList fun xs => k (.call (.inv x (methK tt m)) xs)) = true at h
    replace h := copdK_some (E := E) h
    obtain ⟨g, h, hg⟩ := h
    replace h := copdsK_some (E := E) h
    obtain ⟨xs, h, hx⟩ := h
    refine ⟨_, h, c.args, ⟨r, m, c.argTypes, ?_, hg, fun t k hk => methK_some hT hk⟩, hx⟩
    rw [ho, ← hb]
  | builtin b =>
    rw [hb] at h
    cases b with
    | append => exact cApp_some hT ho hb h
    | cap => exact cCap_some hT ho hb h
    | clear => exact cClr_some hT ho hb h
    | copy => exact cCpy_some hT ho hb h
    | len => exact cLen_some hT ho hb h
    | max => exact cMm_some (mx := true) ho hb h
    | min => exact cMm_some (mx := false) ho hb h
    | unsafeSliceData => exact cSdata_some ho hb h
    | unsafeString => exact cUstr_some hT ho hb h
    | _ => exact stuck_got h
theorem copK_some (hT : TypesOf P tt) (hF : F.Of E) (h : copK P tt o.op k = true) : Got P E F o k := by
  cases ho : o.op with
  | move x => rw [ho] at h; exact cMove_some (.inl ho) h
  | assign x => rw [ho] at h; exact cMove_some (.inr ho) h
  | pick a b c => rw [ho] at h; exact cPick_some ho h
  | alloc t => rw [ho] at h; exact cAlloc_some hT ho h
  | box t x => rw [ho] at h; exact cBox_some ho h
  | build t ps => rw [ho] at h; exact cBuild_some hT ho h
  | buildSlice t n ps => rw [ho] at h; exact cBsl_some hT ho h
  | load t x => rw [ho] at h; exact cLoad_some hT ho h
  | store t x y => rw [ho] at h; exact cStore_some hT ho h
  | nilCheck x => rw [ho] at h; exact cNilck_some ho h
  | binOp op t x y t' => rw [ho] at h; exact cBinop_some hT hF ho h
  | unOp op t x => rw [ho] at h; exact cUn_some ho h
  | convert s d x => rw [ho] at h; exact (cRaw_some hT ho h).elim id fun h => cConv_some hT ho h
  | makeInterface t x => rw [ho] at h; exact cMkif_some hT ho h
  | makeFunc f a b => rw [ho] at h; exact cMkfn_some ho h
  | makeSlice t x y => rw [ho] at h; exact cMksl_some hT ho h
  | slice t x lo hi mx => rw [ho] at h; exact cSlice_some hT ho h
  | fieldAddr t x j => rw [ho] at h; exact cFaddr_some hT ho h
  | field t x j => rw [ho] at h; exact cField_some hT ho h
  | indexAddr t x j => rw [ho] at h; exact cIaddr_some hT ho h
  | index t x j => rw [ho] at h; exact cIndex_some hT ho h
  | typeAssert x xt t ok => rw [ho] at h; exact cTass_some hT ho h
  | extract x i => rw [ho] at h; exact cExt_some ho h
  | call c => rw [ho] at h; exact cCall_some hT ho h
  | _ => rw [ho] at h; exact stuck_got h
/-- Where it cannot be said, it is never run. -/
noncomputable def copSafe (P : Program) (tt : T TypeInfo) (op : Op) (k : COp → Bool) : Bool := ifK (copK P tt op fun _ => true) (copK P tt op k) (k stuckOp)
theorem copSafe_some (hT : TypesOf P tt) (hF : F.Of E) (h : copSafe P tt o.op k = true) : Got P E F o k := by
  rcases ifK_two h with ⟨_, h⟩ | ⟨_, h⟩
  · exact copK_some hT hF h
  · exact stuck_got h
end
end Go.Proofs.YtfgmmabggjjhgaaGreatDoor.Ev
