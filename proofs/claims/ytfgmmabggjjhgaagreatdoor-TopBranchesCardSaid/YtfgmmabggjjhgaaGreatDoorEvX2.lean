/- The evaluator: rows of operations, code and calls do what the model says. It speaks of any program; nothing of the claim's own program stands here. -/
import Derived.Test.YtfgmmabggjjhgaaGreatDoorEvW3
namespace Go.Proofs.YtfgmmabggjjhgaaGreatDoor.Ev
open Go

/-! ### What is run -/
/-- What is called: a function's value; a method of what lies behind an interface. -/
inductive CCal where
  | val (x : COpd)
  | inv (x : COpd) (g : Nat → (Nat → Bool) → Bool)
inductive COp where
  | p (x : POp)
  | r (x : ROp)
  | a (x : AOp)
  | e (x : EOp)
  | call (f : CCal) (xs : List COpd)
inductive COper where
  | mk (dst : Option Nat) (g : Option (Nat × Bool)) (op : COp)
/-- Such an operation of a region that draws: its number; a mask of the reads that are done again behind it. -/
inductive DOper where
  | mk (dst : Option Nat) (g : Option (Nat × Bool)) (op : COp) (ix am : Nat)
inductive CCode where
  | skip
  | reg (l : List COper)
  | drg (l : List DOper)
  | seq (a b : CCode)
  | cond (x : COpd) (a b : CCode)
  | block (i : Nat) (b : CCode)
  | loop (b : CCode)
  | exit (i : Nat)
  | ret
inductive CRes where
  | tmp (t : Nat)
  | c1 (t : Nat)
  | cn (n t : Nat)
abbrev KV := AV → T Blk → Nat → Bool
abbrev CallF := Nat → List AV → T Blk → Nat → KV → Bool
inductive FnE where
  | code (n : Nat) (rs : List CRes) (c : CCode)
  | orc (g : List AV → T Blk → Nat → KV → Bool)
  | mix (g : (List AV → T Blk → Nat → KV → Bool) → List AV → T Blk → Nat → KV → Bool) (n : Nat) (rs : List CRes) (c : CCode)
/-- How code ends. -/
inductive CX where
  | norm
  | exit (i : Nat)
  | ret
abbrev KX := CX → T AV → T Blk → Nat → Bool
abbrev KF := T AV → T Blk → Nat → Bool

/-! ### how -/
noncomputable def cP (F : Facts) (x : POp) (fr : T AV) (h : T Blk) (nx : Nat) (k : KV) : Bool := pureK F x fr fun v => k v h nx
noncomputable def cR (x : ROp) (fr : T AV) (h : T Blk) (nx : Nat) (k : KV) : Bool := readOp x fr h fun v => k v h nx
noncomputable def cA (x : AOp) (fr : T AV) (h : T Blk) (nx : Nat) (k : KV) : Bool := allocOp x fr fun f cs => mkFK f cs h nx fun h nx' => k (afAV f nx) h nx'
noncomputable def calK (fr : T AV) (c : CCal) (k : Nat → List AV → List AV → Bool) : Bool :=
  @CCal.rec (fun _ => Bool) (fun x => opdK fr (fun v => fnK v fun g a b => fnFuncK g fun i => k i a b) x) (fun x g => opdK fr (fun v => ifcK v (fun t u => g t fun i => k i [u] []) false) x) c
noncomputable def cC (call : CallF) (f : CCal) (xs : List COpd) (fr : T AV) (h : T Blk) (nx : Nat) (k : KV) : Bool :=
  calK fr f fun i a b => opdsK fr xs fun as => appK as b fun as => appK a as fun as => call i as h nx k
noncomputable def opK (F : Facts) (call : CallF) (c : COp) : T AV → T Blk → Nat → KV → Bool := @COp.rec (fun _ => T AV → T Blk → Nat → KV → Bool) (cP F) cR cA effOp (cC call) c
noncomputable def putK (v : AV) (fr : T AV) (k : T AV → Bool) (d : Option Nat) : Bool := @Option.rec Nat (fun _ => Bool) (k fr) (fun d => setK v 40 fr d k) d
/-- A guard's answer; what was not wanted itself answers nothing. -/
noncomputable def boolUK (x : AV) (k : Bool → Bool) (u : Bool) : Bool :=
  @AV.casesOn (fun _ => Bool) x (fun b => k b) (fun _ _ => false) (fun _ _ => false) (fun _ _ => false) (fun _ => false) (fun _ _ => false) false (fun _ => false) (fun _ _ _ _ _ _ => false) false false (fun _ _ _ => false) false (fun _ _ => false) false (fun _ => false) (fun _ => u) false (fun _ _ => false)
theorem boolUK_some {x : AV} {k : Bool → Bool} {u : Bool} (h : boolUK x k u = true) : (∃ b, x = .bool b ∧ k b = true) ∨ ((∃ l, x = .tup l) ∧ u = true) := by
  cases x <;> first | exact .inl ⟨_, rfl, h⟩ | exact .inr ⟨⟨_, rfl⟩, h⟩ | cases h
noncomputable def guardK (fr : T AV) (yes no : Bool) (g : Option (Nat × Bool)) : Bool := @Option.rec (Nat × Bool) (fun _ => Bool) yes (fun p => getK (fun v => boolUK v (fun b => @Bool.rec (fun _ => Bool) (@Bool.rec (fun _ => Bool) yes no p.2) (@Bool.rec (fun _ => Bool) no yes p.2) b) no) fr p.1) g
noncomputable def operK (F : Facts) (call : CallF) (d : Option Nat) (g : Option (Nat × Bool)) (c : COp) (fr : T AV) (h : T Blk) (nx : Nat) (k : KF) : Bool :=
  guardK fr (opK F call c fr h nx fun v h nx => putK v fr (fun fr => k fr h nx) d) (putK und fr (fun fr => k fr h nx) d) g
noncomputable def regK (F : Facts) (call : CallF) (l : List COper) : T AV → T Blk → Nat → KF → Bool :=
  @List.rec COper (fun _ => T AV → T Blk → Nat → KF → Bool) (fun fr h nx k => k fr h nx) (fun o _ ih fr h nx k => @COper.rec (fun _ => Bool) (fun d g c => operK F call d g c fr h nx fun fr h nx => ih fr h nx k) o) l

/-! ### Are two values the same? -/
noncomputable def natsEq (k : Bool) (l : List Nat) : List Nat → Bool := @List.rec Nat (fun _ => List Nat → Bool) (fun m => @List.rec Nat (fun _ => Bool) k (fun _ _ _ => false) m) (fun x _ ih m => @List.rec Nat (fun _ => Bool) false (fun y ys _ => ifK (Nat.beq x y) (ih ys) false) m) l
noncomputable def intEq (k : Bool) (q : IntKind) (n : Int) (b : AV) : Bool := intK b fun q' m => ifK (kindEq q q') (ifK (beqI n m) k false) false
noncomputable def ptrEq (k : Bool) (i o : Nat) (b : AV) : Bool := ptrK b fun j p => ifK (Nat.beq i j) (ifK (Nat.beq o p) k false) false
noncomputable def strEq (k : Bool) (s : List Nat) (b : AV) : Bool := strK b fun t => natsEq k s t
noncomputable def nilN (b : AV) (k : Nat → Bool) : Bool :=
  @AV.casesOn (fun _ => Bool) b (fun _ => false) (fun _ _ => false) (fun _ _ => false) (fun _ _ => false) (fun _ => false) (fun _ _ => false) (k 0) (fun _ => false) (fun _ _ _ _ _ _ => false) (k 1) (k 4) (fun _ _ _ => false) (k 2) (fun _ _ => false) (k 3) (fun _ => false) (fun _ => false) false (fun _ _ => false)
noncomputable def isNil (k : Bool) (n : Nat) (b : AV) : Bool := nilN b fun m => ifK (Nat.beq n m) k false
noncomputable def boolEq (k : Bool) (x : Bool) (b : AV) : Bool := boolK b fun y => @Bool.rec (fun _ => Bool) (@Bool.rec (fun _ => Bool) k false y) (@Bool.rec (fun _ => Bool) false k y) x
noncomputable def symEq (k : Bool) (q : IntKind) (i : Nat) (b : AV) : Bool := numK b (fun _ _ => false) (fun q' j => ifK (kindEq q q') (ifK (Nat.beq i j) k false) false) (fun _ _ => false)
noncomputable def slEq (k : Bool) (i o n c : Nat) (ex : Bool) (es : Nat) (b : AV) : Bool :=
  slK b (fun i' o' n' c' ex' es' => ifK (Nat.beq i i') (ifK (Nat.beq o o') (ifK (Nat.beq n n') (ifK (Nat.beq c c') (ifK (Nat.beq es es') (@Bool.rec (fun _ => Bool) (@Bool.rec (fun _ => Bool) k false ex') (@Bool.rec (fun _ => Bool) false k ex') ex) false) false) false) false) false) false false
noncomputable def av0Eq (k : Bool) (a b : AV) : Bool :=
  @AV.casesOn (fun _ => Bool) a (fun _ => false) (fun q n => intEq k q n b) (fun _ _ => false) (fun _ _ => false) (fun s => strEq k s b) (fun i o => ptrEq k i o b) false (fun _ => false) (fun _ _ _ _ _ _ => false) false false (fun _ _ _ => false) false (fun _ _ => false) false (fun _ => false) (fun _ => false) false (fun _ _ => false)
noncomputable def ifcEq (k : Bool) (t : Nat) (v b : AV) : Bool := ifcK b (fun u w => ifK (Nat.beq t u) (av0Eq k v w) false) false
noncomputable def av1Eq (k : Bool) (a b : AV) : Bool :=
  @AV.casesOn (fun _ => Bool) a (fun x => boolEq k x b) (fun q n => intEq k q n b) (fun q i => symEq k q i b) (fun _ _ => false) (fun s => strEq k s b) (fun i o => ptrEq k i o b) (isNil k 0 b) (fun _ => false) (fun i o n c ex es => slEq k i o n c ex es b) (isNil k 1 b) (isNil k 4 b) (fun _ _ _ => false) (isNil k 2 b) (fun t v => ifcEq k t v b) (isNil k 3 b) (fun _ => false) (fun _ => false) false (fun _ _ => false)
noncomputable def avsEq (k : Bool) (l : List AV) : List AV → Bool := @List.rec AV (fun _ => List AV → Bool) (fun m => @List.rec AV (fun _ => Bool) k (fun _ _ _ => false) m) (fun x _ ih m => @List.rec AV (fun _ => Bool) false (fun y ys _ => av1Eq (ih ys) x y) m) l
noncomputable def avEq (k : Bool) (a b : AV) : Bool :=
  @AV.casesOn (fun _ => Bool) a (fun _ => av1Eq k a b) (fun _ _ => av1Eq k a b) (fun _ _ => av1Eq k a b) (fun _ _ => false) (fun _ => av1Eq k a b) (fun _ _ => av1Eq k a b) (av1Eq k a b) (fun _ => false) (fun _ _ _ _ _ _ => av1Eq k a b) (av1Eq k a b) (av1Eq k a b) (fun _ _ _ => false) (av1Eq k a b) (fun _ _ => av1Eq k a b) (av1Eq k a b) (fun l => aggK b fun m => avsEq k l m) (fun _ => false) false (fun _ _ => false)

theorem natsEq_some {k : Bool} : ∀ {l m : List Nat}, natsEq k l m = true → l = m ∧ k = true
  | [], [], h => ⟨rfl, h⟩
  | [], _ :: _, h => by cases h
  | _ :: _, [], h => by cases h
  | x :: l, y :: m, h => by
    obtain ⟨h1, h2⟩ := ifK_and (t := natsEq k l m) h
    obtain ⟨h3, h4⟩ := natsEq_some h2
    have := beq_of h1; subst this; subst h3
    exact ⟨rfl, h4⟩
theorem intEq_some {k : Bool} {q : IntKind} {n : Int} {b : AV} (h : intEq k q n b = true) : AV.int q n = b ∧ k = true := by
  replace h := intK_some (x := b) (k := fun q' m => ifK (kindEq q q') (ifK (beqI n m) k false) false) h
  obtain ⟨q', m, rfl, h⟩ := h
  obtain ⟨h1, h2⟩ := ifK_and h
  obtain ⟨h3, h4⟩ := ifK_and h2
  have := kindEq_of h1; subst this
  rw [beqI_eq] at h3
  have := of_decide_eq_true h3; subst this
  exact ⟨rfl, h4⟩
theorem ptrEq_some {k : Bool} {i o : Nat} {b : AV} (h : ptrEq k i o b = true) : AV.ptr i o = b ∧ k = true := by
  replace h := ptrK_some (x := b) (k := fun j p => ifK (Nat.beq i j) (ifK (Nat.beq o p) k false) false) h
  obtain ⟨j, p, rfl, h⟩ := h
  obtain ⟨h1, h2⟩ := ifK_and h
  obtain ⟨h3, h4⟩ := ifK_and h2
  have := beq_of h1; subst this
  have := beq_of h3; subst this
  exact ⟨rfl, h4⟩
theorem strEq_some {k : Bool} {s : List Nat} {b : AV} (h : strEq k s b = true) : AV.str s = b ∧ k = true := by
  replace h := strK_some (x := b) (k := fun t => natsEq k s t) h
  obtain ⟨t, rfl, h⟩ := h
  replace h := natsEq_some h
  obtain ⟨rfl, h⟩ := h
  exact ⟨rfl, h⟩
theorem isNil_some {k : Bool} {n : Nat} {b : AV} (h : isNil k n b = true) : k = true ∧ ((n = 0 ∧ b = .nilp) ∨ (n = 1 ∧ b = .nils) ∨ (n = 2 ∧ b = .nilf) ∨ (n = 3 ∧ b = .nili) ∨ (n = 4 ∧ b = .empt)) := by
  have go : ∀ m, ifK (Nat.beq n m) k false = true → k = true ∧ n = m := fun m h => by obtain ⟨h1, h2⟩ := ifK_and h; exact ⟨h2, beq_of h1⟩
  cases b with
  | nilp => obtain ⟨h1, h2⟩ := go 0 h; exact ⟨h1, .inl ⟨h2, rfl⟩⟩
  | nils => obtain ⟨h1, h2⟩ := go 1 h; exact ⟨h1, .inr (.inl ⟨h2, rfl⟩)⟩
  | nilf => obtain ⟨h1, h2⟩ := go 2 h; exact ⟨h1, .inr (.inr (.inl ⟨h2, rfl⟩))⟩
  | nili => obtain ⟨h1, h2⟩ := go 3 h; exact ⟨h1, .inr (.inr (.inr (.inl ⟨h2, rfl⟩)))⟩
  | empt => obtain ⟨h1, h2⟩ := go 4 h; exact ⟨h1, .inr (.inr (.inr (.inr ⟨h2, rfl⟩)))⟩
  | _ => cases h
theorem av0Eq_some {k : Bool} {a b : AV} (h : av0Eq k a b = true) : a = b ∧ k = true := by
  cases a with
  | int q n => exact intEq_some h
  | str s => exact strEq_some h
  | ptr i o => exact ptrEq_some h
  | _ => cases h
theorem av1Eq_some {k : Bool} {a b : AV} (h : av1Eq k a b = true) : a = b ∧ k = true := by
  cases a with
  | bool x =>
    replace h := boolK_some (x := b) (k := fun y => @Bool.rec (fun _ => Bool) (@Bool.rec (fun _ => Bool) k false y) (@Bool.rec (fun _ => Bool) false k y) x) h
    obtain ⟨y, rfl, h⟩ := h
    cases x <;> cases y <;> first | exact ⟨rfl, h⟩ | cases h
  | int q n => exact intEq_some h
  | sym q i =>
    replace h := numK_some (x := b) (k := fun _ _ => false) (s := fun q' j => ifK (kindEq q q') (ifK (Nat.beq i j) k false) false) (q := fun _ _ => false) h
    rcases h with ⟨_, _, _, h⟩ | ⟨q', j, rfl, h⟩ | ⟨_, _, _, h⟩
    · cases h
    · obtain ⟨h1, h2⟩ := ifK_and h
      obtain ⟨h3, h4⟩ := ifK_and h2
      have := kindEq_of h1; subst this
      have := beq_of h3; subst this
      exact ⟨rfl, h4⟩
    · cases h
  | str s => exact strEq_some h
  | ptr i o => exact ptrEq_some h
  | nilp => obtain ⟨h1, h2⟩ := isNil_some (n := 0) h; rcases h2 with ⟨_, h2⟩ | ⟨h2, _⟩ | ⟨h2, _⟩ | ⟨h2, _⟩ | ⟨h2, _⟩ <;> first | exact ⟨h2.symm, h1⟩ | cases h2
  | nils => obtain ⟨h1, h2⟩ := isNil_some (n := 1) h; rcases h2 with ⟨h2, _⟩ | ⟨_, h2⟩ | ⟨h2, _⟩ | ⟨h2, _⟩ | ⟨h2, _⟩ <;> first | exact ⟨h2.symm, h1⟩ | cases h2
  | nilf => obtain ⟨h1, h2⟩ := isNil_some (n := 2) h; rcases h2 with ⟨h2, _⟩ | ⟨h2, _⟩ | ⟨_, h2⟩ | ⟨h2, _⟩ | ⟨h2, _⟩ <;> first | exact ⟨h2.symm, h1⟩ | cases h2
  | nili => obtain ⟨h1, h2⟩ := isNil_some (n := 3) h; rcases h2 with ⟨h2, _⟩ | ⟨h2, _⟩ | ⟨h2, _⟩ | ⟨_, h2⟩ | ⟨h2, _⟩ <;> first | exact ⟨h2.symm, h1⟩ | cases h2
  | empt => obtain ⟨h1, h2⟩ := isNil_some (n := 4) h; rcases h2 with ⟨h2, _⟩ | ⟨h2, _⟩ | ⟨h2, _⟩ | ⟨h2, _⟩ | ⟨_, h2⟩ <;> first | exact ⟨h2.symm, h1⟩ | cases h2
  | sl i o n c ex es =>
    replace h := slK_some (x := b) (k := fun i' o' n' c' ex' es' => ifK (Nat.beq i i') (ifK (Nat.beq o o') (ifK (Nat.beq n n') (ifK (Nat.beq c c') (ifK (Nat.beq es es') (@Bool.rec (fun _ => Bool) (@Bool.rec (fun _ => Bool) k false ex') (@Bool.rec (fun _ => Bool) false k ex') ex) false) false) false) false) false) (nil := false) (em := false) h
    rcases h with ⟨i', o', n', c', ex', es', rfl, h⟩ | ⟨_, h⟩ | ⟨_, h⟩
    · replace h := ifK_and h
      obtain ⟨h1, h⟩ := h
      replace h := ifK_and h
      obtain ⟨h2, h⟩ := h
      replace h := ifK_and h
      obtain ⟨h3, h⟩ := h
      replace h := ifK_and h
      obtain ⟨h4, h⟩ := h
      replace h := ifK_and h
      obtain ⟨h5, h⟩ := h
      have := beq_of h1; subst this
      have := beq_of h2; subst this
      have := beq_of h3; subst this
      have := beq_of h4; subst this
      have := beq_of h5; subst this
      cases ex <;> cases ex' <;> first | exact ⟨rfl, h⟩ | cases h
    · cases h
    · cases h
  | ifc t v =>
    replace h := ifcK_some (x := b) (k := fun u w => ifK (Nat.beq t u) (av0Eq k v w) false) (nil := false) h
    rcases h with ⟨u, w, rfl, h⟩ | ⟨_, h⟩
    · obtain ⟨h1, h2⟩ := ifK_and h
      obtain ⟨h3, h4⟩ := av0Eq_some h2
      have := beq_of h1; subst this; subst h3
      exact ⟨rfl, h4⟩
    · cases h
  | _ => cases h
theorem avsEq_some {k : Bool} : ∀ {l m : List AV}, avsEq k l m = true → l = m ∧ k = true
  | [], [], h => ⟨rfl, h⟩
  | [], _ :: _, h => by cases h
  | _ :: _, [], h => by cases h
  | x :: l, y :: m, h => by
    obtain ⟨h1, h2⟩ := av1Eq_some (k := avsEq k l m) (a := x) (b := y) h
    obtain ⟨h3, h4⟩ := avsEq_some h2
    subst h1; subst h3
    exact ⟨rfl, h4⟩
theorem avEq_some {k : Bool} {a b : AV} (h : avEq k a b = true) : a = b ∧ k = true := by
  cases a with
  | agg l =>
    replace h := aggK_some (x := b) (k := fun m => avsEq k l m) h
    obtain ⟨m, rfl, h⟩ := h
    replace h := avsEq_some h
    obtain ⟨rfl, h⟩ := h
    exact ⟨rfl, h⟩
  | opq => cases h
  | glob => cases h
  | fn => cases h
  | tup => cases h
  | _ => exact av1Eq_some h

/-! ### A region that draws -/
abbrev Reads := List (Nat × T AV × AV × ROp)
/-- What was read, and might be read behind this, is read again. -/
noncomputable def againK (am : Nat) (h : T Blk) (k : Bool) (rl : Reads) : Bool :=
  @List.rec (Nat × T AV × AV × ROp) (fun _ => Bool) k (fun e _ ih => @Bool.rec (fun _ => Bool) ih (readOp e.2.2.2 e.2.1 h fun v => avEq ih e.2.2.1 v) (Nat.testBit am e.1)) rl
abbrev KD := T AV → T Blk → Nat → Reads → Bool
noncomputable def dP (F : Facts) (x : POp) (d : Option Nat) (fr : T AV) (h : T Blk) (nx : Nat) (rl : Reads) (k : KD) : Bool := pureK F x fr fun v => putK v fr (fun fr => k fr h nx rl) d
noncomputable def dR (ix : Nat) (x : ROp) (d : Option Nat) (fr : T AV) (h : T Blk) (nx : Nat) (rl : Reads) (k : KD) : Bool := readOp x fr h fun v => putK v fr (fun fr' => k fr' h nx ((ix, fr, v, x) :: rl)) d
noncomputable def dA (x : AOp) (d : Option Nat) (fr : T AV) (h : T Blk) (nx : Nat) (rl : Reads) (k : KD) : Bool := allocOp x fr fun f cs => mkFK f cs h nx fun h nx' => putK (afAV f nx) fr (fun fr => k fr h nx' rl) d
noncomputable def dE (am : Nat) (x : EOp) (d : Option Nat) (fr : T AV) (h : T Blk) (nx : Nat) (rl : Reads) (k : KD) : Bool := effOp x fr h nx fun v h nx => againK am h (putK v fr (fun fr => k fr h nx rl) d) rl
noncomputable def dC (call : CallF) (am : Nat) (f : CCal) (xs : List COpd) (d : Option Nat) (fr : T AV) (h : T Blk) (nx : Nat) (rl : Reads) (k : KD) : Bool := cC call f xs fr h nx fun v h nx => againK am h (putK v fr (fun fr => k fr h nx rl) d) rl
noncomputable def dOp (F : Facts) (call : CallF) (ix am : Nat) (c : COp) : Option Nat → T AV → T Blk → Nat → Reads → KD → Bool :=
  @COp.rec (fun _ => Option Nat → T AV → T Blk → Nat → Reads → KD → Bool) (dP F) (dR ix) dA (dE am) (dC call am) c
noncomputable def doperK (F : Facts) (call : CallF) (d : Option Nat) (g : Option (Nat × Bool)) (c : COp) (ix am : Nat) (fr : T AV) (h : T Blk) (nx : Nat) (rl : Reads) (k : KD) : Bool :=
  guardK fr (dOp F call ix am c d fr h nx rl k) (putK und fr (fun fr => k fr h nx rl) d) g
noncomputable def drgK (F : Facts) (call : CallF) (l : List DOper) : T AV → T Blk → Nat → Reads → KF → Bool :=
  @List.rec DOper (fun _ => T AV → T Blk → Nat → Reads → KF → Bool) (fun fr h nx _ k => k fr h nx) (fun o _ ih fr h nx rl k => @DOper.rec (fun _ => Bool) (fun d g c ix am => doperK F call d g c ix am fr h nx rl fun fr h nx rl => ih fr h nx rl k) o) l
end Go.Proofs.YtfgmmabggjjhgaaGreatDoor.Ev
set_option linter.unusedVariables false
set_option linter.unusedSimpArgs false
namespace Go.Proofs.YtfgmmabggjjhgaaGreatDoor.Ev
open Go

/-- The frame of an activation. -/
structure AInv (E : Env) (ρ : Nat → Option Loc) (N : Nat) (fr : Nat → AV → Prop) (a : Act) : Prop where
  defers : a.defers = []
  size : a.tmps.size = N
  at_ : ∀ t av, fr t av → t < N ∧ VR E ρ av (a.tmps.getD t undef)
def frOf (fr : T AV) : Nat → AV → Prop := fun t av => fr.get t = some av

/-- What was found, operation by operation, in one order. Classes: 0 looks at no memory, 1 reads, 2 makes a block, 3 may do anything. -/
structure Found where
  n : Nat
  ix : Nat → Nat
  cl : Nat → Nat
  v : Nat → AV
  dst : Nat → Option Nat
  fr : Nat → T AV
  h : Nat → T Blk
  nx : Nat → Nat
  blk : Nat → Blk
  rd : Nat → Nat → Prop
  dep : Nat → Nat → Prop

/-- The slots that the operation looks at hold what the tree says. -/
def Look (E : Env) (ρ : Nat → Option Loc) (fr : T AV) (rd : Nat → Prop) (a : Act) : Prop := ∀ t, rd t → ∀ av, fr.get t = some av → t < a.tmps.size ∧ VR E ρ av (a.tmps.getD t undef)

section
variable (P : Program) (E : Env) (ops : Array Oper) (Q : Exit → Act → World → Prop) (X : Found)
/-- It reads this in any world of which H is known. -/
def Found.reads (q : Nat) (H : Heap) : Prop := ∀ ρ a w (K : Act → World → Prop), Look E ρ (X.fr q) (X.rd q) a → Inv E ρ H w → (∀ u, VR E ρ (X.v q) u → K (a.put (X.dst q) u) w) → wpOp P ops Q (X.ix q) K a w
def Found.pures (q : Nat) : Prop := ∀ ρ a w (K : Act → World → Prop), Look E ρ (X.fr q) (X.rd q) a → (∀ u, VR E ρ (X.v q) u → K (a.put (X.dst q) u) w) → wpOp P ops Q (X.ix q) K a w
def Found.makes (q : Nat) : Prop := ∀ ρ a w (K : Act → World → Prop), Look E ρ (X.fr q) (X.rd q) a → (∀ u w' c el z m t pl, Pushed w w' (.cells c el z) → (∀ k, k < c.size + pl → ¬ (z.1 ≤ k ∧ k < z.2)) → X.blk q = .live m t →
    (∀ j, j < m → ∃ av v, t.get j = some av ∧ c[j]? = some v ∧ VR E ρ av v ∧ v.oneCell' = true) → (∀ ty, t.get (m + 7) = some (.glob ty) → el = ty) → (∀ ρ', Ext ρ ρ' → ρ' (X.nx q) = some ⟨w.heap.size, 0, c.size, pl⟩ → VR E ρ' (X.v q) u) → K (a.put (X.dst q) u) w') → wpOp P ops Q (X.ix q) K a w
def Found.acts (q : Nat) : Prop := ∀ ρ a w (K : Act → World → Prop), (∀ i, X.nx q ≤ i → i < X.nx (q + 1) → ρ i = none) → Look E ρ (X.fr q) (X.rd q) a → Inv E ρ (X.h q).get w →
    (∀ ρ' u w', Stp ρ (X.h q).get w (X.nx q) ρ' (X.h (q + 1)).get w' (X.nx (q + 1)) → Inv E ρ' (X.h (q + 1)).get w' → VR E ρ' (X.v q) u → K (a.put (X.dst q) u) w') → wpOp P ops Q (X.ix q) K a w

/-- What is asked of it. -/
structure Found.Ok : Prop where
  size : X.n = ops.size
  ixlt : ∀ q, q < X.n → X.ix q < ops.size
  dsts : ∀ q, q < X.n → ∀ t, X.dst q = some t → True
  onto : ∀ i, i < ops.size → ∃ q, q < X.n ∧ X.ix q = i
  inj : ∀ q q', q < X.n → q' < X.n → X.ix q = X.ix q' → q = q'
  topo : ∀ q o, q < X.n → ops[X.ix q]? = some o → ∀ e ∈ o.after, Region.binds .any e = true → ∃ q', q' < q ∧ X.ix q' = e.on
  deps : ∀ q q' o, q < X.n → q' < X.n → X.dep q q' → ops[X.ix q']? = some o → ∀ listed : Array Bool, (∀ j oj, ops[j]? = some oj → listed.getD j false = true → ∀ e ∈ oj.after, Region.binds .any e = true → listed.getD e.on false = true) →
    (∀ e ∈ o.after, Region.binds .any e = true → listed.getD e.on false = true) → listed.getD (X.ix q) false = true
  ww : ∀ q q' t, q < q' → q' < X.n → X.dst q = some t → (X.rd q' t ∨ X.dst q' = some t) → X.dep q q'
  rw_ : ∀ q q' t, q < q' → q' < X.n → X.dst q' = some t → X.rd q t → X.dep q q'
  cls : ∀ q, q < X.n → X.cl q ≤ 3
  cc : ∀ q q', q < q' → q' < X.n → (X.cl q = 2 ∨ X.cl q = 3) → (X.cl q' = 3 ∨ X.cl q' = 1) → X.dep q q'
  frs : ∀ q t, q < X.n → (X.fr (q + 1)).get t = if X.dst q = some t then some (X.v q) else (X.fr q).get t
  keep : ∀ q, q < X.n → X.cl q < 2 → X.h (q + 1) = X.h q ∧ X.nx (q + 1) = X.nx q
  make : ∀ q, q < X.n → X.cl q = 2 → Upd (X.h q) (X.nx q) (X.blk q) (X.h (q + 1)) ∧ X.nx (q + 1) = X.nx q + 1 ∧ ∃ m t, X.blk q = .live m t
  up : ∀ q, q < X.n → X.nx q ≤ X.nx (q + 1)
  fresh : ∀ q, q ≤ X.n → Fresh (X.h q) (X.nx q)
  p0 : ∀ q, q < X.n → X.cl q = 0 → X.pures P E ops Q q
  p1 : ∀ q, q < X.n → X.cl q = 1 → X.reads P E ops Q q (X.h q).get
  p1' : ∀ q q', q < q' → q' < X.n → X.cl q = 1 → X.cl q' = 3 → ¬ X.dep q q' → X.reads P E ops Q q (X.h (q' + 1)).get
  p2 : ∀ q, q < X.n → X.cl q = 2 → X.makes P E ops Q q
  p3 : ∀ q, q < X.n → X.cl q = 3 → X.acts P E ops Q q
end

section
variable {P : Program} {E : Env} {ops : Array Oper} {Q : Exit → Act → World → Prop} {X : Found}
theorem Found.nx_le (hX : X.Ok P E ops Q) : ∀ {p q : Nat}, p ≤ q → q ≤ X.n → X.nx p ≤ X.nx q := by
  intro p q hpq hq
  induction q with
  | zero => rw [show p = 0 from by omega]; exact Nat.le_refl _
  | succ q ih =>
    rcases Nat.lt_or_ge p (q + 1) with h | h
    · exact Nat.le_trans (ih (by omega) (by omega)) (hX.up q (by omega))
    · rw [show p = q + 1 from by omega]; exact Nat.le_refl _
/-- From p to q nothing but blocks were made. -/
theorem Found.between (hX : X.Ok P E ops Q) {p : Nat} : ∀ {q : Nat}, p ≤ q → q ≤ X.n → (∀ q', p ≤ q' → q' < q → X.cl q' ≠ 3) → ∀ id b, (X.h q).get id = some b → (X.h p).get id = some b ∨ ∃ q', p ≤ q' ∧ q' < q ∧ X.cl q' = 2 ∧ id = X.nx q' ∧ b = X.blk q' := by
  intro q hpq hq hno id b hb
  induction q with
  | zero => left; rwa [show p = 0 from by omega]
  | succ q ih =>
    rcases Nat.lt_or_ge p (q + 1) with h | h
    · have hc := hX.cls q (by omega)
      have h3 := hno q (by omega) (by omega)
      have go : (X.h q).get id = some b → (X.h p).get id = some b ∨ ∃ q', p ≤ q' ∧ q' < q + 1 ∧ X.cl q' = 2 ∧ id = X.nx q' ∧ b = X.blk q' := fun hb => by
        rcases ih (by omega) (by omega) (fun q' h1 h2 => hno q' h1 (by omega)) hb with h | ⟨q', h1, h2, h3⟩
        · exact .inl h
        · exact .inr ⟨q', h1, by omega, h3⟩
      by_cases h2 : X.cl q = 2
      · obtain ⟨hu, _, _⟩ := hX.make q (by omega) h2
        rw [hu] at hb
        split at hb
        · rename_i e; injection hb with hb; exact .inr ⟨q, by omega, by omega, h2, e, hb.symm⟩
        · exact go hb
      · rw [(hX.keep q (by omega) (by omega)).1] at hb; exact go hb
    · left; rwa [show p = q + 1 from by omega]

/-- Of what is done: what a slot holds. -/
def Found.FrIs (X : Found) (S : Nat → Prop) (t : Nat) (av : AV) : Prop :=
  (∃ q, q < X.n ∧ S q ∧ X.dst q = some t ∧ X.v q = av ∧ ∀ q', q' < X.n → S q' → X.dst q' = some t → q' ≤ q) ∨ ((∀ q, q < X.n → S q → X.dst q ≠ some t) ∧ (X.fr 0).get t = some av)
theorem Found.fr_is (hX : X.Ok P E ops Q) : ∀ {q : Nat}, q ≤ X.n → ∀ t av, (X.fr q).get t = some av → X.FrIs (fun q' => q' < q) t av := by
  intro q hq t av hav
  induction q with
  | zero => exact .inr ⟨fun q' _ h => absurd h (Nat.not_lt_zero _), hav⟩
  | succ q ih =>
    rw [hX.frs q t (by omega)] at hav
    split at hav
    · rename_i e
      injection hav with hav
      exact .inl ⟨q, by omega, Nat.lt_succ_self _, e, hav, fun q' _ h _ => by omega⟩
    · rename_i e
      rcases ih (by omega) hav with ⟨q1, h1, h2, h3, h4, h5⟩ | ⟨h1, h2⟩
      · refine .inl ⟨q1, h1, by omega, h3, h4, fun q' a b c => ?_⟩
        by_cases hqq : q' = q
        · subst hqq; exact absurd c e
        · exact h5 q' a (by omega) c
      · refine .inr ⟨fun q' a b c => ?_, h2⟩
        by_cases hqq : q' = q
        · subst hqq; exact e c
        · exact h1 q' a (by omega) c

/-- Where a walk through the region stands: S is done, p is behind the last deed. -/
structure Stand (E : Env) (X : Found) (N : Nat) (ρ0 : Nat → Option Loc) (w0 : World) (S : Nat → Prop) (a : Act) (w : World) : Prop where
  go : ∃ (ρ : Nat → Option Loc) (p : Nat) (K : Heap), p ≤ X.n ∧ (∀ q, q < X.n → S q → X.cl q = 3 → q < p) ∧ (p = 0 ∨ ∃ e, p = e + 1 ∧ e < X.n ∧ X.cl e = 3 ∧ S e) ∧
    (∀ id m t, K id = some (.live m t) ↔ ((X.h p).get id = some (.live m t) ∨ ∃ q, q < X.n ∧ S q ∧ X.cl q = 2 ∧ p ≤ q ∧ id = X.nx q ∧ X.blk q = .live m t)) ∧
    Stp ρ0 (X.h 0).get w0 (X.nx 0) ρ K w (X.nx X.n) ∧ Inv E ρ K w ∧ (∀ q, q < X.n → ¬ S q → ∀ id, X.nx q ≤ id → id < X.nx (q + 1) → ρ id = none) ∧ AInv E ρ N (X.FrIs S) a

theorem AInv.put {ρ ρ' : Nat → Option Loc} {N : Nat} {S : Nat → Prop} {q : Nat} {a : Act} {u : Value} (hX : X.Ok P E ops Q) (hA : AInv E ρ N (X.FrIs S) a) (hx : Ext ρ ρ') (hq : q < X.n) (hd : ∀ t, X.dst q = some t → t < N) (hlast : ∀ q', q' < X.n → S q' → ∀ t, X.dst q = some t → X.dst q' = some t → q' < q) (hu : VR E ρ' (X.v q) u) :
    AInv E ρ' N (X.FrIs fun q' => S q' ∨ q' = q) (a.put (X.dst q) u) := by
  have hold : ∀ t av, X.FrIs S t av → t < N ∧ VR E ρ' av (a.tmps.getD t undef) := fun t av h => ⟨(hA.at_ t av h).1, (hA.at_ t av h).2.ext hx⟩
  cases hdst : X.dst q with
  | none =>
    refine ⟨hA.defers, hA.size, fun t av h => hold t av ?_⟩
    rcases h with ⟨q1, h1, h2, h3, h4, h5⟩ | ⟨h1, h2⟩
    · rcases h2 with h2 | rfl
      · exact .inl ⟨q1, h1, h2, h3, h4, fun q' a b c => h5 q' a (.inl b) c⟩
      · rw [hdst] at h3; cases h3
    · exact .inr ⟨fun q' a b => h1 q' a (.inl b), h2⟩
  | some d =>
    have hdN := hd d hdst
    refine ⟨hA.defers, by simp [Act.put, hA.size], fun t av h => ?_⟩
    by_cases htd : t = d
    · subst htd
      have hav : av = X.v q := by
        rcases h with ⟨q1, h1, h2, h3, h4, h5⟩ | ⟨h1, _⟩
        · rcases h2 with h2 | rfl
          · have := h5 q hq (.inr rfl) hdst
            have := hlast q1 h1 h2 t hdst h3
            omega
          · exact h4.symm
        · exact absurd hdst (h1 q hq (.inr rfl))
      subst hav
      refine ⟨hdN, ?_⟩
      have : t < a.tmps.size := by rw [hA.size]; exact hdN
      simpa [Act.put, this] using hu
    · have h0 : X.FrIs S t av := by
        rcases h with ⟨q1, h1, h2, h3, h4, h5⟩ | ⟨h1, h2⟩
        · rcases h2 with h2 | rfl
          · exact .inl ⟨q1, h1, h2, h3, h4, fun q' a b c => h5 q' a (.inl b) c⟩
          · rw [hdst] at h3; injection h3 with h3; exact absurd h3.symm htd
        · exact .inr ⟨fun q' a b => h1 q' a (.inl b), h2⟩
      refine ⟨(hold t av h0).1, ?_⟩
      have := (hold t av h0).2
      simpa [Act.put, Array.getElem?_setIfInBounds, Ne.symm htd] using this
end
end Go.Proofs.YtfgmmabggjjhgaaGreatDoor.Ev
namespace Go.Proofs.YtfgmmabggjjhgaaGreatDoor.Ev
open Go

section
variable {P : Program} {E : Env} {ops : Array Oper} {Q : Exit → Act → World → Prop} {X : Found} {N : Nat} {ρ0 : Nat → Option Loc} {w0 : World}

theorem stand_step (hX : X.Ok P E ops Q) (hdN : ∀ q t, q < X.n → X.dst q = some t → t < N) {listed : Array Bool} {q : Nat} {a : Act} {w : World}
    (hcl : ∀ j oj, ops[j]? = some oj → listed.getD j false = true → ∀ e ∈ oj.after, Region.binds .any e = true → listed.getD e.on false = true) (hq : q < X.n) (hr : X.ix q ∈ Region.ready .any ops listed)
    (hS : Stand E X N ρ0 w0 (fun q' => listed.getD (X.ix q') false = true) a w) : wpOp P ops Q (X.ix q) (Stand E X N ρ0 w0 fun q' => listed.getD (X.ix q') false = true ∨ q' = q) a w := by
  obtain ⟨ρ, p, K, hp, hlast, hpe, hK, hst, hI, hfree, hA⟩ := hS.go
  obtain ⟨hun, o, ho, hdirect⟩ := mem_ready.1 hr
  have notS : ¬ (listed.getD (X.ix q) false = true) := fun h => by
    rcases Nat.lt_or_ge (X.ix q) listed.size with h' | h'
    · simp [h'] at h hun; rw [h] at hun; cases hun
    · simp [Array.getElem?_eq_none h'] at hun
  have ready : ∀ q', q' < X.n → X.dep q' q → listed.getD (X.ix q') false = true := fun q' h1 h2 => hX.deps q' q o h1 hq h2 ho listed hcl hdirect
  have closed : ∀ q1 q2, q1 < X.n → q2 < X.n → X.dep q1 q2 → listed.getD (X.ix q2) false = true → listed.getD (X.ix q1) false = true := fun q1 q2 h1 h2 h3 h4 => by
    have hlt := hX.ixlt q2 h2
    exact hX.deps q1 q2 ops[X.ix q2] h1 h2 h3 (Array.getElem?_eq_getElem hlt) listed hcl (hcl _ _ (Array.getElem?_eq_getElem hlt) h4)
  have notdep : ∀ q', q' < X.n → listed.getD (X.ix q') false = true → ¬ X.dep q q' := fun q' h1 h2 h3 => notS (closed q q' hq h1 h3 h2)
  -- what its operands hold
  have look : Look E ρ (X.fr q) (X.rd q) a := by
    intro t ht av hav
    have hsz := hA.size
    rw [hsz]
    refine hA.at_ t av ?_
    have below : ∀ q', q' < X.n → listed.getD (X.ix q') false = true → X.dst q' = some t → q' < q := fun q' h1 h2 h3 => by
      rcases Nat.lt_trichotomy q' q with h | h | h
      · exact h
      · subst h; exact absurd h2 notS
      · exact absurd (hX.rw_ q q' t h h1 h3 ht) (notdep q' h1 h2)
    rcases Found.fr_is hX (Nat.le_of_lt hq) t av hav with ⟨q1, h1, h2, h3, h4, h5⟩ | ⟨h1, h2⟩
    · exact .inl ⟨q1, h1, ready q1 h1 (hX.ww q1 q t h2 hq h3 (.inl ht)), h3, h4, fun q' b c d => h5 q' b (below q' b c d) d⟩
    · exact .inr ⟨fun q' b c d => h1 q' b (below q' b c d) d, h2⟩
  have last : ∀ q', q' < X.n → listed.getD (X.ix q') false = true → ∀ t, X.dst q = some t → X.dst q' = some t → q' < q := fun q' h1 h2 t h3 h4 => by
    rcases Nat.lt_trichotomy q' q with h | h | h
    · exact h
    · subst h; exact absurd h2 notS
    · exact absurd (hX.ww q q' t h h1 h3 (.inr h4)) (notdep q' h1 h2)
  have put : ∀ {ρ' : Nat → Option Loc} {u : Value}, Ext ρ ρ' → VR E ρ' (X.v q) u → AInv E ρ' N (X.FrIs fun q' => listed.getD (X.ix q') false = true ∨ q' = q) (a.put (X.dst q) u) := fun hx hu => AInv.put hX hA hx hq (fun t => hdN q t hq) last hu
  have free' : ∀ q', q' < X.n → ¬ (listed.getD (X.ix q') false = true ∨ q' = q) → ∀ id, X.nx q' ≤ id → id < X.nx (q' + 1) → ρ id = none := fun q' h1 h2 => hfree q' h1 fun h => h2 (.inl h)
  -- an operation that leaves memory as it was
  have quiet : X.cl q < 2 → ∀ u, VR E ρ (X.v q) u → Stand E X N ρ0 w0 (fun q' => listed.getD (X.ix q') false = true ∨ q' = q) (a.put (X.dst q) u) w := fun hc u hu =>
    ⟨ρ, p, K, hp, fun q' h1 h2 h3 => by
      rcases h2 with h2 | rfl
      · exact hlast q' h1 h2 h3
      · omega,
    hpe.imp id (fun ⟨e, h1, h2, h3, h4⟩ => ⟨e, h1, h2, h3, .inl h4⟩),
    fun id m t => by
      rw [hK]
      constructor
      · rintro (h | ⟨q', h1, h2, h3⟩)
        · exact .inl h
        · exact .inr ⟨q', h1, .inl h2, h3⟩
      · rintro (h | ⟨q', h1, h2, h3, h4⟩)
        · exact .inl h
        · rcases h2 with h2 | rfl
          · exact .inr ⟨q', h1, h2, h3, h4⟩
          · omega,
    hst, hI, free', put (Ext.refl ρ) hu⟩
  -- where q stands behind p nothing but blocks were made between
  have above : (∀ q', q' < q → q' < X.n → X.cl q' = 3 → X.dep q' q) → p ≤ q → (∀ q', p ≤ q' → q' < q → X.cl q' = 2 → X.dep q' q) → Less (X.h q).get K := fun h1 h2 h3 id m t hb => by
    rw [hK]
    have hno : ∀ q', p ≤ q' → q' < q → X.cl q' ≠ 3 := fun q' a b c => by
      have := hlast q' (by omega) (ready q' (by omega) (h1 q' b (by omega) c)) c
      omega
    rcases Found.between hX h2 (Nat.le_of_lt hq) hno id _ hb with h | ⟨q', a, b, c, d, e⟩
    · exact .inl h
    · exact .inr ⟨q', by omega, ready q' (by omega) (h3 q' a b c), c, a, d, e.symm⟩
  have base : Less (X.h p).get K := fun id m t hb => by rw [hK]; exact .inl hb
  have hc := hX.cls q hq
  rcases (by omega : X.cl q = 0 ∨ X.cl q = 1 ∨ X.cl q = 2 ∨ X.cl q = 3) with h0 | h1 | h2 | h3
  · exact hX.p0 q hq h0 ρ a w _ look (quiet (by omega))
  · rcases Nat.lt_or_ge q p with hlt | hge
    · rcases hpe with rfl | ⟨e, rfl, he, hce, hSe⟩
      · omega
      · have hne : q ≠ e := fun h => by subst h; omega
        exact hX.p1' q e (by omega) he h1 hce (notdep e he hSe) ρ a w _ look (hI.less base) (quiet (by omega))
    · exact hX.p1 q hq h1 ρ a w _ look (hI.less (above (fun q' b c d => hX.cc q' q b hq (.inr d) (.inr h1)) hge fun q' _ b c => hX.cc q' q b hq (.inl c) (.inr h1))) (quiet (by omega))
  · have hge : p ≤ q := by
      rcases Nat.lt_or_ge q p with hlt | hge
      · rcases hpe with rfl | ⟨e, rfl, he, hce, hSe⟩
        · omega
        · have hne : q ≠ e := fun h => by subst h; omega
          exact absurd (hX.cc q e (by omega) he (.inl h2) (.inl hce)) (notdep e he hSe)
      · exact hge
    obtain ⟨hu, hnx, m0, t0, hblk⟩ := hX.make q hq h2
    refine hX.p2 q hq h2 ρ a w _ look fun u w' c el z m t pl hp' hz hb hcells hT hv => ?_
    have hρ : ρ (X.nx q) = none := hfree q hq notS _ (Nat.le_refl _) (by omega)
    -- no block has that number yet
    have hno : ∀ m t, ¬ K (X.nx q) = some (.live m t) := fun m t h => by
      obtain ⟨L, hL, _⟩ := hI.at_ _ _ _ h
      rw [hρ] at hL; cases hL
    let K' : Heap := fun j => if j = X.nx q then some (X.blk q) else K j
    have e1 : ∀ j, j ≠ X.nx q → K' j = K j := fun j hj => by simp [K', hj]
    have e2 : K' (X.nx q) = some (.live m t) := by simp [K', hb]
    have hext : Ext ρ (ρset ρ (X.nx q) ⟨w.heap.size, 0, c.size, pl⟩) := ρset_ext hρ
    have s1 := Stp.push (pl := pl) (H := K) (H' := K') hp' hρ e1 e2
    refine ⟨ρset ρ (X.nx q) ⟨w.heap.size, 0, c.size, pl⟩, p, K', hp, fun q' a1 a2 a3 => ?_, hpe.imp id (fun ⟨e, h1, h2, h3, h4⟩ => ⟨e, h1, h2, h3, .inl h4⟩), fun id m' t' => ?_, ?_, hI.push hp' hz hρ e1 e2 hcells hT, fun q' a1 a2 id a3 a4 => ?_, put hext (hv _ hext (by simp [ρset]))⟩
    · rcases a2 with a2 | rfl
      · exact hlast q' a1 a2 a3
      · omega
    · by_cases hid : id = X.nx q
      · subst hid
        rw [e2]
        constructor
        · intro h; injection h with h
          exact .inr ⟨q, hq, .inr rfl, h2, hge, rfl, by rw [hb]; exact h⟩
        · rintro (h | ⟨q', b1, b2, b3, b4, b5, b6⟩)
          · exact absurd (base _ _ _ h) (hno m' t')
          · rcases b2 with b2 | rfl
            · exact absurd ((hK _ _ _).2 (.inr ⟨q', b1, b2, b3, b4, b5, b6⟩)) (hno m' t')
            · rw [← hb, b6]
      · rw [e1 id hid, hK]
        constructor
        · rintro (h | ⟨q', b1, b2, b3⟩)
          · exact .inl h
          · exact .inr ⟨q', b1, .inl b2, b3⟩
        · rintro (h | ⟨q', b1, b2, b3, b4, b5, b6⟩)
          · exact .inl h
          · rcases b2 with b2 | rfl
            · exact .inr ⟨q', b1, b2, b3, b4, b5, b6⟩
            · exact absurd b5 hid
    · have up1 := Found.nx_le hX (Nat.zero_le q) (Nat.le_of_lt hq)
      have up2 := Found.nx_le hX hq (Nat.le_refl X.n)
      rw [hnx] at up2
      exact ⟨hst.le, hst.free, fun i hi => by rw [s1.same i (by omega), hst.same i hi], s1.os.trans hst.os, s1.tape.trans hst.tape, s1.output.trans hst.output, Nat.le_trans hst.size s1.size,
        fun b hb0 hn => (s1.keep b (Nat.lt_of_lt_of_le hb0 hst.size) fun i n' t' L hi hL hLb => by
          rcases hst.own i n' t' L hi hL with h | ⟨j, m', u', M, h3, h4, h5⟩
          · omega
          · exact hn j m' u' M h3 h4 (h5.trans hLb)).trans (hst.keep b hb0 hn),
        fun i n' t' L hi hL => by
          rcases s1.own i n' t' L hi hL with h | ⟨j, m', u', M, h3, h4, h5⟩
          · exact .inl (Nat.le_trans hst.size h)
          · rcases hst.own j m' u' M h3 h4 with h | ⟨j', m'', u'', M', h6, h7, h8⟩
            · exact .inl (by omega)
            · exact .inr ⟨j', m'', u'', M', h6, h7, h8.trans h5⟩⟩
    · have hne : id ≠ X.nx q := by
        rcases Nat.lt_trichotomy q' q with h | h | h
        · have := Found.nx_le hX (p := q' + 1) (q := q) h (Nat.le_of_lt hq); omega
        · exact absurd (.inr h) a2
        · have := Found.nx_le hX (p := q + 1) (q := q') h (Nat.le_of_lt a1); omega
      unfold ρset; rw [if_neg hne]
      exact free' q' a1 a2 id a3 a4
  · have hge : p ≤ q := by
      rcases Nat.lt_or_ge q p with hlt | hge
      · rcases hpe with rfl | ⟨e, rfl, he, hce, hSe⟩
        · omega
        · have hne : q ≠ e := fun h => by subst h; exact notS hSe
          exact absurd (hX.cc q e (by omega) he (.inr h3) (.inl hce)) (notdep e he hSe)
      · exact hge
    have hless : Less (X.h q).get K := above (fun q' b c d => hX.cc q' q b hq (.inr d) (.inl h3)) hge fun q' _ b c => hX.cc q' q b hq (.inl c) (.inl h3)
    refine hX.p3 q hq h3 ρ a w _ (hfree q hq notS) look (hI.less hless) fun ρ' u w' s1 hI' hv => ?_
    have hext := s1.ext
    have up := hX.up q hq
    -- the blocks made early, which stay as they are
    have early : ∀ q', q' < X.n → listed.getD (X.ix q') false = true → X.cl q' = 2 → q + 1 ≤ q' → ∀ m t, X.blk q' = .live m t → K (X.nx q') = some (.live m t) ∧ X.nx (q + 1) ≤ X.nx q' := fun q' b1 b2 b3 b4 m t b5 =>
      ⟨(hK _ _ _).2 (.inr ⟨q', b1, b2, b3, by omega, rfl, b5⟩), Found.nx_le hX b4 (Nat.le_of_lt b1)⟩
    let K' : Heap := fun j => @ite _ (∃ q', q' < X.n ∧ listed.getD (X.ix q') false = true ∧ X.cl q' = 2 ∧ q + 1 ≤ q' ∧ j = X.nx q') (Classical.propDecidable _) (K j) ((X.h (q + 1)).get j)
    have k1 : ∀ j m t, K' j = some (.live m t) ↔ ((X.h (q + 1)).get j = some (.live m t)) ∨ ∃ q', q' < X.n ∧ (listed.getD (X.ix q') false = true ∨ q' = q) ∧ X.cl q' = 2 ∧ q + 1 ≤ q' ∧ j = X.nx q' ∧ X.blk q' = .live m t := fun j m t => by
      by_cases hj : ∃ q', q' < X.n ∧ listed.getD (X.ix q') false = true ∧ X.cl q' = 2 ∧ q + 1 ≤ q' ∧ j = X.nx q'
      · have : K' j = K j := if_pos hj
        rw [this]
        obtain ⟨q', b1, b2, b3, b4, rfl⟩ := hj
        obtain ⟨_, _, m1, t1, b5⟩ := hX.make q' b1 b3
        obtain ⟨c1, c2⟩ := early q' b1 b2 b3 b4 m1 t1 b5
        rw [c1]
        constructor
        · intro h; injection h with h
          exact .inr ⟨q', b1, .inl b2, b3, b4, rfl, by rw [b5]; exact h⟩
        · rintro (h | ⟨q2, d1, d2, d3, d4, d5, d6⟩)
          · rw [hX.fresh (q + 1) (by omega) _ c2] at h; cases h
          · rcases d2 with d2 | rfl
            · have := (early q2 d1 d2 d3 d4 m t d6).1
              rw [← d5, c1] at this; exact this
            · omega
      · have : K' j = (X.h (q + 1)).get j := if_neg hj
        rw [this]
        constructor
        · exact .inl
        · rintro (h | ⟨q2, d1, d2, d3, d4, d5, d6⟩)
          · exact h
          · rcases d2 with d2 | rfl
            · exact absurd ⟨q2, d1, d2, d3, d4, d5⟩ hj
            · omega
    -- of such a block: it lies elsewhere, and is as it was
    have apart : ∀ q', q' < X.n → listed.getD (X.ix q') false = true → X.cl q' = 2 → q + 1 ≤ q' → ∀ m t, X.blk q' = .live m t → ∃ L, ρ (X.nx q') = some L ∧ ρ' (X.nx q') = some L ∧ L.b < w.heap.size ∧ BlkAt E ρ' w' L m t ∧
        ∀ i n' t' M, (X.h q).get i = some (.live n' t') → ρ i = some M → M.b ≠ L.b := fun q' b1 b2 b3 b4 m t b5 => by
      obtain ⟨c1, c2⟩ := early q' b1 b2 b3 b4 m t b5
      obtain ⟨L, hL, hB⟩ := hI.at_ _ _ _ c1
      have hne : ∀ i n' t' M, (X.h q).get i = some (.live n' t') → ρ i = some M → M.b ≠ L.b := fun i n' t' M hi hM => by
        refine hI.inj i (X.nx q') n' t' m t (hless _ _ _ hi) c1 (fun e => ?_) M L hM hL
        rw [e, hX.fresh q (Nat.le_of_lt hq) _ (by omega)] at hi; cases hi
      refine ⟨L, hL, hext _ _ hL, hB.lt, (hB.ext hext).same (s1.keep L.b hB.lt hne), hne⟩
    refine ⟨ρ', q + 1, K', hq, fun q' a1 a2 a3 => ?_, .inr ⟨q, rfl, hq, h3, .inr rfl⟩, k1, ?_, ⟨fun i n' t' hi => ?_, fun i j n' t' m' u' hi hj hne L M hL hM => ?_⟩, fun q' a1 a2 id a3 a4 => ?_, put hext hv⟩
    · rcases a2 with a2 | rfl
      · have := hlast q' a1 a2 a3; omega
      · omega
    · have up1 := Found.nx_le hX (Nat.zero_le q) (Nat.le_of_lt hq)
      have up2 : X.nx (q + 1) ≤ X.nx X.n := Found.nx_le hX hq (Nat.le_refl X.n)
      have image : ∀ i n' t' L, K i = some (.live n' t') → ρ i = some L → w0.heap.size ≤ L.b ∨ ∃ j m u M, (X.h 0).get j = some (.live m u) ∧ ρ0 j = some M ∧ M.b = L.b := hst.own
      refine ⟨hst.le, hst.free, fun i hi => by rw [s1.same i (by omega), hst.same i hi], s1.os.trans hst.os, s1.tape.trans hst.tape, s1.output.trans hst.output, Nat.le_trans hst.size s1.size, fun b hb0 hn => ?_, fun i n' t' L hi hL => ?_⟩
      · refine (s1.keep b (Nat.lt_of_lt_of_le hb0 hst.size) fun i n' t' L hi hL hLb => ?_).trans (hst.keep b hb0 hn)
        rcases image i n' t' L (hless _ _ _ hi) hL with h | ⟨j, m', u', M, h3, h4, h5⟩
        · omega
        · exact hn j m' u' M h3 h4 (h5.trans hLb)
      · rcases (k1 i n' t').1 hi with hi | ⟨q', d1, d2, d3, d4, rfl, d6⟩
        · rcases s1.own i n' t' L hi hL with h | ⟨j, m', u', M, h3, h4, h5⟩
          · exact .inl (Nat.le_trans hst.size h)
          · rcases image j m' u' M (hless _ _ _ h3) h4 with h | ⟨j', m'', u'', M', h6, h7, h8⟩
            · exact .inl (by omega)
            · exact .inr ⟨j', m'', u'', M', h6, h7, h8.trans h5⟩
        · rcases d2 with d2 | rfl
          · obtain ⟨L0, e1, e2, e3, _, _⟩ := apart q' d1 d2 d3 d4 n' t' d6
            rw [e2] at hL; injection hL with hL; subst hL
            exact image _ _ _ _ (early q' d1 d2 d3 d4 n' t' d6).1 e1
          · omega
    · rcases (k1 i n' t').1 hi with hi | ⟨q', d1, d2, d3, d4, rfl, d6⟩
      · exact hI'.at_ i n' t' hi
      · rcases d2 with d2 | rfl
        · obtain ⟨L0, e1, e2, e3, e4, _⟩ := apart q' d1 d2 d3 d4 n' t' d6
          exact ⟨L0, e2, e4⟩
        · omega
    · -- two blocks are two
      have one : ∀ i j n' t' m' u' L M, (X.h (q + 1)).get i = some (.live n' t') → (∃ q', q' < X.n ∧ listed.getD (X.ix q') false = true ∧ X.cl q' = 2 ∧ q + 1 ≤ q' ∧ j = X.nx q' ∧ X.blk q' = .live m' u') → ρ' i = some L → ρ' j = some M → L.b ≠ M.b := by
        rintro i _ n' t' m' u' L M hi ⟨q', d1, d2, d3, d4, rfl, d6⟩ hL hM
        obtain ⟨L0, e1, e2, e3, e4, e5⟩ := apart q' d1 d2 d3 d4 m' u' d6
        rw [e2] at hM; injection hM with hM; subst hM
        rcases s1.own i n' t' L hi hL with h | ⟨j, m'', u'', M', h3, h4, h5⟩
        · omega
        · rw [← h5]; exact e5 j m'' u'' M' h3 h4
      rcases (k1 i n' t').1 hi with hi' | ⟨q1, c1, c2, c3, c4, c5, c6⟩
      · rcases (k1 j m' u').1 hj with hj' | ⟨q2, d1, d2, d3, d4, d5, d6⟩
        · exact hI'.inj i j n' t' m' u' hi' hj' hne L M hL hM
        · rcases d2 with d2 | rfl
          · exact one i j n' t' m' u' L M hi' ⟨q2, d1, d2, d3, d4, d5, d6⟩ hL hM
          · omega
      · rcases c2 with c2 | rfl
        · rcases (k1 j m' u').1 hj with hj' | ⟨q2, d1, d2, d3, d4, d5, d6⟩
          · exact Ne.symm (one j i m' u' n' t' M L hj' ⟨q1, c1, c2, c3, c4, c5, c6⟩ hM hL)
          · rcases d2 with d2 | rfl
            · subst c5; subst d5
              obtain ⟨L0, e1, e2, _, _, _⟩ := apart q1 c1 c2 c3 c4 n' t' c6
              obtain ⟨M0, f1, f2, _, _, _⟩ := apart q2 d1 d2 d3 d4 m' u' d6
              rw [e2] at hL; injection hL with hL; subst hL
              rw [f2] at hM; injection hM with hM; subst hM
              exact hI.inj _ _ n' t' m' u' (early q1 c1 c2 c3 c4 n' t' c6).1 (early q2 d1 d2 d3 d4 m' u' d6).1 hne _ _ e1 f1
            · omega
        · omega
    · rw [s1.same id (by
        rcases Nat.lt_trichotomy q' q with h | h | h
        · have := Found.nx_le hX (p := q' + 1) (q := q) h (Nat.le_of_lt hq); omega
        · exact absurd (.inr h) a2
        · have := Found.nx_le hX (p := q + 1) (q := q') h (Nat.le_of_lt a1); omega)]
      exact free' q' a1 a2 id a3 a4

theorem FrIs.all (hX : X.Ok P E ops Q) {S : Nat → Prop} (hS : ∀ q, q < X.n → S q) {t : Nat} {av : AV} (h : (X.fr X.n).get t = some av) : X.FrIs S t av := by
  rcases Found.fr_is hX (Nat.le_refl _) t av h with ⟨q, h1, h2, h3, h4, h5⟩ | ⟨h1, h2⟩
  · exact .inl ⟨q, h1, hS q h1, h3, h4, fun q' a _ c => h5 q' a a c⟩
  · exact .inr ⟨fun q a _ => h1 q a a, h2⟩
/-- Whatever order is drawn: at its end the world is as it was found. -/
theorem found_any (hX : X.Ok P E ops Q) (hdN : ∀ q t, q < X.n → X.dst q = some t → t < N)
    (hQ : ∀ ρ' a' w', Stp ρ0 (X.h 0).get w0 (X.nx 0) ρ' (X.h X.n).get w' (X.nx X.n) → AInv E ρ' N (frOf (X.fr X.n)) a' → Inv E ρ' (X.h X.n).get w' → Q .normal a' w') :
    ∀ (fuel : Nat) (listed : Array Bool) (a : Act) (w : World), listed.size = ops.size → ops.size - fuel ≤ (listed.toList.filter id).length → (∀ j oj, ops[j]? = some oj → listed.getD j false = true → ∀ e ∈ oj.after, Region.binds .any e = true → listed.getD e.on false = true) →
      Stand E X N ρ0 w0 (fun q => listed.getD (X.ix q) false = true) a w → wpAny P .any ops Q fuel listed a w := by
  -- where nothing is ready all is done
  have fin : ∀ (listed : Array Bool) (a : Act) (w : World), listed.size = ops.size → Region.ready .any ops listed = [] → Stand E X N ρ0 w0 (fun q => listed.getD (X.ix q) false = true) a w → Q .normal a w := by
    intro listed a w hsz hr hS
    have all : ∀ q, q < X.n → listed.getD (X.ix q) false = true := by
      intro q
      induction q using Nat.strongRecOn with
      | ind q ih =>
        intro hq
        have hlt := hX.ixlt q hq
        have hget := Array.getElem?_eq_getElem hlt
        cases hb : listed.getD (X.ix q) false with
        | true => rfl
        | false =>
          exfalso
          have : X.ix q ∈ Region.ready .any ops listed := mem_ready.2 ⟨by simp [hsz, hlt] at hb ⊢; exact hb, _, hget, fun e he hbd => by
            obtain ⟨q', h1, h2⟩ := hX.topo q _ hq hget e he hbd
            rw [← h2]; exact ih q' h1 (by omega)⟩
          rw [hr] at this; cases this
    obtain ⟨ρ, p, K, hp, hlast, hpe, hK, hst, hI, hfree, hA⟩ := hS.go
    have hless : Less (X.h X.n).get K := fun id m t hb => by
      rw [hK]
      rcases Found.between hX hp (Nat.le_refl _) (fun q' h1 h2 h3 => by have := hlast q' h2 (all q' h2) h3; omega) id _ hb with h | ⟨q', h1, h2, h3, h4, h5⟩
      · exact .inl h
      · exact .inr ⟨q', h2, all q' h2, h3, h1, h4, h5.symm⟩
    exact hQ ρ a w ⟨hst.le, hst.free, hst.same, hst.os, hst.tape, hst.output, hst.size, hst.keep, fun i n t L hi hL => hst.own i n t L (hless _ _ _ hi) hL⟩ ⟨hA.defers, hA.size, fun t av h => hA.at_ t av (FrIs.all hX all h)⟩ (hI.less hless)
  intro fuel
  induction fuel with
  | zero =>
    intro listed a w hsz hn hcl hS
    have hall : ∀ j, j < ops.size → listed.getD j true = true := by
      intro j hj
      have hlen : (listed.toList.filter id).length = listed.toList.length := by
        have := List.length_filter_le id listed.toList
        simp only [Array.length_toList] at *
        omega
      have := List.length_filter_eq_length_iff.1 hlen
      have hj' : j < listed.size := by omega
      have := this listed[j] (by simp)
      simpa [hj'] using this
    have hr : Region.ready .any ops listed = [] := by
      cases h : Region.ready .any ops listed with
      | nil => rfl
      | cons j r =>
        have hj : j ∈ Region.ready .any ops listed := by rw [h]; exact List.mem_cons_self
        obtain ⟨h1, o, h2, _⟩ := mem_ready.1 hj
        rw [hall j (Array.getElem?_eq_some_iff.1 h2).1] at h1; cases h1
    exact ⟨hr, fin listed a w hsz hr hS⟩
  | succ fuel ih =>
    intro listed a w hsz hn hcl hS
    refine ⟨fun hr => fin listed a w hsz hr hS, fun i hi => ?_⟩
    obtain ⟨hun, o, ho, hall⟩ := mem_ready.1 hi
    have hlt : i < ops.size := (Array.getElem?_eq_some_iff.1 ho).1
    obtain ⟨q, hq, rfl⟩ := hX.onto i hlt
    refine wpOp_mono (fun a' w' h' => ?_) (stand_step hX hdN hcl hq hi hS)
    refine ih _ a' w' (by simpa using hsz) ?_ ?_ ?_
    · have hlt' : X.ix q < listed.size := by omega
      have hf : listed[X.ix q] = false := by simpa [hlt'] using hun
      have hc : ((listed.setIfInBounds (X.ix q) true).toList.filter id).length = (listed.toList.filter id).length + 1 := by
        rw [Array.toList_setIfInBounds]
        have key : ∀ (l : List Bool) (j : Nat), l[j]? = some false → ((l.set j true).filter id).length = (l.filter id).length + 1 := by
          intro l
          induction l with
          | nil => intro j h; simp at h
          | cons b l ih =>
            intro j h
            cases j with
            | zero => simp at h; subst h; simp
            | succ j =>
              have := ih j (by simpa using h)
              cases b <;> simp [this]
        exact key _ _ (by simp [hlt', hf])
      omega
    · intro j oj hj hl e he hb
      by_cases hij : X.ix q = j
      · subst hij
        have : oj = o := Option.some.inj (hj.symm.trans ho)
        subst this
        exact getD_set_true (hall e he hb)
      · rw [getD_set_ne false hij] at hl
        exact getD_set_true (hcl j oj hj hl e he hb)
    · have hset : ∀ q', q' < X.n → ((listed.setIfInBounds (X.ix q) true).getD (X.ix q') false = true ↔ (listed.getD (X.ix q') false = true ∨ q' = q)) := fun q' hq' => by
        by_cases hqq : q' = q
        · subst hqq
          have hlt' : X.ix q' < listed.size := by omega
          simp [hlt']
        · have hne : X.ix q ≠ X.ix q' := fun e => hqq (hX.inj q' q hq' hq e.symm)
          rw [getD_set_ne false hne]
          simp [hqq]
      obtain ⟨ρ, p, K, hp, hlast, hpe, hK, hst, hI, hfree, hA⟩ := h'.go
      refine ⟨ρ, p, K, hp, fun q' a1 a2 a3 => hlast q' a1 ((hset q' a1).1 a2) a3, hpe.imp id (fun ⟨e, h1, h2, h3, h4⟩ => ⟨e, h1, h2, h3, (hset e h2).2 h4⟩), fun id m t => ?_, hst, hI, fun q' a1 a2 => hfree q' a1 fun h => a2 ((hset q' a1).2 h), ⟨hA.defers, hA.size, fun t av h => hA.at_ t av ?_⟩⟩
      · rw [hK]
        constructor
        · rintro (h | ⟨q', h1, h2, h3⟩)
          · exact .inl h
          · exact .inr ⟨q', h1, (hset q' h1).2 h2, h3⟩
        · rintro (h | ⟨q', h1, h2, h3⟩)
          · exact .inl h
          · exact .inr ⟨q', h1, (hset q' h1).1 h2, h3⟩
      · rcases h with ⟨q1, h1, h2, h3, h4, h5⟩ | ⟨h1, h2⟩
        · exact .inl ⟨q1, h1, (hset q1 h1).1 h2, h3, h4, fun q' a b c => h5 q' a ((hset q' a).2 b) c⟩
        · exact .inr ⟨fun q' a b => h1 q' a ((hset q' a).2 b), h2⟩
end
end Go.Proofs.YtfgmmabggjjhgaaGreatDoor.Ev
namespace Go.Proofs.YtfgmmabggjjhgaaGreatDoor.Ev
open Go

/-- What a contract says: it returns, a value and a world of which this holds. -/
def Ret (Φ : Value → World → Prop) : Ending → World → Prop := fun e w' => ∃ v, e = .returned v ∧ Φ v w'
/-- A call's contract, as the evaluator knows it. -/
def CallT (P : Program) (E : Env) (f : Nat) (as : List AV) (H : Heap) (nx : Nat) (r : AV) (H' : Heap) (nx' : Nat) : Prop :=
  ∀ ρ w vs, (∀ i, nx ≤ i → i < nx' → ρ i = none) → Inv E ρ H w → VRs E ρ as vs → Calls P f vs.toArray w (Ret fun v w' => ∃ ρ', Stp ρ H w nx ρ' H' w' nx' ∧ Inv E ρ' H' w' ∧ VR E ρ' r v)
def FnHas (P : Program) (f : Nat) : Prop := ∃ fn, P.funcs[f]? = some fn ∧ fn.body.isSome = true ∧ (fn.name == "runtime.NumGoroutine") = false
/-- A function that has no body here, and answers at once. -/
def CallV (P : Program) (E : Env) (f : Nat) (as : List AV) (H : Heap) (nx : Nat) (r : AV) (H' : Heap) (nx' : Nat) : Prop :=
  ∀ ρ w vs, (∀ i, nx ≤ i → i < nx' → ρ i = none) → Inv E ρ H w → VRs E ρ as vs → ∃ v w' ρ', (callFunc f vs.toArray).run P w = .ok (.value v) w' ∧ Stp ρ H w nx ρ' H' w' nx' ∧ Inv E ρ' H' w' ∧ VR E ρ' r v
def CallR (P : Program) (E : Env) (f : Nat) (as : List AV) (H : Heap) (nx : Nat) (r : AV) (H' : Heap) (nx' : Nat) : Prop := (FnHas P f ∧ CallT P E f as H nx r H' nx') ∨ CallV P E f as H nx r H' nx'
def CallOk (P : Program) (E : Env) (call : CallF) : Prop :=
  ∀ f as h nx k, call f as h nx k = true → Fresh h nx → ∃ r h' nx', k r h' nx' = true ∧ Fresh h' nx' ∧ nx ≤ nx' ∧ CallR P E f as h.get nx r h'.get nx'
theorem FnHas.enter {P : Program} {f : Nat} (hf : FnHas P f) (vs : Array Value) (w : World) : (callFunc f vs).run P w = .ok (.enter f vs) w := by
  obtain ⟨fn, h1, h2, h3⟩ := hf
  have h3' : ¬ fn.name = "runtime.NumGoroutine" := by simpa using h3
  have h2' : ¬ fn.body = none := by intro e; rw [e] at h2; cases h2
  simp [callFunc, h1, h3', h2']
theorem CallR.body {P : Program} {E : Env} {f : Nat} {as : List AV} {H H' : Heap} {nx nx' : Nat} {r : AV} (h : CallR P E f as H nx r H' nx') (hf : FnHas P f) : CallT P E f as H nx r H' nx' := by
  rcases h with ⟨_, h⟩ | h
  · exact h
  · intro ρ w vs h1 h2 h3
    obtain ⟨v, w', ρ', hr, _⟩ := h ρ w vs h1 h2 h3
    rw [hf.enter] at hr; cases hr
/-- What is called. -/
def CalRel (P : Program) (E : Env) (o : Oper) : CCal → Array Operand → Prop
  | .val f, args => ∃ g ts, o.op = .call ⟨.value g, args, ts⟩ ∧ OpdOk E g f
  | .inv c gg, args => ∃ x nm ts, o.op = .call ⟨.invoke x nm, args, ts⟩ ∧ OpdOk E x c ∧ ∀ t k, gg t k = true → ∃ i, k i = true ∧ ∀ v w, (method (P.types.size + Made.depth) t v nm).run P w = .ok (i, v) w
/-- What is run for an operation fits it. -/
def OpRel (P : Program) (E : Env) (F : Facts) (o : Oper) : COp → Prop
  | .p x => PureOk P E F o x
  | .r x => ReadOk P E o x
  | .a x => AllocOk P E o x
  | .e x => EffOk P E o x
  | .call f xs => ∃ args, CalRel P E o f args ∧ OpdsOk E args.toList xs

section
variable {P : Program} {E : Env} {F : Facts} {o : Oper} {ρ : Nat → Option Loc} {N : Nat}
theorem AInv.holds {fr : T AV} {a : Act} (h : AInv E ρ N (frOf fr) a) (xs : List Operand) : Holds E ρ fr a.eval xs := fun t _ av hav => (h.at_ t av hav).2
theorem AInv.upd {ρ' : Nat → Option Loc} {fr fr' : T AV} {a : Act} {d : Nat} {r : AV} {v : Value} (h : AInv E ρ N (frOf fr) a) (hx : Ext ρ ρ') (hd : d < N) (hu : Upd fr d r fr') (hv : VR E ρ' r v) : AInv E ρ' N (frOf fr') (a.put (some d) v) := by
  refine ⟨h.defers, by simp [Act.put, h.size], fun t av hav => ?_⟩
  unfold frOf at hav
  rw [hu] at hav
  have hsz := h.size
  by_cases e : t = d
  · subst e
    rw [if_pos rfl] at hav; injection hav with hav; subst hav
    have : t < a.tmps.size := by omega
    exact ⟨hd, by simpa [Act.put, this] using hv⟩
  · rw [if_neg e] at hav
    have := h.at_ t av hav
    refine ⟨this.1, ?_⟩
    have h2 := this.2.ext hx
    simpa [Act.put, Array.getElem?_setIfInBounds, Ne.symm e] using h2
theorem AInv.ext {ρ' : Nat → Option Loc} {fr : Nat → AV → Prop} {a : Act} (h : AInv E ρ N fr a) (hx : Ext ρ ρ') : AInv E ρ' N fr a := ⟨h.defers, h.size, fun t av hav => ⟨(h.at_ t av hav).1, (h.at_ t av hav).2.ext hx⟩⟩

theorem pure_opT {fr : T AV} {r : AV} {H : Heap} {nx : Nat} (h : PureT P E o fr r) : OpT P E o fr H nx r H nx := fun ρ a w next Q _ hh hI hn => by
  obtain ⟨v, hv, hr⟩ := h ρ a.eval (Ev.act a) hh
  exact wp_value (hr w) (hn ρ v w Stp.rfl' hI hv)
theorem read_opT {fr : T AV} {r : AV} {H : Heap} {nx : Nat} (h : ReadT P E o fr H r) : OpT P E o fr H nx r H nx := fun ρ a w next Q _ hh hI hn => by
  obtain ⟨v, hv, hr⟩ := h ρ a.eval w (Ev.act a) hh hI
  exact wp_value hr (hn ρ v w Stp.rfl' hI hv)
theorem alloc_opT {fr : T AV} {f : AF} {cs : List AV} {h h' : T Blk} {nx : Nat} {t : T AV} (hA : AllocT P E o fr f cs) (ht : ∀ j, j < cs.length → t.get j = cs[j]?) (hT : ∀ ty, t.get (cs.length + 7) = some (.glob ty) → afTy f = some ty) (hu : Upd h nx (.live cs.length t) h') : OpT P E o fr h.get nx (afAV f nx) h'.get (nx + 1) := fun ρ a w next Q hfree hh hI hn => by
  obtain ⟨v, w', c, el, z, vs, pl, hr, hp, hz, hv, h1, hc, hres, hty⟩ := hA ρ a.eval w (Ev.act a) hh
  have hnx := hfree nx (Nat.le_refl _) (Nat.lt_succ_self _)
  obtain ⟨s1, s2⟩ := new_step hI hp hz hnx hv h1 hc ht (fun ty h => hty ty (hT ty h)) hu
  exact wp_value hr (hn _ v w' s1 s2 (hres _ _ (if_pos rfl)))
theorem run_value {e : Operand → Value} {g : Operand} {args : Array Operand} {ts : Array TypeId} {f : Nat} {a b : List Value} {w : World} (ho : o.op = .call ⟨.value g, args, ts⟩) (hg : e g = .func (.func f) a.toArray b.toArray) :
    (execOp e o).run P w = (callFunc f (a ++ args.toList.map e ++ b).toArray).run P w := by
  have e1 : a.toArray ++ (Array.map e args ++ b.toArray) = (a ++ (args.toList.map e ++ b)).toArray := by apply Array.ext'; simp
  simp only [execOp, ho, resolve, hg, Deferred.ofValue, invoke]
  simp [e1]
theorem run_invoke {e : Operand → Value} {x : Operand} {nm : String} {args : Array Operand} {ts : Array TypeId} {f t : Nat} {v : Value} {w : World} (ho : o.op = .call ⟨.invoke x nm, args, ts⟩) (hx : e x = .iface t v)
    (hm : ∀ w, (method (P.types.size + Made.depth) t v nm).run P w = .ok (f, v) w) : (execOp e o).run P w = (callFunc f ([v] ++ args.toList.map e ++ []).toArray).run P w := by
  have h1 : (#[Value.iface t v] ++ args.map e).extract 1 (#[Value.iface t v] ++ args.map e).size = args.map e := by
    apply Array.ext'; simp
    exact List.take_of_length_le (by simp)
  have h0 : (#[Value.iface t v] ++ args.map e)[0]? = some (Value.iface t v) := by rw [Array.getElem?_append_left (by simp)]; rfl
  have h2 : ([v] ++ args.toList.map e ++ []).toArray = #[v] ++ args.map e := by apply Array.ext'; simp
  rw [h2]
  simp only [execOp, ho, resolve, hx, invoke, Sem.run_bind, Sem.run_pure, Result.andThen_ok, h0, h1, callMethod, run_program, hm]
theorem calK_some {c : CCal} {args : Array Operand} (hr : CalRel P E o c args) {fr : T AV} {k : Nat → List AV → List AV → Bool} (h : calK fr c k = true) :
    ∃ i a b, k i a b = true ∧ ∀ ρ e, Ev e → Holds E ρ fr e o.op.operands.toList → ∃ a' b', VRs E ρ a a' ∧ VRs E ρ b b' ∧ ∀ w, (execOp e o).run P w = (callFunc i (a' ++ args.toList.map e ++ b').toArray).run P w := by
  cases c with
  | val f =>
    obtain ⟨g, ts, ho, hg⟩ := hr
    obtain ⟨v, h, hv⟩ := hg fr (fun v => fnK v fun g a b => fnFuncK g fun i => k i a b) h
    replace h := fnK_some h
    obtain ⟨gf, a, b, rfl, h⟩ := h
    replace h := fnFuncK_some h
    obtain ⟨i, rfl, h⟩ := h
    refine ⟨i, a, b, h, fun ρ e he hh => ?_⟩
    rw [ho] at hh
    have hgv := hv ρ e he (hh.sub (by simp [Op.operands, Call.operands]))
    simp only [VR] at hgv
    obtain ⟨a', b', h1, h2, hgv⟩ := hgv
    exact ⟨a', b', h1, h2, fun w => run_value ho hgv⟩
  | inv x gg =>
    obtain ⟨y, nm, ts, ho, hx, hm⟩ := hr
    obtain ⟨v, h, hv⟩ := hx fr (fun v => ifcK v (fun t u => gg t fun i => k i [u] []) false) h
    replace h := ifcK_some h
    rcases h with ⟨t, u, rfl, h⟩ | ⟨_, h⟩
    · obtain ⟨i, h, hi⟩ := hm t _ h
      refine ⟨i, [u], [], h, fun ρ e he hh => ?_⟩
      rw [ho] at hh
      have hgv := hv ρ e he (hh.sub (by simp [Op.operands, Call.operands]))
      simp only [VR] at hgv
      obtain ⟨u', hu, hgv⟩ := hgv
      exact ⟨[u'], [], VRs.cons hu VRs.nil, VRs.nil, fun w => run_invoke ho hgv (hi u')⟩
    · cases h
theorem CalRel.args {c : CCal} {args : Array Operand} (hr : CalRel P E o c args) : ∀ x ∈ args.toList, x ∈ o.op.operands.toList := by
  cases c with
  | val f => obtain ⟨g, ts, ho, _⟩ := hr; rw [ho]; intro x hx; simp only [Op.operands, Call.operands, Array.toList_append]; exact List.mem_append_right _ hx
  | inv x gg => obtain ⟨y, nm, ts, ho, _⟩ := hr; rw [ho]; intro x hx; simp only [Op.operands, Call.operands, Array.toList_append]; exact List.mem_append_right _ hx
theorem call_opR {fr : T AV} {c : CCal} {args : Array Operand} {f : Nat} {a b as : List AV} {H H' : Heap} {nx nx' : Nat} {r : AV} (hr : CalRel P E o c args)
    (hg : ∀ ρ e, Ev e → Holds E ρ fr e o.op.operands.toList → ∃ a' b', VRs E ρ a a' ∧ VRs E ρ b b' ∧ ∀ w, (execOp e o).run P w = (callFunc f (a' ++ args.toList.map e ++ b').toArray).run P w)
    (has : ∀ ρ e, Ev e → Holds E ρ fr e args.toList → VRs E ρ as (args.toList.map e)) (hC : CallR P E f (a ++ as ++ b) H nx r H' nx') : OpT P E o fr H nx r H' nx' := fun ρ A w next Q hfree hh hI hn => by
  have hav := has ρ A.eval (Ev.act A) (hh.sub hr.args)
  obtain ⟨a', b', h1, h2, hrun⟩ := hg ρ A.eval (Ev.act A) hh
  rcases hC with ⟨hf, hC⟩ | hC
  · have hr := hrun w
    rw [hf.enter] at hr
    unfold Oper.wp
    rw [hr]
    show Calls P f _ w _
    refine (hC ρ w _ hfree hI ((h1.append hav).append h2)).mono ?_
    rintro e w' ⟨v, rfl, ρ', s1, s2, s3⟩
    exact hn ρ' v w' s1 s2 s3
  · have hr := hrun w
    obtain ⟨v, w', ρ', hv, s1, s2, s3⟩ := hC ρ w _ hfree hI ((h1.append hav).append h2)
    rw [hv] at hr
    exact wp_value hr (hn ρ' v w' s1 s2 s3)
theorem opK_some {call : CallF} (hc : CallOk P E call) {c : COp} (hr : OpRel P E F o c) {fr : T AV} {h : T Blk} {nx : Nat} {k : KV} (hk : opK F call c fr h nx k = true) (hf : Fresh h nx) :
    ∃ r h' nx', k r h' nx' = true ∧ Fresh h' nx' ∧ nx ≤ nx' ∧ OpT P E o fr h.get nx r h'.get nx' := by
  cases c with
  | p x =>
    obtain ⟨r, h1, h2⟩ := hr fr (fun v => k v h nx) hk
    exact ⟨r, h, nx, h1, hf, Nat.le_refl _, pure_opT h2⟩
  | r x =>
    obtain ⟨r, h1, h2⟩ := hr fr h (fun v => k v h nx) hk
    exact ⟨r, h, nx, h1, hf, Nat.le_refl _, read_opT h2⟩
  | a x =>
    obtain ⟨f, cs, h1, h2⟩ := hr fr (fun f cs => mkFK f cs h nx fun h nx' => k (afAV f nx) h nx') hk
    obtain ⟨t, h', ht, hT, hu, h1⟩ := mkFK_some h1
    exact ⟨_, h', nx + 1, h1, hf.new hu, Nat.le_succ _, alloc_opT h2 ht hT hu⟩
  | e x => exact hr fr h nx k hk hf
  | call f xs =>
    obtain ⟨args, hg, ha⟩ := hr
    replace hk := calK_some hg hk
    obtain ⟨i, a, b, hk, hv⟩ := hk
    obtain ⟨as, hk, has⟩ := ha fr (fun as => appK as b fun as => appK a as fun as => call i as h nx k) hk
    rw [appK_eq, appK_eq] at hk
    obtain ⟨r, h', nx', h1, h2, h3, h4⟩ := hc i _ h nx k hk hf
    rw [← List.append_assoc] at h4
    exact ⟨r, h', nx', h1, h2, h3, call_opR hg hv has h4⟩
end

/-! ### A row of operations, in its order -/
def GuardRel (ops : Array Oper) (o : Oper) (g : Option (Nat × Bool)) : Prop := (o.guard = none ∧ g = none) ∨ ∃ j want s oj, o.guard = some (j, want) ∧ g = some (s, want) ∧ ops[j]? = some oj ∧ oj.dst = some s
structure OperRel (P : Program) (E : Env) (F : Facts) (ops : Array Oper) (N : Nat) (o : Oper) (d : Option Nat) (g : Option (Nat × Bool)) (c : COp) : Prop where
  dst : o.dst = d
  lt : ∀ t, d = some t → t < N
  guard : GuardRel ops o g
  op : OpRel P E F o c
inductive RegRel (P : Program) (E : Env) (F : Facts) (ops : Array Oper) (N : Nat) : List Oper → List COper → Prop where
  | nil : RegRel P E F ops N [] []
  | cons {o : Oper} {d : Option Nat} {g : Option (Nat × Bool)} {c : COp} {l : List Oper} {cl : List COper} (h : OperRel P E F ops N o d g c) (hs : RegRel P E F ops N l cl) : RegRel P E F ops N (o :: l) (.mk d g c :: cl)

section
variable {P : Program} {E : Env} {F : Facts} {N : Nat}
theorem guardK_some {ops : Array Oper} {o : Oper} {g : Option (Nat × Bool)} {fr : T AV} {yes no : Bool} (hg : GuardRel ops o g) (h : guardK fr yes no g = true) :
    (yes = true ∧ ∀ ρ a, Look E ρ fr (fun t => ∃ p, g = some p ∧ t = p.1) a → Region.wanted o (yielded ops a.tmps) = true) ∨ (no = true ∧ ∀ ρ a, Look E ρ fr (fun t => ∃ p, g = some p ∧ t = p.1) a → Region.wanted o (yielded ops a.tmps) = false) := by
  rcases hg with ⟨h1, rfl⟩ | ⟨j, want, s, oj, h1, rfl, h3, h4⟩
  · exact .inl ⟨h, fun ρ a _ => by simp [Region.wanted, h1]⟩
  · obtain ⟨av, hav, h⟩ := getK_some (k := fun v => boolUK v (fun b => @Bool.rec (fun _ => Bool) (@Bool.rec (fun _ => Bool) yes no want) (@Bool.rec (fun _ => Bool) no yes want) b) no) (t := fr) (i := s) h
    replace h := boolUK_some h
    rcases h with ⟨b, rfl, h⟩ | ⟨⟨l, rfl⟩, h⟩
    rotate_left
    · refine .inr ⟨h, fun ρ a hl => ?_⟩
      obtain ⟨hlt, hv⟩ := hl s ⟨_, rfl, rfl⟩ _ hav
      simp only [VR] at hv
      obtain ⟨l', _, hv⟩ := hv
      have : a.tmps[s]? = some (.tuple l'.toArray) := by
        simp only [Array.getD_eq_getD_getElem?] at hv
        rw [Array.getElem?_eq_getElem hlt] at hv ⊢
        simpa using hv
      simp [Region.wanted, h1, yielded, h3, h4, this]
    have key : ∀ ρ a, Look E ρ fr (fun t => ∃ p, some (s, want) = some p ∧ t = p.1) a → Region.wanted o (yielded ops a.tmps) = (b == want) := fun ρ a hl => by
      obtain ⟨hlt, hv⟩ := hl s ⟨_, rfl, rfl⟩ _ hav
      simp only [VR] at hv
      have : a.tmps[s]? = some (.bool b) := by
        simp only [Array.getD_eq_getD_getElem?] at hv
        rw [Array.getElem?_eq_getElem hlt] at hv ⊢
        simpa using hv
      simp [Region.wanted, h1, yielded, h3, h4, this]
    cases b <;> cases want
    · exact .inl ⟨h, fun ρ a hl => key ρ a hl⟩
    · exact .inr ⟨h, fun ρ a hl => key ρ a hl⟩
    · exact .inr ⟨h, fun ρ a hl => key ρ a hl⟩
    · exact .inl ⟨h, fun ρ a hl => key ρ a hl⟩
theorem AInv.look {ρ : Nat → Option Loc} {fr : T AV} {a : Act} (h : AInv E ρ N (frOf fr) a) (rd : Nat → Prop) : Look E ρ fr rd a := fun t _ av hav => by rw [h.size]; exact h.at_ t av hav
theorem putK_some {v : AV} {fr : T AV} {k : T AV → Bool} {d : Option Nat} (h : putK v fr k d = true) : ∃ fr', k fr' = true ∧ ((d = none ∧ fr' = fr) ∨ ∃ t, d = some t ∧ Upd fr t v fr') := by
  cases d with
  | none => exact ⟨fr, h, .inl ⟨rfl, rfl⟩⟩
  | some t =>
    change setK v 40 fr t k = true at h
    obtain ⟨fr', hu, h⟩ := setK_some h
    exact ⟨fr', h, .inr ⟨t, rfl, hu⟩⟩
theorem AInv.putd {ρ ρ' : Nat → Option Loc} {fr fr' : T AV} {a : Act} {d : Option Nat} {r : AV} {v : Value} (h : AInv E ρ N (frOf fr) a) (hx : Ext ρ ρ') (hd : ∀ t, d = some t → t < N) (hu : (d = none ∧ fr' = fr) ∨ ∃ t, d = some t ∧ Upd fr t r fr') (hv : VR E ρ' r v) : AInv E ρ' N (frOf fr') (a.put d v) := by
  rcases hu with ⟨rfl, rfl⟩ | ⟨t, rfl, hu⟩
  · exact h.ext hx
  · exact h.upd hx (hd t rfl) hu hv
/-- From a frame and a memory to another. -/
def RegT (E : Env) (N : Nat) (fr : T AV) (H : Heap) (nx : Nat) (fr' : T AV) (H' : Heap) (nx' : Nat) (go : (Act → World → Prop) → Act → World → Prop) : Prop :=
  ∀ ρ a w (K : Act → World → Prop), (∀ i, nx ≤ i → i < nx' → ρ i = none) → AInv E ρ N (frOf fr) a → Inv E ρ H w → (∀ ρ' a' w', Stp ρ H w nx ρ' H' w' nx' → AInv E ρ' N (frOf fr') a' → Inv E ρ' H' w' → K a' w') → go K a w
theorem regK_some {ops : Array Oper} {call : CallF} (hc : CallOk P E call) : ∀ {l : List Oper} {cl : List COper}, RegRel P E F ops N l cl → ∀ {fr : T AV} {h : T Blk} {nx : Nat} {k : KF}, regK F call cl fr h nx k = true → Fresh h nx →
    ∃ fr' h' nx', k fr' h' nx' = true ∧ Fresh h' nx' ∧ nx ≤ nx' ∧ ∀ (Q : Exit → Act → World → Prop), RegT E N fr h.get nx fr' h'.get nx' fun K a w => (∀ a w, K a w → Q .normal a w) → wpList P ops Q l a w := by
  intro l cl hr
  induction hr with
  | nil => intro fr h nx k hk hf; exact ⟨fr, h, nx, hk, hf, Nat.le_refl _, fun Q ρ a w K _ hA hI hK hq => hq _ _ (hK ρ a w Stp.rfl' hA hI)⟩
  | @cons o d g c l cl ho hs ih =>
    intro fr h nx k hk hf
    change operK F call d g c fr h nx (fun fr h nx => regK F call cl fr h nx k) = true at hk
    replace hk := guardK_some (E := E) ho.guard hk
    rcases hk with ⟨hk, hw⟩ | ⟨hk, hw⟩
    · obtain ⟨r, h1, nx1, hk, hf1, hle1, hT⟩ := opK_some hc ho.op hk hf
      obtain ⟨fr1, hk, hu⟩ := putK_some hk
      obtain ⟨fr', h', nx', hk, hf', hle', hrest⟩ := ih hk hf1
      refine ⟨fr', h', nx', hk, hf', Nat.le_trans hle1 hle', fun Q ρ a w K hfree hA hI hK hq => ?_⟩
      simp only [wpList]
      rw [if_pos (hw ρ a (hA.look _))]
      refine .inl (hT ρ a w _ Q (fun i a b => hfree i a (by omega)) (hA.holds _) hI fun ρ' v w' s1 hI' hv => ?_)
      rw [ho.dst]
      refine hrest Q ρ' _ w' K (fun i a b => ?_) (hA.putd s1.ext ho.lt hu hv) hI' (fun ρ'' a'' w'' s2 => hK ρ'' a'' w'' (s1.trans s2)) hq
      rw [s1.same i (by omega)]; exact hfree i (by omega) b
    · obtain ⟨fr1, hk, hu⟩ := putK_some hk
      obtain ⟨fr', h', nx', hk, hf', hle', hrest⟩ := ih hk hf
      refine ⟨fr', h', nx', hk, hf', hle', fun Q ρ a w K hfree hA hI hK hq => ?_⟩
      simp only [wpList]
      rw [if_neg (by rw [hw ρ a (hA.look _)]; simp), ho.dst]
      exact hrest Q ρ _ w K hfree (hA.putd (Ext.refl ρ) ho.lt hu vr_und) hI hK hq
end
end Go.Proofs.YtfgmmabggjjhgaaGreatDoor.Ev
