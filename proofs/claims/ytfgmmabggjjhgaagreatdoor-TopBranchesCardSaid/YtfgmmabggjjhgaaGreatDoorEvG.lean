/- The evaluator: what is taken from contracts. -/
import Derived.Test.YtfgmmabggjjhgaaGreatDoorEvK2
namespace Go.Proofs.YtfgmmabggjjhgaaGreatDoor.Ev
open Go

noncomputable def cDst (N : Nat) (d : Option Nat) (k : Option Nat → Bool) : Bool := @Option.rec Nat (fun _ => Bool) (k none) (fun t => forceN t fun t => ifK (Nat.blt t N) (k (some t)) false) d
noncomputable def someK {α : Type} (x : Option α) (k : α → Bool) : Bool := @Option.rec α (fun _ => Bool) false (fun v => k v) x
theorem someK_some {α : Type} {z : Option α} {k : α → Bool} (h : someK z k = true) : ∃ v, z = some v ∧ k v = true := by cases z <;> first | exact ⟨_, rfl, h⟩ | cases h
noncomputable def cGuard (ops : List Oper) (g : Option (Nat × Bool)) (k : Option (Nat × Bool) → Bool) : Bool :=
  @Option.rec (Nat × Bool) (fun _ => Bool) (k none) (fun p => nthK ops p.1 fun oj => someK oj.dst fun s => forceN s fun s => forceB p.2 fun want => k (some (s, want))) g
section
variable (P : Program) (tt : T TypeInfo) (ops : List Oper) (N : Nat)
noncomputable def cOper (o : Oper) (k : Option Nat → Option (Nat × Bool) → COp → Bool) : Bool := cDst N o.dst fun d => cGuard ops o.guard fun g => copSafe P tt o.op fun c => k d g c
noncomputable def cReg (l : List Oper) : (List COper → Bool) → Bool := @List.rec Oper (fun _ => (List COper → Bool) → Bool) (fun k => k []) (fun o _ ih k => cOper P tt ops N o fun d g c => ih fun r => k (.mk d g c :: r)) l
noncomputable def seekK (on : Nat) (seen : List SeenE) (k : Nat → Bool) : Bool := @List.rec SeenE (fun _ => Bool) false (fun s _ ih => ifK (Nat.beq s.ix on) (k s.mask) ih) seen
noncomputable def edgesK (seen : List SeenE) (l : List Edge) : Nat → (Nat → Bool) → Bool :=
  @List.rec Edge (fun _ => Nat → (Nat → Bool) → Bool) (fun m k => k m) (fun e _ ih m k => ifK (Region.binds .any e) (seekK e.on seen fun m' => forceN (Nat.lor m (Nat.lor (Nat.shiftLeft 1 e.on) m')) fun m => ih m k) (ih m k)) l
noncomputable def bitOf (x : Operand) (k : Nat → Bool) : Bool := @Operand.casesOn (fun _ => Bool) x (fun t => forceN (Nat.shiftLeft 1 t) k) (fun _ => k 0) (fun _ => k 0) (fun _ => k 0)
noncomputable def slotsK (l : List Operand) : Nat → (Nat → Bool) → Bool := @List.rec Operand (fun _ => Nat → (Nat → Bool) → Bool) (fun m k => k m) (fun x _ ih m k => bitOf x fun b => forceN (Nat.lor m b) fun m => ih m k) l
noncomputable def gBit (g : Option (Nat × Bool)) (k : Nat → Bool) : Bool := @Option.rec (Nat × Bool) (fun _ => Bool) (k 0) (fun p => forceN (Nat.shiftLeft 1 p.1) k) g
noncomputable def dBit (d : Option Nat) (k : Nat → Bool) : Bool := @Option.rec Nat (fun _ => Bool) (k 0) (fun t => forceN (Nat.shiftLeft 1 t) k) d
noncomputable def newK (ix : Nat) (k : Bool) (seen : List SeenE) : Bool := @List.rec SeenE (fun _ => Bool) k (fun s _ ih => ifK (Nat.beq s.ix ix) false ih) seen
/-- The reads before an effect that it does not hang on. -/
noncomputable def amK (mask : Nat) (k : Nat → Bool) (seen : List SeenE) : Nat → Bool :=
  @List.rec SeenE (fun _ => Nat → Bool) (fun m => k m) (fun s _ ih m => ifK (Nat.beq s.cls 1) (ifK (Nat.testBit mask s.ix) (ih m) (forceN (Nat.lor m (Nat.shiftLeft 1 s.ix)) fun m => ih m)) (ih m)) seen
noncomputable def looseK (s : SeenE) (am : Nat) (x : SeenE) (k : Bool) : Bool :=
  ifK (Nat.beq (Nat.land x.dM (Nat.lor s.rM s.dM)) 0) (ifK (Nat.beq (Nat.land s.dM x.rM) 0) (ifK (Nat.ble 2 x.cls) (ifK (Nat.beq s.cls 3) false (ifK (Nat.beq s.cls 1) false k)) (ifK (Nat.beq x.cls 1) (ifK (Nat.beq s.cls 3) (ifK (Nat.testBit am x.ix) k false) k) k)) false) false
noncomputable def confK (s : SeenE) (am : Nat) (k : Bool) (seen : List SeenE) : Bool := @List.rec SeenE (fun _ => Bool) k (fun x _ ih => ifK (Nat.testBit s.mask x.ix) ih (looseK s am x ih)) seen
noncomputable def copClsK (c : COp) (k : Nat → Bool) : Bool := @COp.rec (fun _ => Bool) (fun _ => k 0) (fun _ => k 1) (fun _ => k 2) (fun _ => k 3) (fun _ _ => k 3) c
noncomputable def allIxK (seen : List SeenE) (k : Bool) (n : Nat) : Bool := @Nat.rec (fun _ => Bool) k (fun i ih => seekK i seen fun _ => ih) n
noncomputable def cDrg (size : Nat) (order : List Nat) : List SeenE → (List DOper → Bool) → Bool :=
  @List.rec Nat (fun _ => List SeenE → (List DOper → Bool) → Bool) (fun seen k => lenK seen 0 fun n => ifK (Nat.beq n size) (allIxK seen (k []) size) false)
    (fun ix _ ih seen k => forceN ix fun ix => nthK ops ix fun o => cOper P tt ops N o fun d g c => edgesK seen o.after.toList 0 fun mask => slotsK o.op.operands.toList 0 fun r0 => gBit g fun gb => forceN (Nat.lor r0 gb) fun rM => dBit d fun dM => copClsK c fun cls =>
      newK ix (ifK (Nat.beq cls 3) (amK mask (fun am => confK ⟨ix, mask, rM, dM, cls⟩ am (ih (⟨ix, mask, rM, dM, cls⟩ :: seen) fun l => k (.mk d g c ix am :: l)) seen) seen 0)
        (confK ⟨ix, mask, rM, dM, cls⟩ 0 (ih (⟨ix, mask, rM, dM, cls⟩ :: seen) fun l => k (.mk d g c ix 0 :: l)) seen)) seen) order
end

section
variable {P : Program} {tt : T TypeInfo} {E : Env} {F : Facts} {ops : Array Oper} {N : Nat}
theorem cDst_some {d : Option Nat} {k : Option Nat → Bool} (h : cDst N d k = true) : k d = true ∧ ∀ t, d = some t → t < N := by
  cases d with
  | none => exact ⟨h, fun t e => by cases e⟩
  | some t =>
    change forceN t (fun t => ifK (Nat.blt t N) (k (some t)) false) = true at h
    rw [forceN_eq] at h
    obtain ⟨h1, h2⟩ := ifK_and h
    exact ⟨h2, fun t' e => by injection e with e; subst e; exact blt_of h1⟩
theorem cGuard_some {o : Oper} {k : Option (Nat × Bool) → Bool} (h : cGuard ops.toList o.guard k = true) : ∃ g, k g = true ∧ GuardRel ops o g := by
  cases hg : o.guard with
  | none => rw [hg] at h; exact ⟨none, h, .inl ⟨hg, rfl⟩⟩
  | some p =>
    obtain ⟨j, want⟩ := p
    rw [hg] at h
    change nthK ops.toList j (fun oj => someK oj.dst fun s => forceN s fun s => forceB want fun want => k (some (s, want))) = true at h
    replace h := nthK_some h
    obtain ⟨oj, hj, h⟩ := h
    replace h := someK_some h
    obtain ⟨s, hs, h⟩ := h
    rw [forceN_eq, forceB_eq] at h
    exact ⟨_, h, .inr ⟨j, want, s, oj, hg, rfl, by simpa using hj, hs⟩⟩
theorem cOper_some (hT : TypesOf P tt) (hF : F.Of E) {o : Oper} {k : Option Nat → Option (Nat × Bool) → COp → Bool} (h : cOper P tt ops.toList N o k = true) : ∃ d g c, k d g c = true ∧ OperRel P E F ops N o d g c := by
  unfold cOper at h
  replace h := cDst_some h
  obtain ⟨h, hd⟩ := h
  replace h := cGuard_some h
  obtain ⟨g, h, hg⟩ := h
  replace h := copSafe_some (E := E) (F := F) (o := o) hT hF h
  obtain ⟨c, h, hc⟩ := h
  exact ⟨_, g, c, h, rfl, hd, hg, hc⟩
theorem cReg_some (hT : TypesOf P tt) (hF : F.Of E) : ∀ {l : List Oper} {k : List COper → Bool}, cReg P tt ops.toList N l k = true → ∃ cl, k cl = true ∧ RegRel P E F ops N l cl
  | [], k, h => ⟨[], h, .nil⟩
  | o :: l, k, h => by
    replace h := cOper_some (k := fun d g c => cReg P tt ops.toList N l fun r => k (.mk d g c :: r)) hT hF h
    obtain ⟨d, g, c, h, hr⟩ := h
    replace h := cReg_some hT hF h
    obtain ⟨cl, h, hs⟩ := h
    exact ⟨_, h, .cons hr hs⟩
theorem bit_shl {t b : Nat} (h : (Nat.shiftLeft 1 t).testBit b = true) : b = t := by
  have h' : (1 <<< t).testBit b = true := h
  rw [Nat.testBit_shiftLeft] at h'
  simp only [Bool.and_eq_true, decide_eq_true_eq] at h'
  have := h'.2
  rw [Nat.testBit_one_eq_true_iff_self_eq_zero] at this
  omega
theorem shl_bit (t : Nat) : (Nat.shiftLeft 1 t).testBit t = true := by
  show (1 <<< t).testBit t = true
  rw [Nat.testBit_shiftLeft]; simp
theorem lor_bit {a b t : Nat} : (Nat.lor a b).testBit t = true ↔ a.testBit t = true ∨ b.testBit t = true := by
  show (a ||| b).testBit t = true ↔ _
  rw [Nat.testBit_or]; simp
theorem land_zero {a b t : Nat} (h : Nat.beq (Nat.land a b) 0 = true) (ha : a.testBit t = true) (hb : b.testBit t = true) : False := by
  have h := beq_of h
  have : (a &&& b).testBit t = true := by rw [Nat.testBit_and, ha, hb]; rfl
  rw [show a &&& b = 0 from h] at this
  simp at this
theorem seekK_some {on : Nat} {k : Nat → Bool} : ∀ {seen : List SeenE}, seekK on seen k = true → ∃ s ∈ seen, s.ix = on ∧ k s.mask = true
  | [], h => by cases h
  | s :: seen, h => by
    rcases ifK_two (e := seekK on seen k) h with ⟨e, h⟩ | ⟨_, h⟩
    · exact ⟨s, List.mem_cons_self, beq_of e, h⟩
    · obtain ⟨x, hx, h1, h2⟩ := seekK_some h
      exact ⟨x, List.mem_cons_of_mem _ hx, h1, h2⟩
theorem edgesK_some {seen : List SeenE} : ∀ {l : List Edge} {m : Nat} {k : Nat → Bool}, edgesK seen l m k = true →
    ∃ m', k m' = true ∧ (∀ b, m'.testBit b = true → m.testBit b = true ∨ ∃ e ∈ l, Region.binds .any e = true ∧ ∃ s ∈ seen, s.ix = e.on ∧ (b = e.on ∨ s.mask.testBit b = true)) ∧ ∀ e ∈ l, Region.binds .any e = true → ∃ s ∈ seen, s.ix = e.on
  | [], m, k, h => ⟨m, h, fun b hb => .inl hb, fun e he => by cases he⟩
  | e :: l, m, k, h => by
    rcases ifK_two (t := seekK e.on seen fun m' => forceN (Nat.lor m (Nat.lor (Nat.shiftLeft 1 e.on) m')) fun m => edgesK seen l m k) (e := edgesK seen l m k) h with ⟨hb, h⟩ | ⟨hb, h⟩
    · obtain ⟨s, hs, hix, h⟩ := seekK_some h
      rw [forceN_eq] at h
      obtain ⟨m', h, h1, h2⟩ := edgesK_some h
      refine ⟨m', h, fun b hbt => ?_, fun e' he' hb' => ?_⟩
      · rcases h1 b hbt with h | ⟨e', he', hr⟩
        · rcases lor_bit.1 h with h | h
          · exact .inl h
          · rcases lor_bit.1 h with h | h
            · exact .inr ⟨e, List.mem_cons_self, hb, s, hs, hix, .inl (bit_shl h)⟩
            · exact .inr ⟨e, List.mem_cons_self, hb, s, hs, hix, .inr h⟩
        · exact .inr ⟨e', List.mem_cons_of_mem _ he', hr⟩
      · rcases List.mem_cons.1 he' with rfl | he'
        · exact ⟨s, hs, hix⟩
        · exact h2 e' he' hb'
    · obtain ⟨m', h, h1, h2⟩ := edgesK_some h
      refine ⟨m', h, fun b hbt => ?_, fun e' he' hb' => ?_⟩
      · rcases h1 b hbt with h | ⟨e', he', hr⟩
        · exact .inl h
        · exact .inr ⟨e', List.mem_cons_of_mem _ he', hr⟩
      · rcases List.mem_cons.1 he' with rfl | he'
        · rw [hb] at hb'; cases hb'
        · exact h2 e' he' hb'
theorem bitOf_some {x : Operand} {k : Nat → Bool} (h : bitOf x k = true) : ∃ m, k m = true ∧ ∀ t, x = .tmp t → m.testBit t = true := by
  cases x with
  | tmp t =>
    change forceN (Nat.shiftLeft 1 t) k = true at h
    rw [forceN_eq] at h
    exact ⟨_, h, fun t' e => by injection e with e; subst e; exact shl_bit t⟩
  | _ => exact ⟨0, h, fun t e => by cases e⟩
theorem slotsK_some : ∀ {l : List Operand} {m : Nat} {k : Nat → Bool}, slotsK l m k = true → ∃ m', k m' = true ∧ (∀ b, m.testBit b = true → m'.testBit b = true) ∧ ∀ t, Operand.tmp t ∈ l → m'.testBit t = true
  | [], m, k, h => ⟨m, h, fun _ h => h, fun t ht => by cases ht⟩
  | x :: l, m, k, h => by
    obtain ⟨b, h, hb⟩ := bitOf_some (x := x) (k := fun b => forceN (Nat.lor m b) fun m => slotsK l m k) h
    rw [forceN_eq] at h
    obtain ⟨m', h, h1, h2⟩ := slotsK_some h
    refine ⟨m', h, fun t ht => h1 t (lor_bit.2 (.inl ht)), fun t ht => ?_⟩
    rcases List.mem_cons.1 ht with e | ht
    · exact h1 t (lor_bit.2 (.inr (hb t e.symm)))
    · exact h2 t ht
theorem gBit_some {g : Option (Nat × Bool)} {k : Nat → Bool} (h : gBit g k = true) : ∃ m, k m = true ∧ ∀ t, (∃ p, g = some p ∧ t = p.1) → m.testBit t = true := by
  cases g with
  | none => exact ⟨0, h, fun t ht => by obtain ⟨p, e, _⟩ := ht; cases e⟩
  | some p =>
    change forceN (Nat.shiftLeft 1 p.1) k = true at h
    rw [forceN_eq] at h
    refine ⟨_, h, fun t ht => ?_⟩
    obtain ⟨q, e, rfl⟩ := ht
    injection e with e; subst e; exact shl_bit _
theorem dBit_some {d : Option Nat} {k : Nat → Bool} (h : dBit d k = true) : ∃ m, k m = true ∧ ∀ t, d = some t → m.testBit t = true := by
  cases d with
  | none => exact ⟨0, h, fun t ht => by cases ht⟩
  | some t =>
    change forceN (Nat.shiftLeft 1 t) k = true at h
    rw [forceN_eq] at h
    exact ⟨_, h, fun t' e => by injection e with e; subst e; exact shl_bit t⟩
theorem newK_some {ix : Nat} {k : Bool} : ∀ {seen : List SeenE}, newK ix k seen = true → k = true ∧ ∀ x ∈ seen, x.ix ≠ ix
  | [], h => ⟨h, fun x hx => by cases hx⟩
  | s :: seen, h => by
    rcases ifK_two (t := false) (e := newK ix k seen) h with ⟨_, h⟩ | ⟨hb, h⟩
    · cases h
    · obtain ⟨h1, h2⟩ := newK_some h
      refine ⟨h1, fun x hx => ?_⟩
      rcases List.mem_cons.1 hx with rfl | hx
      · intro e
        rw [e] at hb
        have : Nat.beq ix ix = true := by simp
        rw [hb] at this; cases this
      · exact h2 x hx
theorem amK_some {mask : Nat} {k : Nat → Bool} : ∀ {seen : List SeenE} {m : Nat}, amK mask k seen m = true → ∃ m', k m' = true
  | [], m, h => ⟨m, h⟩
  | s :: seen, m, h => by
    rcases ifK_two (t := ifK (Nat.testBit mask s.ix) (amK mask k seen m) (forceN (Nat.lor m (Nat.shiftLeft 1 s.ix)) fun m => amK mask k seen m)) (e := amK mask k seen m) h with ⟨_, h⟩ | ⟨_, h⟩
    · rcases ifK_two h with ⟨_, h⟩ | ⟨_, h⟩
      · exact amK_some h
      · rw [forceN_eq] at h; exact amK_some h
    · exact amK_some h
theorem looseK_some {s x : SeenE} {am : Nat} {k : Bool} (h : looseK s am x k = true) : k = true ∧ Loose x s am := by
  unfold looseK at h
  obtain ⟨h1, h⟩ := ifK_and h
  obtain ⟨h2, h⟩ := ifK_and h
  have key : k = true ∧ ((x.cls = 2 ∨ x.cls = 3) → (s.cls = 3 ∨ s.cls = 1) → False) ∧ (x.cls = 1 → s.cls = 3 → am.testBit x.ix = true) := by
    rcases ifK_two h with ⟨e, h⟩ | ⟨e, h⟩
    · have e := ble_of e
      rcases ifK_two h with ⟨_, h⟩ | ⟨e3, h⟩
      · cases h
      rcases ifK_two h with ⟨_, h⟩ | ⟨e1, h⟩
      · cases h
      refine ⟨h, fun _ hs => ?_, fun hx => by omega⟩
      rcases hs with hs | hs <;> rw [hs] at e1 e3 <;> simp at e1 e3
    · have e : ¬ 2 ≤ x.cls := fun hle => by
        have : Nat.ble 2 x.cls = true := by rw [Nat.ble_eq]; exact hle
        rw [e] at this; cases this
      rcases ifK_two h with ⟨e1, h⟩ | ⟨e1, h⟩
      · rcases ifK_two h with ⟨_, h⟩ | ⟨e3, h⟩
        · obtain ⟨h3, h⟩ := ifK_and h
          exact ⟨h, fun hx => by omega, fun _ _ => h3⟩
        · refine ⟨h, fun hx => by omega, fun _ hs => ?_⟩
          rw [hs] at e3; simp at e3
      · refine ⟨h, fun hx => by omega, fun hx => ?_⟩
        rw [hx] at e1; simp at e1
  obtain ⟨k1, k2, k3⟩ := key
  refine ⟨k1, ⟨fun t ha hb => ?_, fun t ha hb => land_zero h2 ha hb, k2, k3⟩⟩
  exact land_zero h1 ha (lor_bit.2 hb)
theorem confK_some {s : SeenE} {am : Nat} {k : Bool} : ∀ {seen : List SeenE}, confK s am k seen = true → k = true ∧ ∀ x ∈ seen, s.mask.testBit x.ix = true ∨ Loose x s am
  | [], h => ⟨h, fun x hx => by cases hx⟩
  | x :: seen, h => by
    rcases ifK_two (t := confK s am k seen) (e := looseK s am x (confK s am k seen)) h with ⟨e, h⟩ | ⟨_, h⟩
    · obtain ⟨h1, h2⟩ := confK_some h
      refine ⟨h1, fun y hy => ?_⟩
      rcases List.mem_cons.1 hy with rfl | hy
      · exact .inl e
      · exact h2 y hy
    · obtain ⟨h, hl⟩ := looseK_some h
      obtain ⟨h1, h2⟩ := confK_some h
      refine ⟨h1, fun y hy => ?_⟩
      rcases List.mem_cons.1 hy with rfl | hy
      · exact .inr hl
      · exact h2 y hy
theorem copClsK_some {c : COp} {k : Nat → Bool} (h : copClsK c k = true) : k (copCls c) = true := by cases c <;> exact h
theorem allIxK_some {seen : List SeenE} {k : Bool} : ∀ {n : Nat}, allIxK seen k n = true → k = true ∧ ∀ i, i < n → ∃ s ∈ seen, s.ix = i
  | 0, h => ⟨h, fun i hi => by omega⟩
  | n + 1, h => by
    obtain ⟨s, hs, e, h⟩ := seekK_some (on := n) (k := fun _ => allIxK seen k n) h
    obtain ⟨h1, h2⟩ := allIxK_some h
    refine ⟨h1, fun i hi => ?_⟩
    rcases Nat.lt_or_ge i n with hlt | hge
    · exact h2 i hlt
    · exact ⟨s, hs, by omega⟩
theorem cDrg_some (hT : TypesOf P tt) (hF : F.Of E) : ∀ {order : List Nat} {seen : List SeenE} {k : List DOper → Bool}, cDrg P tt ops.toList N ops.size order seen k = true →
    (∀ s ∈ seen, (∃ o, ops[s.ix]? = some o) ∧ ∀ b, s.mask.testBit b = true → DepOn ops s.ix b) → ∃ l, k l = true ∧ DRel P E F ops N seen l
  | [], seen, k, h, _ => by
    change lenK seen 0 (fun n => ifK (Nat.beq n ops.size) (allIxK seen (k []) ops.size) false) = true at h
    rw [lenK_eq, Nat.zero_add] at h
    obtain ⟨h1, h⟩ := ifK_and h
    obtain ⟨h2, h3⟩ := allIxK_some h
    exact ⟨[], h2, .nil h3 (beq_of h1)⟩
  | ix :: order, seen, k, h, hS => by
    change forceN ix (fun ix => nthK ops.toList ix fun o => cOper P tt ops.toList N o fun d g c => edgesK seen o.after.toList 0 fun mask => slotsK o.op.operands.toList 0 fun r0 => gBit g fun gb => forceN (Nat.lor r0 gb) fun rM => dBit d fun dM => copClsK c fun cls =>
      newK ix (ifK (Nat.beq cls 3) (amK mask (fun am => confK ⟨ix, mask, rM, dM, cls⟩ am (cDrg P tt ops.toList N ops.size order (⟨ix, mask, rM, dM, cls⟩ :: seen) fun l => k (.mk d g c ix am :: l)) seen) seen 0)
        (confK ⟨ix, mask, rM, dM, cls⟩ 0 (cDrg P tt ops.toList N ops.size order (⟨ix, mask, rM, dM, cls⟩ :: seen) fun l => k (.mk d g c ix 0 :: l)) seen)) seen) = true at h
    rw [forceN_eq] at h
    replace h := nthK_some h
    obtain ⟨o, ho, h⟩ := h
    have ho : ops[ix]? = some o := by simpa using ho
    replace h := cOper_some (E := E) (F := F) hT hF h
    obtain ⟨d, g, c, h, hr⟩ := h
    replace h := edgesK_some h
    obtain ⟨mask, h, hm1, hm2⟩ := h
    replace h := slotsK_some h
    obtain ⟨r0, h, _, hr0⟩ := h
    replace h := gBit_some h
    obtain ⟨gb, h, hgb⟩ := h
    rw [forceN_eq] at h
    replace h := dBit_some h
    obtain ⟨dM, h, hdM⟩ := h
    replace h := copClsK_some h
    obtain ⟨h, hnew⟩ := newK_some h
    have hmask : ∀ b, mask.testBit b = true → DepOn ops ix b := by
      intro b hb
      rcases hm1 b hb with h | ⟨e, he, hbd, s, hs, hix, h⟩
      · simp at h
      · intro oj hoj listed hcl hdir
        rw [ho] at hoj; injection hoj with hoj; subst hoj
        have hl := hdir e (by simpa using he) hbd
        rcases h with h | h
        · rw [h]; exact hl
        · obtain ⟨⟨os, hos⟩, hd⟩ := hS s hs
          exact hd b h os hos listed hcl (hcl s.ix os hos (by rw [hix]; exact hl))
    have head : ∀ am, (∀ x ∈ seen, mask.testBit x.ix = true ∨ Loose x ⟨ix, mask, Nat.lor r0 gb, dM, copCls c⟩ am) → DHead P E F ops N seen ⟨ix, mask, Nat.lor r0 gb, dM, copCls c⟩ o d g c ix am := fun am hconf =>
      ⟨ho, hr, rfl, rfl, hdM, fun t ht => lor_bit.2 (ht.imp (hr0 t) (hgb t)), hmask, hnew, fun e he hb => hm2 e (by simpa using he) hb, hconf⟩
    have hS' : ∀ s ∈ (⟨ix, mask, Nat.lor r0 gb, dM, copCls c⟩ : SeenE) :: seen, (∃ o, ops[s.ix]? = some o) ∧ ∀ b, s.mask.testBit b = true → DepOn ops s.ix b := by
      intro s hs
      rcases List.mem_cons.1 hs with rfl | hs
      · exact ⟨⟨o, ho⟩, hmask⟩
      · exact hS s hs
    replace h := ifK_two h
    rcases h with ⟨_, h⟩ | ⟨_, h⟩
    · replace h := amK_some h
      obtain ⟨am, h⟩ := h
      replace h := confK_some h
      obtain ⟨h, hconf⟩ := h
      replace h := cDrg_some hT hF h hS'
      obtain ⟨l, h, hl⟩ := h
      exact ⟨_, h, .cons (head am hconf) hl⟩
    · replace h := confK_some h
      obtain ⟨h, hconf⟩ := h
      replace h := cDrg_some hT hF h hS'
      obtain ⟨l, h, hl⟩ := h
      exact ⟨_, h, .cons (head 0 hconf) hl⟩
end
end Go.Proofs.YtfgmmabggjjhgaaGreatDoor.Ev
namespace Go.Proofs.YtfgmmabggjjhgaaGreatDoor.Ev
open Go

noncomputable def odrK (id : Nat) (k : List Nat → Bool) (no : Bool) (l : List (Nat × List Nat)) : Bool := @List.rec (Nat × List Nat) (fun _ => Bool) no (fun p _ ih => ifK (Nat.beq p.1 id) (k p.2) ih) l
noncomputable def idxK (l : List Oper) : Nat → (List Nat → Bool) → Bool := @List.rec Oper (fun _ => Nat → (List Nat → Bool) → Bool) (fun _ k => k []) (fun _ _ ih i k => forceN (Nat.succ i) fun j => ih j fun r => k (i :: r)) l
section
variable (P : Program) (tt : T TypeInfo) (N : Nat) (ords : List (Nat × List Nat))
noncomputable def drawnC (ops : Array Oper) (order : List Nat) (k : CCode → Bool) : Bool :=
  ifK (cDrg P tt ops.toList N ops.size order [] fun _ => true) (cDrg P tt ops.toList N ops.size order [] fun l => k (.drg l)) (k badC)
noncomputable def regionC (id : Nat) (ops : Array Oper) (draw : Bool) (k : CCode → Bool) : Bool :=
  @Bool.rec (fun _ => Bool) (cReg P tt ops.toList N ops.toList fun l => k (.reg l)) (odrK id (fun order => drawnC P tt N ops order k) (idxK ops.toList 0 fun order => drawnC P tt N ops order k) ords) draw
noncomputable def codeC (c : Code) : (CCode → Bool) → Bool :=
  @Code.rec (fun _ => (CCode → Bool) → Bool) (fun k => k .skip) (fun id ops draw k => regionC P tt N ords id ops draw k) (fun _ _ iha ihb k => iha fun a => ihb fun b => k (.seq a b))
    (fun x _ _ iha ihb k => copdK x fun x => iha fun a => ihb fun b => k (.cond x a b)) (fun i _ ih k => forceN i fun i => ih fun a => k (.block i a)) (fun _ ih k => ih fun a => k (.loop a)) (fun _ _ _ _ _ _ k => k badC) (fun i k => forceN i fun i => k (.exit i))
    (fun _ _ k => k badC) (fun _ k => k .skip) (fun _ k => k badC) (fun k => k .ret) (fun _ k => k badC) c
noncomputable def resC1 (r : ResultVar) (k : CRes → Bool) : Bool :=
  @ResultVar.rec (fun _ => Bool) (fun t => forceN t fun t => k (.tmp t)) (fun t ct => forceN t fun t => undK tt ct fun d => aggDK d (infoK tt ct fun it => forceN it.size fun n => k (.cn n t)) (k (.c1 t))) r
noncomputable def resC (l : List ResultVar) : (List CRes → Bool) → Bool := @List.rec ResultVar (fun _ => (List CRes → Bool) → Bool) (fun k => k []) (fun r _ ih k => resC1 tt r fun c => ih fun cs => k (c :: cs)) l
end
noncomputable def fnC (P : Program) (tt : T TypeInfo) (fn : Func) (ords : List (Nat × List Nat)) (k : FnE → Bool) : Bool :=
  someK fn.body fun b => forceN fn.ntmps fun n => resC tt fn.results.toList fun rs => codeC P tt n ords b fun c => k (.code n rs c)
structure FnD where
  id : Nat
  fn : Func
  ords : List (Nat × List Nat)
noncomputable def fnsK (P : Program) (tt : T TypeInfo) (l : List FnD) : T FnE → (T FnE → Bool) → Bool :=
  @List.rec FnD (fun _ => T FnE → (T FnE → Bool) → Bool) (fun ft k => k ft) (fun d _ ih ft k => fnC P tt d.fn d.ords fun e => forceN d.id fun i => setK e 40 ft i fun ft => ih ft k) l
noncomputable def orcsK (l : List (Nat × FnE)) : T FnE → (T FnE → Bool) → Bool :=
  @List.rec (Nat × FnE) (fun _ => T FnE → (T FnE → Bool) → Bool) (fun ft k => k ft) (fun p _ ih ft k => setK p.2 40 ft p.1 fun ft => ih ft k) l
noncomputable def typesK (P : Program) (k : T TypeInfo → Bool) : Bool := writeK P.types.toList .l 0 k
/-- The whole: tables, functions, the call. -/
noncomputable def runK (P : Program) (F : Facts) (fuel depth : Nat) (fns : List FnD) (orcs : List (Nat × FnE)) (f : Nat) (as : List AV) (h : T Blk) (nx : Nat) (k : KV) : Bool :=
  typesK P fun tt => orcsK orcs .l fun ft => fnsK P tt fns ft fun ft => callK F fuel ft depth f as h nx k

section
variable {P : Program} {tt : T TypeInfo} {E : Env} {F : Facts} {N : Nat} {ords : List (Nat × List Nat)}
theorem drawnC_some (hT : TypesOf P tt) (hF : F.Of E) {id : Nat} {ops : Array Oper} {order : List Nat} {k : CCode → Bool} (h : drawnC P tt N ops order k = true) : ∃ cc, k cc = true ∧ CodeRel P E F N (.region id ops true) cc := by
  rcases ifK_two h with ⟨_, h⟩ | ⟨_, h⟩
  · replace h := cDrg_some (E := E) (F := F) hT hF h (fun s hs => by cases hs)
    obtain ⟨l, h, hl⟩ := h
    exact ⟨_, h, .drg hl⟩
  · exact ⟨_, h, .bad _⟩
theorem odrK_some {id : Nat} {k : List Nat → Bool} {no : Bool} : ∀ {l : List (Nat × List Nat)}, odrK id k no l = true → (∃ o, k o = true) ∨ no = true
  | [], h => .inr h
  | p :: l, h => by
    rcases ifK_two (e := odrK id k no l) h with ⟨_, h⟩ | ⟨_, h⟩
    · exact .inl ⟨_, h⟩
    · exact odrK_some h
theorem idxK_some : ∀ {l : List Oper} {i : Nat} {k : List Nat → Bool}, idxK l i k = true → ∃ o, k o = true
  | [], _, _, h => ⟨_, h⟩
  | x :: l, i, k, h => by
    change forceN (Nat.succ i) (fun j => idxK l j fun r => k (i :: r)) = true at h
    rw [forceN_eq] at h
    obtain ⟨o, h⟩ := idxK_some h
    exact ⟨_, h⟩
theorem codeC_some (hT : TypesOf P tt) (hF : F.Of E) : ∀ {c : Code} {k : CCode → Bool}, codeC P tt N ords c k = true → ∃ cc, k cc = true ∧ CodeRel P E F N c cc := by
  intro c
  induction c with
  | skip => intro k h; exact ⟨_, h, .skip⟩
  | region id ops draw =>
    intro k h
    cases draw with
    | false =>
      replace h := cReg_some (E := E) (F := F) hT hF (k := fun l => k (.reg l)) h
      obtain ⟨l, h, hl⟩ := h
      exact ⟨_, h, .reg hl⟩
    | true =>
      rcases odrK_some (id := id) (k := fun order => drawnC P tt N ops order k) (l := ords) h with ⟨o, h⟩ | h
      · exact drawnC_some hT hF h
      · obtain ⟨o, h⟩ := idxK_some h
        exact drawnC_some hT hF h
  | seq a b iha ihb =>
    intro k h
    replace h := iha (k := fun a => codeC P tt N ords b fun b => k (.seq a b)) h
    obtain ⟨ca, h, ha⟩ := h
    replace h := ihb h
    obtain ⟨cb, h, hb⟩ := h
    exact ⟨_, h, .seq ha hb⟩
  | cond x a b iha ihb =>
    intro k h
    replace h := copdK_some (E := E) (k := fun x => codeC P tt N ords a fun a => codeC P tt N ords b fun b => k (.cond x a b)) h
    obtain ⟨cx, h, hx⟩ := h
    replace h := iha h
    obtain ⟨ca, h, ha⟩ := h
    replace h := ihb h
    obtain ⟨cb, h, hb⟩ := h
    exact ⟨_, h, .cond hx ha hb⟩
  | block i a ih =>
    intro k h
    change forceN i (fun i => codeC P tt N ords a fun a => k (.block i a)) = true at h
    rw [forceN_eq] at h
    replace h := ih h
    obtain ⟨ca, h, ha⟩ := h
    exact ⟨_, h, .block ha⟩
  | loop a ih =>
    intro k h
    replace h := ih (k := fun a => k (.loop a)) h
    obtain ⟨ca, h, ha⟩ := h
    exact ⟨_, h, .loop ha⟩
  | exit i =>
    intro k h
    change forceN i (fun i => k (.exit i)) = true at h
    rw [forceN_eq] at h
    exact ⟨_, h, .exit i⟩
  | label l => intro k h; exact ⟨_, h, .label l⟩
  | ret => intro k h; exact ⟨_, h, .ret⟩
  | _ => intro k h; exact ⟨_, h, .bad _⟩
theorem resC_some (hT : TypesOf P tt) : ∀ {l : List ResultVar} {k : List CRes → Bool}, resC tt l k = true → ∃ cs, k cs = true ∧ ResRel P l cs
  | [], k, h => ⟨_, h, .nil⟩
  | .tmp t :: l, k, h => by
    change forceN t (fun t => resC tt l fun cs => k (.tmp t :: cs)) = true at h
    rw [forceN_eq] at h
    replace h := resC_some hT h
    obtain ⟨cs, h, hs⟩ := h
    exact ⟨_, h, .tmp hs⟩
  | .cell t ct :: l, k, h => by
    change forceN t (fun t => undK tt ct fun d => aggDK d (infoK tt ct fun it => forceN it.size fun n => resC tt l fun cs => k (.cn n t :: cs)) (resC tt l fun cs => k (.c1 t :: cs))) = true at h
    rw [forceN_eq] at h
    replace h := undK_some hT h
    obtain ⟨d, hd, h⟩ := h
    replace h := aggDK_some hd h
    rcases h with ⟨h, hg⟩ | ⟨h, hg⟩
    · replace h := infoK_some hT h
      obtain ⟨it, hi, h⟩ := h
      rw [forceN_eq] at h
      replace h := resC_some hT h
      obtain ⟨cs, h, hs⟩ := h
      exact ⟨_, h, .cn hg hi hs⟩
    · replace h := resC_some hT h
      obtain ⟨cs, h, hs⟩ := h
      exact ⟨_, h, .c1 hg hs⟩
/-- A function of the program. -/
structure FnD.Of (P : Program) (d : FnD) : Prop where
  get : P.funcs[d.id]? = some d.fn
  name : (d.fn.name == "runtime.NumGoroutine") = false
theorem fnC_some (hT : TypesOf P tt) (hF : F.Of E) {d : FnD} (hd : d.Of P) {k : FnE → Bool} (h : fnC P tt d.fn d.ords k = true) : ∃ e, k e = true ∧ FnRel P E F d.id e := by
  unfold fnC at h
  replace h := someK_some h
  obtain ⟨b, hb, h⟩ := h
  rw [forceN_eq] at h
  replace h := resC_some hT h
  obtain ⟨rs, h, hr⟩ := h
  replace h := codeC_some (E := E) (F := F) hT hF h
  obtain ⟨c, h, hc⟩ := h
  exact ⟨_, h, .code hd.get hb hd.name hr hc⟩
def FtOk (P : Program) (E : Env) (F : Facts) (ft : T FnE) : Prop := ∀ i e, ft.get i = some e → FnRel P E F i e
theorem FtOk.set {ft ft' : T FnE} {i : Nat} {e : FnE} (h : FtOk P E F ft) (hu : Upd ft i e ft') (he : FnRel P E F i e) : FtOk P E F ft' := by
  intro j x hx
  rw [hu] at hx
  split at hx
  · rename_i hj; subst hj; injection hx with hx; subst hx; exact he
  · exact h j x hx
theorem fnsK_some (hT : TypesOf P tt) (hF : F.Of E) : ∀ {l : List FnD}, (∀ d ∈ l, d.Of P) → ∀ {ft : T FnE} {k : T FnE → Bool}, FtOk P E F ft → fnsK P tt l ft k = true → ∃ ft', k ft' = true ∧ FtOk P E F ft'
  | [], _, ft, k, hft, h => ⟨ft, h, hft⟩
  | d :: l, hl, ft, k, hft, h => by
    change fnC P tt d.fn d.ords (fun e => forceN d.id fun i => setK e 40 ft i fun ft => fnsK P tt l ft k) = true at h
    replace h := fnC_some (E := E) (F := F) hT hF (hl d List.mem_cons_self) h
    obtain ⟨e, h, he⟩ := h
    rw [forceN_eq] at h
    replace h := setK_some h
    obtain ⟨ft1, hu, h⟩ := h
    exact fnsK_some hT hF (fun x hx => hl x (List.mem_cons_of_mem _ hx)) (hft.set hu he) h
theorem orcsK_some : ∀ {l : List (Nat × FnE)}, (∀ p ∈ l, FnRel P E F p.1 p.2) → ∀ {ft : T FnE} {k : T FnE → Bool}, FtOk P E F ft → orcsK l ft k = true → ∃ ft', k ft' = true ∧ FtOk P E F ft'
  | [], _, ft, k, hft, h => ⟨ft, h, hft⟩
  | p :: l, hl, ft, k, hft, h => by
    change setK p.2 40 ft p.1 (fun ft => orcsK l ft k) = true at h
    replace h := setK_some h
    obtain ⟨ft1, hu, h⟩ := h
    exact orcsK_some (fun x hx => hl x (List.mem_cons_of_mem _ hx)) (hft.set hu (hl p List.mem_cons_self)) h
theorem typesK_some {k : T TypeInfo → Bool} (h : typesK P k = true) : ∃ tt, TypesOf P tt ∧ k tt = true := by
  unfold typesK at h
  obtain ⟨tt, ht, h⟩ := writeK_some h
  refine ⟨tt, fun i x hx => ?_, h⟩
  rw [ht] at hx
  have hgl : (T.l : T TypeInfo).get i = none := rfl
  split at hx
  · have : P.types.toList[i]? = some x := by simpa using hx
    have hlt : i < P.types.size := by
      rcases Nat.lt_or_ge i P.types.size with h | h
      · exact h
      · simp [h] at this
    unfold Tables.info?
    rw [if_pos hlt]; simpa using this
  · rw [hgl] at hx; cases hx
theorem runK_some (hF : F.Of E) (hm : P.follows .mixedOrders = true) {fuel depth : Nat} {fns : List FnD} {orcs : List (Nat × FnE)} (hfns : ∀ d ∈ fns, d.Of P) (horcs : ∀ p ∈ orcs, FnRel P E F p.1 p.2) {f : Nat} {as : List AV} {h : T Blk} {nx : Nat} {k : KV}
    (hf : FnHas P f) (hk : runK P F fuel depth fns orcs f as h nx k = true) (hfr : Fresh h nx) : ∃ r h' nx', k r h' nx' = true ∧ Fresh h' nx' ∧ nx ≤ nx' ∧ CallT P E f as h.get nx r h'.get nx' := by
  unfold runK at hk
  replace hk := typesK_some hk
  obtain ⟨tt, hT, hk⟩ := hk
  replace hk := orcsK_some (E := E) (F := F) horcs (fun i e he => by cases he) hk
  obtain ⟨ft0, hk, h0⟩ := hk
  replace hk := fnsK_some (E := E) (F := F) hT hF hfns h0 hk
  obtain ⟨ft, hk, hft⟩ := hk
  obtain ⟨r, h', nx', h1, h2, h3, h4⟩ := callK_some (E := E) (F := F) hm hft depth f as h nx k hk hfr
  exact ⟨r, h', nx', h1, h2, h3, h4.body hf⟩
end
end Go.Proofs.YtfgmmabggjjhgaaGreatDoor.Ev
namespace Go.Proofs.YtfgmmabggjjhgaaGreatDoor.Ev
open Go

abbrev Orc := List AV → T Blk → Nat → KV → Bool
noncomputable def codeOnlyK (e : FnE) (k : Nat → List CRes → CCode → Bool) : Bool := @FnE.rec (fun _ => Bool) (fun n rs c => k n rs c) (fun _ => false) (fun _ _ _ _ => false) e
noncomputable def mixK (l : List (Nat × (Orc → Orc))) : T FnE → (T FnE → Bool) → Bool :=
  @List.rec (Nat × (Orc → Orc)) (fun _ => T FnE → (T FnE → Bool) → Bool) (fun ft k => k ft) (fun p _ ih ft k => getK (fun e => codeOnlyK e fun n rs c => setK (.mix p.2 n rs c) 40 ft p.1 fun ft => ih ft k) ft p.1) l
noncomputable def runMK (P : Program) (F : Facts) (fuel depth : Nat) (fns : List FnD) (orcs : List (Nat × FnE)) (mixs : List (Nat × (Orc → Orc))) (f : Nat) (as : List AV) (h : T Blk) (nx : Nat) (k : KV) : Bool :=
  typesK P fun tt => orcsK orcs .l fun ft => fnsK P tt fns ft fun ft => mixK mixs ft fun ft => callK F fuel ft depth f as h nx k
section
variable {P : Program} {E : Env} {F : Facts}
def OrcOk (P : Program) (E : Env) (i : Nat) (g : Orc) : Prop := ∀ as h nx k, g as h nx k = true → Fresh h nx → ∃ r h' nx', k r h' nx' = true ∧ Fresh h' nx' ∧ nx ≤ nx' ∧ CallR P E i as h.get nx r h'.get nx'
theorem mixK_some : ∀ {l : List (Nat × (Orc → Orc))}, (∀ p ∈ l, ∀ run, OrcOk P E p.1 run → OrcOk P E p.1 (p.2 run)) → ∀ {ft : T FnE} {k : T FnE → Bool}, FtOk P E F ft → mixK l ft k = true → ∃ ft', k ft' = true ∧ FtOk P E F ft'
  | [], _, ft, k, hft, h => ⟨ft, h, hft⟩
  | p :: l, hl, ft, k, hft, h => by
    change getK (fun e => codeOnlyK e fun n rs c => setK (.mix p.2 n rs c) 40 ft p.1 fun ft => mixK l ft k) ft p.1 = true at h
    replace h := getK_some h
    obtain ⟨e, he, h⟩ := h
    have hrel := hft _ _ he
    cases hrel with
    | orc => cases h
    | mix => cases h
    | @code fn b rs c hf hb hn hr hc =>
      change setK (.mix p.2 fn.ntmps rs c) 40 ft p.1 (fun ft => mixK l ft k) = true at h
      replace h := setK_some h
      obtain ⟨ft1, hu, h⟩ := h
      exact mixK_some (fun x hx => hl x (List.mem_cons_of_mem _ hx)) (hft.set hu (.mix hf hb hn hr hc (hl p List.mem_cons_self))) h
theorem runMK_some (hF : F.Of E) (hm : P.follows .mixedOrders = true) {fuel depth : Nat} {fns : List FnD} {orcs : List (Nat × FnE)} {mixs : List (Nat × (Orc → Orc))} (hfns : ∀ d ∈ fns, d.Of P) (horcs : ∀ p ∈ orcs, FnRel P E F p.1 p.2) (hmix : ∀ p ∈ mixs, ∀ run, OrcOk P E p.1 run → OrcOk P E p.1 (p.2 run)) {f : Nat} {as : List AV} {h : T Blk} {nx : Nat} {k : KV}
    (hf : FnHas P f) (hk : runMK P F fuel depth fns orcs mixs f as h nx k = true) (hfr : Fresh h nx) : ∃ r h' nx', k r h' nx' = true ∧ Fresh h' nx' ∧ nx ≤ nx' ∧ CallT P E f as h.get nx r h'.get nx' := by
  unfold runMK at hk
  replace hk := typesK_some hk
  obtain ⟨tt, hT, hk⟩ := hk
  replace hk := orcsK_some (E := E) (F := F) horcs (fun i e he => by cases he) hk
  obtain ⟨ft0, hk, h0⟩ := hk
  replace hk := fnsK_some (E := E) (F := F) hT hF hfns h0 hk
  obtain ⟨ft1, hk, h1⟩ := hk
  replace hk := mixK_some (E := E) (F := F) hmix h1 hk
  obtain ⟨ft, hk, hft⟩ := hk
  obtain ⟨r, h', nx', g1, g2, g3, g4⟩ := callK_some (E := E) (F := F) hm hft depth f as h nx k hk hfr
  exact ⟨r, h', nx', g1, g2, g3, g4.body hf⟩
end
end Go.Proofs.YtfgmmabggjjhgaaGreatDoor.Ev
namespace Go.Proofs.YtfgmmabggjjhgaaGreatDoor.Ev
open Go

noncomputable def l3K {β : Type} (l : List β) (k : β → β → β → Bool) : Bool := @List.rec β (fun _ => Bool) false (fun x r _ => l2K r (fun y z => k x y z) false) l
noncomputable def cntK (ap : Bool) (m : Nat) (s : List Nat) : Nat → (Nat → Bool) → Bool :=
  @List.rec Nat (fun _ => Nat → (Nat → Bool) → Bool) (fun n k => k n) (fun x _ ih n k => eqS ap (fun b => @Bool.rec (fun _ => Bool) (ih n k) (forceN (Nat.succ n) fun n => ih n k) b) [x] [m]) s
noncomputable def gCount (F : Facts) : Orc := fun as h nx k => l2K as (fun s c => strK s fun s => atom1K c fun m => cntK F.apart m s 0 fun n => k (.int .i64 (Int.ofNat n)) h nx) false
noncomputable def idxBK (ap : Bool) (m : Nat) (s : List Nat) : Nat → (Int → Bool) → Bool :=
  @List.rec Nat (fun _ => Nat → (Int → Bool) → Bool) (fun _ k => k (Int.negSucc 0)) (fun x _ ih n k => eqS ap (fun b => @Bool.rec (fun _ => Bool) (forceN (Nat.succ n) fun n => ih n k) (k (Int.ofNat n)) b) [x] [m]) s
noncomputable def gIndexByte (F : Facts) : Orc := fun as h nx k => l2K as (fun s c => strK s fun s => atom1K c fun m => idxBK F.apart m s 0 fun n => k (.int .i64 n) h nx) false
noncomputable def gWord (wf : Nat → Nat) : Orc := fun as h nx k => l1K as (fun v => numK v (fun q n => ifK (kindEq q .u8) (@Int.rec (fun _ => Bool) (fun m => forceN (Nat.add 97 (Nat.mod m 26)) fun a => ifK (Nat.ble m 255) (k (.str [119, a]) h nx) false) (fun _ => false) n) false) (fun _ _ => false)
  (fun q i => ifK (kindEq q .u8) (forceN (Nat.add 256 (wf i)) fun a => k (.str [119, a]) h nx) false)) false
/-- A slice's cells. -/
noncomputable def rowK (h : T Blk) (es : Nat) (v : AV) (k : List AV → Nat → Bool) : Bool :=
  slK v (fun i o n _ _ es' => ifK (Nat.beq es es') (blkK h i fun m t => forceN (Nat.mul n es) fun ne => ifK (Nat.ble (Nat.add o ne) m) (readK t ne o fun cs => k cs n) false) false) (k [] 0) (k [] 0)
noncomputable def insNew (es i l m : Nat) (old new : List AV) (h : T Blk) (nx : Nat) (k : KV) : Bool :=
  forceN (Nat.mul i es) fun ie => takeK ie old fun a => dropK ie old fun b => appK new b fun c => appK a c fun cs => forceN (Nat.add l m) fun lm => mkK cs h nx fun h nx' => k (.sl nx 0 lm lm false es) h nx'
noncomputable def gInsert (es : Nat) : Orc := fun as h nx k => l3K as fun x i v => natK i fun i => rowK h es v fun new m => @Nat.rec (fun _ => Bool) (k x h nx) (fun _ _ =>
  slK x (fun xi _ l c ex _ => rowK h es x fun old _ => ifK (Nat.ble i l) (@Bool.rec (fun _ => Bool) (setK .dead 40 h xi fun h => insNew es i l m old new h nx k) (ifK (Nat.blt c (Nat.add l m)) (insNew es i l m old new h nx k) false) ex) false)
    (insNew es i 0 m [] new h nx k) (insNew es i 0 m [] new h nx k)) m
noncomputable def insK (s : List Nat) (l : List (List Nat)) : (List (List Nat) → Bool) → Bool :=
  @List.rec (List Nat) (fun _ => (List (List Nat) → Bool) → Bool) (fun k => k [s]) (fun x r ih k => ordS (fun n => @Nat.rec (fun _ => Bool) (k (s :: x :: r)) (fun n _ => @Nat.rec (fun _ => Bool) (k (x :: r)) (fun _ _ => ih fun r => k (x :: r)) n) n) s x) l
/-- The first of every three. -/
noncomputable def thirdK (cs : List AV) (acc : List (List Nat)) (k : List (List Nat) → Bool) : Nat → Bool :=
  fun n => @Nat.rec (fun _ => List AV → List (List Nat) → Bool) (fun _ acc => k acc) (fun _ ih cs acc => @List.rec AV (fun _ => Bool) false (fun x r _ => strK x fun s => insK s acc fun acc => dropK 2 r fun r => ih r acc) cs) n cs acc
noncomputable def rowsK (h : T Blk) (rows : List AV) : List (List Nat) → (List (List Nat) → Bool) → Bool :=
  @List.rec AV (fun _ => List (List Nat) → (List (List Nat) → Bool) → Bool) (fun acc k => k acc) (fun r _ ih acc k => rowK h 3 r fun cs n => thirdK cs acc (fun acc => ih acc k) n) rows
noncomputable def strsK (l : List (List Nat)) : (List AV → Bool) → Bool := @List.rec (List Nat) (fun _ => (List AV → Bool) → Bool) (fun k => k []) (fun s _ ih k => ih fun r => k (.str s :: r)) l
noncomputable def gPaths : Orc := fun as h nx k => l1K as (fun l => rowK h 1 l fun rows _ => rowsK h rows [] fun ps => strsK ps fun cs => lenK cs 0 fun n => @Nat.rec (fun _ => Bool) (k .nils h nx) (fun _ _ => mkK cs h nx fun h nx' => k (.sl nx 0 n n true 1) h nx') n) false
noncomputable def isTrue : KV := fun v _ _ => boolK v fun b => b
end Go.Proofs.YtfgmmabggjjhgaaGreatDoor.Ev
