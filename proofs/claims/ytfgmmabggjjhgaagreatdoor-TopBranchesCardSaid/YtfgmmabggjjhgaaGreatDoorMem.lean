/- Memory: how a world goes on, blocks that are known, data that reads from memory, slices that are owned. It speaks of any program; nothing of the claim's own program stands here. -/
import Derived.Tactics2
import Derived.OrdersHeld
import Derived.KernelRfl
import Derived.Deep.LoopGhost
import Derived.WalkKit
import Derived.WalkSpells
namespace Go.Proofs.YtfgmmabggjjhgaaGreatDoor
open Go

theorem blt_lt {a b : Nat} (h : Nat.blt a b = true) : a < b := by rwa [Nat.blt_eq] at h

/-! ### Frames -/
/-- What a slot holds: the first that the list says of it, else what f says. -/
noncomputable def look (f : Nat → Value) (u : List (Nat × Value)) (j : Nat) : Value := @List.rec (Nat × Value) (fun _ => Value) (f j) (fun p _ ih => cond (Nat.beq j p.1) p.2 ih) u
theorem look_nil (f : Nat → Value) (j : Nat) : look f [] j = f j := rfl
theorem look_cons (f : Nat → Value) (p : Nat × Value) (u : List (Nat × Value)) (j : Nat) : look f (p :: u) j = cond (Nat.beq j p.1) p.2 (look f u j) := rfl
def pusho (d : Option Tmp) (v : Value) (u : List (Nat × Value)) : List (Nat × Value) := match d with | some i => (i, v) :: u | none => u
noncomputable def Fr (n : Nat) (f : Nat → Value) (u : List (Nat × Value)) : Act := ⟨((List.range n).map (look f u)).toArray, []⟩
noncomputable def evf (n : Nat) (f : Nat → Value) (u : List (Nat × Value)) : Operand → Value
  | .tmp t => cond (Nat.blt t n) (look f u t) undef
  | .const v => v
  | .global g => .pointer (some ⟨g, 0, none⟩)
  | .func f => .func (.func f) #[] #[]

theorem Fr_eval (n : Nat) (f : Nat → Value) (u : List (Nat × Value)) : (Fr n f u).eval = evf n f u := by
  funext x
  cases x with
  | tmp t =>
    simp only [Act.eval, Fr, evf]
    by_cases h : t < n
    · have hb : Nat.blt t n = true := by rw [Nat.blt_eq]; exact h
      simp [hb, h]
    · have hb : Nat.blt t n = false := by
        cases hh : Nat.blt t n
        · rfl
        · exact absurd (blt_lt hh) h
      simp [hb, h]
  | _ => rfl

theorem Fr_put (n : Nat) (f : Nat → Value) (u : List (Nat × Value)) (d : Option Tmp) (v : Value) : (Fr n f u).put d v = Fr n f (pusho d v u) := by
  cases d with
  | none => rfl
  | some d =>
    simp only [Act.put, Fr, pusho]
    congr 1
    apply Array.ext
    · simp
    · intro i h1 h2
      simp only [List.size_toArray, List.length_map, List.length_range, Array.size_setIfInBounds] at h1 h2
      rw [Array.getElem_setIfInBounds (by simpa using h1)]
      simp only [List.getElem_toArray, List.getElem_map, List.getElem_range, look_cons]
      by_cases hd : d = i
      · subst hd
        simp
      · have : Nat.beq i d = false := by
          cases hh : Nat.beq i d
          · rfl
          · exact absurd (Nat.eq_of_beq_eq_true hh).symm hd
        simp [this, hd]

theorem Fr_ext {n : Nat} {f g : Nat → Value} {u v : List (Nat × Value)} (h : ∀ j, look f u j = look g v j) : Fr n f u = Fr n g v := by
  unfold Fr; rw [show look f u = look g v from funext h]

/-! ### One operation -/
section
variable {P : Program} {ops : Array Oper} {Q : Exit → Act → World → Prop} {n : Nat} {f : Nat → Value} {u : List (Nat × Value)} {w : World} {rest : List Oper} {o : Oper} {next : Act → World → Prop}

/-- One operation carried out at a frame. (A structure, so that nobody looks into it unasked.) -/
structure OpW (P : Program) (ops : Array Oper) (Q : Exit → Act → World → Prop) (o : Oper) (n : Nat) (f : Nat → Value) (u : List (Nat × Value)) (w : World) (next : Act → World → Prop) : Prop where
  ok : if Region.wanted o (yielded ops (Fr n f u).tmps) then o.wp P (Fr n f u) w next Q ∨ (o.asks P (Fr n f u) w ∧ LetsOut Q) else next ((Fr n f u).put o.dst undef) w
/-- A row of operations, likewise. -/
structure GL (P : Program) (ops : Array Oper) (Q : Exit → Act → World → Prop) (l : List Oper) (a : Act) (w : World) : Prop where
  go : wpList P ops Q l a w

theorem OpW_mono {next' : Act → World → Prop} (h : OpW P ops Q o n f u w next) (hn : ∀ a w, next a w → next' a w) : OpW P ops Q o n f u w next' := by
  refine ⟨?_⟩
  have h := h.ok
  split
  · rename_i hw
    rw [if_pos hw] at h
    exact h.imp (Oper.wp_mono hn) id
  · rename_i hw
    rw [if_neg hw] at h
    exact hn _ _ h
theorem sq (h : OpW P ops Q o n f u w (GL P ops Q rest)) : GL P ops Q (o :: rest) (Fr n f u) w :=
  ⟨(OpW_mono (next' := wpList P ops Q rest) h fun _ _ h => h.go).ok⟩

/-- It yields a value, and a world. -/
theorem o_val {dst : Option Tmp} {op : Op} {ty : TypeId} {pos : String} {aft : Array Edge} {gd : Option (Nat × Bool)} {w' : World} (v : Value)
    (hg : Region.wanted ⟨dst, op, ty, pos, aft, gd⟩ (yielded ops (Fr n f u).tmps) = true)
    (hr : (execOp (evf n f u) ⟨dst, op, ty, pos, aft, gd⟩).run P w = .ok (.value v) w') (h : next (Fr n f (pusho dst v u)) w') :
    OpW P ops Q ⟨dst, op, ty, pos, aft, gd⟩ n f u w next := by
  refine ⟨?_⟩
  rw [if_pos hg]
  refine .inl ?_
  unfold Oper.wp
  rw [Fr_eval, hr]
  show next ((Fr n f u).put dst v) w'
  rw [Fr_put]
  exact h

/-- It yields a value, and leaves the world alone. -/
theorem o_pv {dst : Option Tmp} {op : Op} {ty : TypeId} {pos : String} {aft : Array Edge} {gd : Option (Nat × Bool)} (v : Value)
    (hg : Region.wanted ⟨dst, op, ty, pos, aft, gd⟩ (yielded ops (Fr n f u).tmps) = true)
    (hr : (execOp (evf n f u) ⟨dst, op, ty, pos, aft, gd⟩).run P w = .ok (.value v) w) (h : next (Fr n f (pusho dst v u)) w) :
    OpW P ops Q ⟨dst, op, ty, pos, aft, gd⟩ n f u w next := o_val v hg hr h

/-- It does something to the world, and yields nothing. -/
theorem o_skip {dst : Option Tmp} {op : Op} {ty : TypeId} {pos : String} {aft : Array Edge} {gd : Option (Nat × Bool)} {w' : World}
    (hg : Region.wanted ⟨dst, op, ty, pos, aft, gd⟩ (yielded ops (Fr n f u).tmps) = true)
    (hr : (execOp (evf n f u) ⟨dst, op, ty, pos, aft, gd⟩).run P w = .ok .skip w') (h : next (Fr n f (pusho dst undef u)) w') :
    OpW P ops Q ⟨dst, op, ty, pos, aft, gd⟩ n f u w next := by
  refine ⟨?_⟩
  rw [if_pos hg]
  refine .inl ?_
  unfold Oper.wp
  rw [Fr_eval, hr]
  show next ((Fr n f u).put dst undef) w'
  rw [Fr_put]
  exact h

/-- Its guard says no. -/
theorem o_not {dst : Option Tmp} {op : Op} {ty : TypeId} {pos : String} {aft : Array Edge} {gd : Option (Nat × Bool)}
    (hg : Region.wanted ⟨dst, op, ty, pos, aft, gd⟩ (yielded ops (Fr n f u).tmps) = false) (h : next (Fr n f (pusho dst undef u)) w) :
    OpW P ops Q ⟨dst, op, ty, pos, aft, gd⟩ n f u w next := by
  refine ⟨?_⟩
  rw [if_neg (by simp [hg])]
  show next ((Fr n f u).put dst undef) w
  rw [Fr_put]
  exact h

/-- What a contract says: it returns, a value and a world of which this holds. -/
def Ret (Φ : Value → World → Prop) : Ending → World → Prop := fun e w' => ∃ v, e = .returned v ∧ Φ v w'

theorem Calls_ret {f : FuncId} {args : Array Value} {Φ Φ' : Value → World → Prop} (h : Calls P f args w (Ret Φ)) (hi : ∀ v w', Φ v w' → Φ' v w') : Calls P f args w (Ret Φ') :=
  h.mono fun _ _ ⟨v, he, hv⟩ => ⟨v, he, hi v _ hv⟩

/-- A call, by its contract. -/
theorem o_call {dst : Option Tmp} {op : Op} {ty : TypeId} {pos : String} {aft : Array Edge} {gd : Option (Nat × Bool)} {Φ : Value → World → Prop} (fid : FuncId) (args : Array Value)
    (hg : Region.wanted ⟨dst, op, ty, pos, aft, gd⟩ (yielded ops (Fr n f u).tmps) = true)
    (hr : (execOp (evf n f u) ⟨dst, op, ty, pos, aft, gd⟩).run P w = .ok (.enter fid args) w)
    (hc : Calls P fid args w (Ret Φ)) (h : ∀ v w', Φ v w' → next (Fr n f (pusho dst v u)) w') :
    OpW P ops Q ⟨dst, op, ty, pos, aft, gd⟩ n f u w next := by
  refine ⟨?_⟩
  rw [if_pos hg]
  refine .inl ?_
  unfold Oper.wp
  rw [Fr_eval, hr]
  refine hc.mono ?_
  rintro e w' ⟨v, rfl, hv⟩
  show next ((Fr n f u).put dst v) w'
  rw [Fr_put]
  exact h v w' hv

/-- The run of a call of a function by its number. -/
theorem x_call {dst : Option Tmp} {ty : TypeId} {pos : String} {aft : Array Edge} {gd : Option (Nat × Bool)} {fid : FuncId} {xs : Array Operand} {tys : Array TypeId} {args : Array Value}
    (hc : ∀ (args : Array Value) (w : World), (callFunc fid args).run P w = .ok (.enter fid args) w) (hargs : xs.map (evf n f u) = args) :
    (execOp (evf n f u) ⟨dst, .call ⟨.value (.func fid), xs, tys⟩, ty, pos, aft, gd⟩).run P w = .ok (.enter fid args) w := by
  subst hargs
  have h := hc (xs.map (evf n f u)) w
  simp only [execOp, resolve, evf, Deferred.ofValue]
  simpa [invoke] using h

/-! ### Code -/
variable {a : Act} {c : Code} {fn : Func} {R : Ending → World → Prop}

theorem nil_ (h : Q .normal (Fr n f u) w) : GL P ops Q [] (Fr n f u) w := ⟨h⟩
theorem reg_ {id : Nat} {l : List Oper} (h : GL P l.toArray Q l (Fr n f u) w) : (Code.region id l.toArray false).wp P Q (Fr n f u) w := wp_region_lit h.go
/-- One piece of code ahead of another: what follows stands behind a variable. -/
theorem seq_ {x y : Code} (h : ∀ K : Act → World → Prop, (∀ n f u w, y.wp P Q (Fr n f u) w → K (Fr n f u) w) → x.wp P (Exit.then K Q) a w) : (Code.seq x y).wp P Q a w :=
  wp_seq (h (y.wp P Q) fun _ _ _ _ h => h)
theorem then_normal {K : Act → World → Prop} (h : K a w) : Exit.then K Q .normal a w := h
theorem then_exit {K : Act → World → Prop} {i : Nat} (h : Q (.exit i) a w) : Exit.then K Q (.exit i) a w := h
theorem then_ret {K : Act → World → Prop} (h : Q .ret a w) : Exit.then K Q .ret a w := h
theorem blk_normal {i : Nat} (h : Q .normal a w) : Exit.inBlock i Q .normal a w := h
theorem blk_ret {i : Nat} (h : Q .ret a w) : Exit.inBlock i Q .ret a w := h
theorem blk_exit {i : Nat} (h : Q .normal a w) : Exit.inBlock i Q (.exit i) a w := by simpa [Exit.inBlock] using h
theorem blk_exit_ne {i j : Nat} (hij : Nat.beq j i = false) (h : Q (.exit j) a w) : Exit.inBlock i Q (.exit j) a w := by
  have : j ≠ i := fun e => by subst e; rw [Nat.beq_refl] at hij; cases hij
  simpa [Exit.inBlock, this] using h
theorem cond_t {cx : Operand} {x y : Code} (hc : evf n f u cx = .bool true) (h : x.wp P Q (Fr n f u) w) : (Code.cond cx x y).wp P Q (Fr n f u) w := wp_cond_true (by rw [Fr_eval]; exact hc) h
theorem cond_f {cx : Operand} {x y : Code} (hc : evf n f u cx = .bool false) (h : y.wp P Q (Fr n f u) w) : (Code.cond cx x y).wp P Q (Fr n f u) w := wp_cond_false (by rw [Fr_eval]; exact hc) h
theorem cond_d {cx : Operand} {x y : Code} (p : Prop) [Decidable p] (hc : evf n f u cx = .bool (decide p)) (ht : p → x.wp P Q (Fr n f u) w) (hf : ¬ p → y.wp P Q (Fr n f u) w) : (Code.cond cx x y).wp P Q (Fr n f u) w := by
  by_cases hp : p
  · exact cond_t (by rw [hc, decide_eq_true hp]) (ht hp)
  · exact cond_f (by rw [hc, decide_eq_false hp]) (hf hp)
theorem cond_b {cx : Operand} {x y : Code} (b : Bool) (hc : evf n f u cx = .bool b) (ht : b = true → x.wp P Q (Fr n f u) w) (hf : b = false → y.wp P Q (Fr n f u) w) : (Code.cond cx x y).wp P Q (Fr n f u) w := by
  cases b
  · exact cond_f hc (hf rfl)
  · exact cond_t hc (ht rfl)

/-- The end of a function, behind a variable: what is asked of it. -/
structure EndQ (P : Program) (fn : Func) (R : Ending → World → Prop) (n : Nat) (Q : Exit → Act → World → Prop) : Prop where
  ret : ∀ f u w v, (results fn (Fr n f u).tmps).run P w = .ok v w → R (.returned v) w → Q .ret (Fr n f u) w
  normal : ∀ f u w v, (results fn (Fr n f u).tmps).run P w = .ok v w → R (.returned v) w → Q .normal (Fr n f u) w
  panic : ∀ c a d v w, Q (.panic c) (a.put d v) w → Q (.panic c) a w
theorem enter_ {fid : FuncId} {args : Array Value} (hf : P.funcs[fid]? = some fn) (hb : fn.body = some c) (n : Nat) (u : List (Nat × Value))
    (hfr : args.toList ++ List.replicate (fn.ntmps - args.size) undef = (List.range n).map (look (fun _ => undef) u))
    (h : ∀ Q, EndQ P fn R n Q → c.wp P Q (Fr n (fun _ => undef) u) w) : Calls P fid args w R := by
  refine calls_of_wp hf hb ?_
  have : (⟨args ++ Array.replicate (fn.ntmps - args.size) undef, []⟩ : Act) = Fr n (fun _ => undef) u := by
    unfold Fr
    rw [← hfr]
    congr 1
    apply Array.ext'
    simp
  rw [this]
  exact h _ ⟨fun _ _ _ v h1 h2 => ⟨rfl, v, h1, h2⟩, fun _ _ _ v h1 h2 => ⟨rfl, v, h1, h2⟩, fun c a d v w h => by cases d <;> exact h⟩
theorem end_ret {Φ : Value → World → Prop} (he : EndQ P fn (Ret Φ) n Q) (v : Value) (hr : (results fn (Fr n f u).tmps).run P w = .ok v w) (hR : Φ v w) : Q .ret (Fr n f u) w := he.ret _ _ _ v hr ⟨v, rfl, hR⟩
theorem end_normal {Φ : Value → World → Prop} (he : EndQ P fn (Ret Φ) n Q) (v : Value) (hr : (results fn (Fr n f u).tmps).run P w = .ok v w) (hR : Φ v w) : Q .normal (Fr n f u) w := he.normal _ _ _ v hr ⟨v, rfl, hR⟩

/-- g at the slots of the mask, f at all others. -/
def mixf (m : Nat) (f g : Nat → Value) : Nat → Value := fun j => cond (Nat.testBit m j) (g j) (f j)
/-- Outside the mask the one is as the other. -/
def AgB (m : Nat) (F fb : Nat → Value) : Prop := ∀ j, Nat.testBit m j = false → fb j = F j
theorem AgB.mix (m : Nat) (F g : Nat → Value) : AgB m F (mixf m F g) := fun j hj => by simp [mixf, hj]
theorem AgB.look {m : Nat} {F fb : Nat → Value} {u : List (Nat × Value)} (h : AgB m F fb) (hu : (u.all fun p => Nat.testBit m p.1) = true) : AgB m F (look fb u) := fun j hj => by
  induction u with
  | nil => exact h j hj
  | cons p u ih =>
    simp only [List.all_cons, Bool.and_eq_true] at hu
    rw [look_cons]
    have : Nat.beq j p.1 = false := by
      cases hh : Nat.beq j p.1
      · rfl
      · rw [Nat.eq_of_beq_eq_true hh, hu.1] at hj; cases hj
    rw [this]
    exact ih hu.2
theorem AgB.nest {m m2 : Nat} {F fb g : Nat → Value} {u : List (Nat × Value)} (h : AgB m F fb) (hu : (u.all fun p => Nat.testBit m p.1) = true) (hm : Nat.land m2 m = m2) : AgB m F (mixf m2 (Go.Proofs.YtfgmmabggjjhgaaGreatDoor.look fb u) g) := fun j hj => by
  have : Nat.testBit m2 j = false := by
    have e : (m2 &&& m) = m2 := hm
    rw [← e, Nat.testBit_and, hj, Bool.and_false]
  simp only [mixf, this, cond_false]
  exact h.look hu j hj
/-- The frame at hand is one that a relation at F, with the mask m, describes by l. -/
def FitF (m : Nat) (F fb : Nat → Value) (u l : List (Nat × Value)) : Prop := AgB m F fb ∧ (u.all fun p => Nat.testBit m p.1) = true ∧ ∀ p ∈ l, look fb u p.1 = p.2
theorem FitF.eq {m : Nat} {F fb : Nat → Value} {u l : List (Nat × Value)} (h : FitF m F fb u l) : Fr n fb u = Fr n (mixf m F (look fb u)) l := by
  obtain ⟨h1, h2, h3⟩ := h
  refine Fr_ext fun j => ?_
  have key : ∀ l : List (Nat × Value), (∀ p ∈ l, look fb u p.1 = p.2) → look (mixf m F (look fb u)) l j = look fb u j := by
    intro l
    induction l with
    | nil =>
      intro _
      rw [look_nil]
      cases hb : Nat.testBit m j
      · simp only [mixf, hb, cond_false]; exact (h1.look h2 j hb).symm
      · simp [mixf, hb]
    | cons p l ih =>
      intro hp
      rw [look_cons]
      cases hh : Nat.beq j p.1
      · exact ih fun q hq => hp q (List.mem_cons_of_mem _ hq)
      · rw [Nat.eq_of_beq_eq_true hh]; exact (hp p List.mem_cons_self).symm
  exact (key l h3).symm
theorem vs_nil {p : Nat × Value → Prop} : ∀ x ∈ ([] : List (Nat × Value)), p x := fun _ h => by cases h
theorem vs_cons {p : Nat × Value → Prop} {x : Nat × Value} {l : List (Nat × Value)} (h : p x) (hl : ∀ y ∈ l, p y) : ∀ y ∈ x :: l, p y := fun y hy => by
  cases hy with
  | head => exact h
  | tail _ hm => exact hl y hm
theorem fit_mk {m : Nat} {F fb : Nat → Value} {u l : List (Nat × Value)} (h1 : AgB m F fb) (h2 : (u.all fun p => Nat.testBit m p.1) = true) (h3 : ∀ p ∈ l, look fb u p.1 = p.2) : FitF m F fb u l := ⟨h1, h2, h3⟩

/-- A loop: what holds at its head, with a number that goes down; the frame is the one at the loop's beginning but for some slots, which are told, and those of a mask, of which nothing is told. -/
theorem loop_ {c : Code} (m : Nat) (J : Nat → List (Nat × Value) → World → Prop) (k0 : Nat) (l0 : List (Nat × Value)) (hl : ∀ p ∈ l0, look f u p.1 = p.2) (h0 : J k0 l0 w)
    (round : ∀ k l w g, J k l w → ∀ K : Act → World → Prop, (∀ fb u' w', (∃ k' l', k' < k ∧ FitF m (look f u) fb u' l' ∧ J k' l' w') → K (Fr n fb u') w') → c.wp P (Exit.then K Q) (Fr n (mixf m (look f u) g) l) w) : (Code.loop c).wp P Q (Fr n f u) w := by
  have key : ∀ k l w g, J k l w → (Code.loop c).wp P Q (Fr n (mixf m (look f u) g) l) w := by
    intro k0 l0 w0 g0 h0
    intro b kk cs
    have : ∀ k l w g, J k l w → ∃ e a' w', Q e a' w' ∧ Arrives P (lone (b.at (Fr n (mixf m (look f u) g) l) (.code c :: .inLoop c :: kk)) cs w) b kk cs e a' w' := by
      intro k
      induction k using Nat.strongRecOn with
      | _ k ih =>
        intro l w g hJ
        obtain ⟨e, a₁, w₁, hq, harr⟩ := round k l w g hJ (fun a' w' => ∃ k' l' g', k' < k ∧ a' = Fr n (mixf m (look f u) g') l' ∧ J k' l' w') (fun fb u' w' ⟨k', l', hk, hfit, hJ'⟩ => ⟨k', l', look fb u', hk, hfit.eq, hJ'⟩) b (.inLoop c :: kk) cs
        cases e with
        | normal =>
          obtain ⟨k', l', g', hlt, rfl, hJ'⟩ := hq
          obtain ⟨e₂, a₂, w₂, hq₂, harr₂⟩ := ih k' hlt l' w₁ g' hJ'
          exact ⟨e₂, a₂, w₂, hq₂, .of_steps (Steps.trans harr (.one step_inLoop)) harr₂⟩
        | exit id => exact ⟨_, a₁, w₁, hq, .pass (x := .inLoop c) rfl (fun _ _ => .inl (by simp)) harr⟩
        | goto l => exact ⟨_, a₁, w₁, hq, .pass (x := .inLoop c) rfl (fun _ _ => .inl (by simp)) harr⟩
        | ret => exact ⟨_, a₁, w₁, hq, .pass (x := .inLoop c) rfl (fun _ _ => .inl (by simp)) harr⟩
        | panic ch => exact ⟨_, a₁, w₁, hq, .pass (x := .inLoop c) rfl (fun _ _ => .inl (by simp)) harr⟩
        | outgrown => exact ⟨_, a₁, w₁, hq, .pass (x := .inLoop c) rfl (fun _ _ => .inl (by simp)) harr⟩
    obtain ⟨e, a', w', hq, harr⟩ := this k0 l0 w0 g0 h0
    exact ⟨e, a', w', hq, .of_steps (.one step_loop) harr⟩
  have e : Fr n f u = Fr n (mixf m (look f u) (look f u)) l0 := by
    refine Fr_ext fun j => ?_
    have k2 : ∀ l : List (Nat × Value), (∀ p ∈ l, look f u p.1 = p.2) → look (mixf m (look f u) (look f u)) l j = look f u j := by
      intro l
      induction l with
      | nil => intro _; rw [look_nil]; cases hb : Nat.testBit m j <;> simp [mixf, hb]
      | cons p l ih =>
        intro hp
        rw [look_cons]
        cases hh : Nat.beq j p.1
        · exact ih fun q hq => hp q (List.mem_cons_of_mem _ hq)
        · rw [Nat.eq_of_beq_eq_true hh]; exact (hp p List.mem_cons_self).symm
    exact (k2 l0 hl).symm
  rw [e]
  exact key k0 l0 w (look f u) h0

/-- At a place where ways meet (or to forget slots): go on from all that J describes. -/
theorem join_ {c : Code} (m : Nat) (J : List (Nat × Value) → World → Prop)
    (h : ∀ K : Act → World → Prop, (∀ fb u' w', (∃ l', FitF m (look f u) fb u' l' ∧ J l' w') → K (Fr n fb u') w') → c.wp P (Exit.then K Q) (Fr n f u) w)
    (hn : ∀ l' w' g, J l' w' → Q .normal (Fr n (mixf m (look f u) g) l') w') : c.wp P Q (Fr n f u) w :=
  wp_mono (h (fun a' w' => ∃ l' g', a' = Fr n (mixf m (look f u) g') l' ∧ J l' w') (fun fb u' w' ⟨l', hfit, hJ⟩ => ⟨l', look fb u', hfit.eq, hJ⟩)) fun e a' w' hq => by
    cases e with
    | normal => obtain ⟨l', g', ha, hJ⟩ := hq; subst ha; exact hn l' w' g' hJ
    | _ => exact hq
/-- Where the frame's own list may be taken for a relation at itself. -/
theorem AgB.self (m : Nat) (f : Nat → Value) (u : List (Nat × Value)) : AgB m (Go.Proofs.YtfgmmabggjjhgaaGreatDoor.look f u) (Go.Proofs.YtfgmmabggjjhgaaGreatDoor.look f u) := fun _ _ => rfl
/-- A frame is the same when its list is taken into its ground. -/
theorem ground_ {c : Code} (h : c.wp P Q (Fr n (look f u) []) w) : c.wp P Q (Fr n f u) w := by
  have : Fr n f u = Fr n (look f u) [] := Fr_ext fun j => rfl
  rw [this]; exact h

/-- A test that is known. -/
theorem cond_dt {cx : Operand} {x y : Code} (p : Prop) [Decidable p] (hc : evf n f u cx = .bool (decide p)) (hp : p) (h : x.wp P Q (Fr n f u) w) : (Code.cond cx x y).wp P Q (Fr n f u) w := cond_t (by rw [hc, decide_eq_true hp]) h
theorem cond_df {cx : Operand} {x y : Code} (p : Prop) [Decidable p] (hc : evf n f u cx = .bool (decide p)) (hp : ¬ p) (h : y.wp P Q (Fr n f u) w) : (Code.cond cx x y).wp P Q (Fr n f u) w := cond_f (by rw [hc, decide_eq_false hp]) h
theorem cond_nd {cx : Operand} {x y : Code} (p : Prop) [Decidable p] (hc : evf n f u cx = .bool (!decide p)) (ht : ¬ p → x.wp P Q (Fr n f u) w) (hf : p → y.wp P Q (Fr n f u) w) : (Code.cond cx x y).wp P Q (Fr n f u) w := by
  by_cases hp : p
  · exact cond_f (by rw [hc, decide_eq_true hp]; rfl) (hf hp)
  · exact cond_t (by rw [hc, decide_eq_false hp]; rfl) (ht hp)
theorem cond_ndt {cx : Operand} {x y : Code} (p : Prop) [Decidable p] (hc : evf n f u cx = .bool (!decide p)) (hp : ¬ p) (h : x.wp P Q (Fr n f u) w) : (Code.cond cx x y).wp P Q (Fr n f u) w := cond_t (by rw [hc, decide_eq_false hp]; rfl) h
theorem cond_ndf {cx : Operand} {x y : Code} (p : Prop) [Decidable p] (hc : evf n f u cx = .bool (!decide p)) (hp : p) (h : y.wp P Q (Fr n f u) w) : (Code.cond cx x y).wp P Q (Fr n f u) w := cond_f (by rw [hc, decide_eq_true hp]; rfl) h
/-- The run of a test whose outcome is known. -/
theorem x_dt {o : Oper} {p : Prop} [Decidable p] (hr : (execOp (evf n f u) o).run P w = .ok (.value (.bool (decide p))) w) (hp : p) : (execOp (evf n f u) o).run P w = .ok (.value (.bool true)) w := by rw [hr, decide_eq_true hp]
theorem x_df {o : Oper} {p : Prop} [Decidable p] (hr : (execOp (evf n f u) o).run P w = .ok (.value (.bool (decide p))) w) (hp : ¬ p) : (execOp (evf n f u) o).run P w = .ok (.value (.bool false)) w := by rw [hr, decide_eq_false hp]
theorem x_ndt {o : Oper} {p : Prop} [Decidable p] (hr : (execOp (evf n f u) o).run P w = .ok (.value (.bool (!decide p))) w) (hp : ¬ p) : (execOp (evf n f u) o).run P w = .ok (.value (.bool true)) w := by rw [hr, decide_eq_false hp]; rfl
theorem x_ndf {o : Oper} {p : Prop} [Decidable p] (hr : (execOp (evf n f u) o).run P w = .ok (.value (.bool (!decide p))) w) (hp : p) : (execOp (evf n f u) o).run P w = .ok (.value (.bool false)) w := by rw [hr, decide_eq_true hp]; rfl
end

/-! ### A region that draws its order -/
section
variable {P : Program} {ops : Array Oper} {Q : Exit → Act → World → Prop} {m : Nat} {R : World → World → Prop}

/-- Whatever order is picked from here on; each operation ahead of number m moves the world along R. -/
def AnyR (P : Program) (ops : Array Oper) (Q : Exit → Act → World → Prop) (R : World → World → Prop) (m : Nat) : Nat → Array Bool → Act → World → Prop
  | 0, listed, a, w => Region.ready .any ops listed = [] ∧ Q .normal a w
  | fuel + 1, listed, a, w =>
    (Region.ready .any ops listed = [] → Q .normal a w) ∧
    ∀ i ∈ Region.ready .any ops listed, wpOp P ops Q i (fun a' w' => (i < m → R w w') ∧ AnyR P ops Q R m fuel (listed.setIfInBounds i true) a' w') a w

theorem wpAny_of_AnyR : ∀ (fuel : Nat) (listed : Array Bool) (a : Act) (w : World), AnyR P ops Q R m fuel listed a w → wpAny P .any ops Q fuel listed a w
  | 0, _, _, _, h => h
  | fuel + 1, _, _, _, h => ⟨h.1, fun i hi => wpOp_mono (fun a' w' h' => wpAny_of_AnyR fuel _ a' w' h'.2) (h.2 i hi)⟩

/-- Does number t wait for number i, perhaps through others? -/
def waitsOn (ops : Array Oper) : Nat → Nat → Nat → Bool
  | 0, _, _ => false
  | k + 1, t, i => match ops[t]? with
    | some o => o.after.any (fun e => Region.binds .any e && Nat.beq e.on i) || o.after.any (fun e => Region.binds .any e && waitsOn ops k e.on i)
    | none => false

def closedL (ops : Array Oper) (listed : Array Bool) : Prop := ∀ j oj, ops[j]? = some oj → listed.getD j false = true → ∀ e ∈ oj.after, Region.binds .any e = true → listed.getD e.on false = true

theorem waitsOn_listed {listed : Array Bool} (hcl : closedL ops listed) {i : Nat} : ∀ (k t : Nat) (ot : Oper), ops[t]? = some ot →
    (∀ e ∈ ot.after, Region.binds .any e = true → listed.getD e.on false = true) → waitsOn ops k t i = true → listed.getD i false = true := by
  intro k
  induction k with
  | zero => intro t ot _ _ h; cases h
  | succ k ih =>
    intro t ot ht hdeps h
    simp only [waitsOn, ht, Bool.or_eq_true] at h
    rcases h with h | h
    · obtain ⟨e, he, hb⟩ := Array.any_eq_true'.1 h
      simp only [Bool.and_eq_true] at hb
      have := Nat.eq_of_beq_eq_true hb.2
      rw [← this]
      exact hdeps e he hb.1
    · obtain ⟨e, he, hb⟩ := Array.any_eq_true'.1 h
      simp only [Bool.and_eq_true] at hb
      have hl := hdeps e he hb.1
      cases ho : ops[e.on]? with
      | none => rw [waitsOn.eq_def] at hb; cases k <;> simp [ho] at hb
      | some oe => exact ih e.on oe ho (fun e' he' hb' => hcl e.on oe ho hl e' he' hb') hb.2

theorem closedL_set {listed : Array Bool} (hcl : closedL ops listed) {i : Nat} (hi : i ∈ Region.ready .any ops listed) : closedL ops (listed.setIfInBounds i true) := by
  obtain ⟨_, oi, hoi, hall⟩ := mem_ready.1 hi
  intro j oj hj hl e he hb
  by_cases hij : i = j
  · subst hij
    have : oj = oi := Option.some.inj (hj.symm.trans hoi)
    subst this
    exact getD_set_true (hall e he hb)
  · rw [getD_set_ne false hij] at hl
    exact getD_set_true (hcl j oj hj hl e he hb)

theorem getD_false_of_true {listed : Array Bool} {i : Nat} (h : listed.getD i true = false) : listed.getD i false = false := by
  rcases Nat.lt_or_ge i listed.size with h' | h'
  · simp [h'] at h ⊢; exact h
  · simp [Array.getElem?_eq_none h'] at h

theorem AnyR_first (htr : ∀ a b c : World, R a b → R b c → R a c) (hrf : ∀ a : World, R a a) {i : Nat} {oi : Oper} {v : Value} (hi : ops[i]? = some oi) (him : i < m)
    (hsel : ∀ (j : Nat) (o : Oper) cs b, ops[j]? = some o → o.op ≠ .select cs b) (htail : ∀ t, m ≤ t → t < ops.size → waitsOn ops ops.size t i = true)
    (hQ : ∀ c a w, Q (.panic c) (a.put oi.dst v) w → Q (.panic c) a w) :
    ∀ (fuel : Nat) (listed : Array Bool) (a : Act) (w : World), closedL ops listed →
      (∀ j oj, ops[j]? = some oj → j ≠ i → listed.getD j true = false → (∀ e ∈ oj.after, Region.binds .any e = true → e.on ≠ i) → oi.apart ops oj = true) →
      i ∈ Region.ready .any ops listed → YieldsIf P ops (R w) oi v a →
      AnyR P ops Q R m fuel (listed.setIfInBounds i true) (a.put oi.dst v) w → AnyR P ops Q R m (fuel + 1) listed a w := by
  intro fuel
  induction fuel with
  | zero =>
    intro listed a w _ _ hr hy H
    refine ⟨fun h => (by rw [h] at hr; cases hr), fun j hj => ?_⟩
    by_cases hji : j = i
    · subst hji; exact hy.wpOp hi (hrf w) ⟨fun _ => hrf w, H⟩
    · have := ready_mono hj hji
      rw [H.1] at this
      cases this
  | succ fuel ih =>
    intro listed a w hcl hfree hr hy H
    refine ⟨fun h => (by rw [h] at hr; cases hr), fun j hj => ?_⟩
    by_cases hji : j = i
    · subst hji; exact hy.wpOp hi (hrf w) ⟨fun _ => hrf w, H⟩
    · have h1 := H.2 j (ready_mono hj hji)
      obtain ⟨hjun, oj, hoj, hall⟩ := mem_ready.1 hj
      have hnot : ∀ e ∈ oj.after, Region.binds .any e = true → e.on ≠ i := fun e he hb heq => by
        have h1 := hall e he hb
        have h0 := (mem_ready.1 hr).1
        rw [heq] at h1
        rw [getD_false_of_true h0] at h1
        cases h1
      have hjm : j < m := by
        rcases Nat.lt_or_ge j m with h | h
        · exact h
        · have hjs : j < ops.size := (Array.getElem?_eq_some_iff.1 hoj).1
          have := waitsOn_listed hcl ops.size j oj hoj hall (htail j h hjs)
          rw [getD_false_of_true (mem_ready.1 hr).1] at this
          cases this
      have h2 := wpOp_putIf hoj (hfree j oj hoj hji hjun hnot) (fun cs b => hsel i oi cs b hi) (fun cs b => hsel j oj cs b hoj) hQ hy h1
      have hfree' : ∀ k ok, ops[k]? = some ok → k ≠ i → (listed.setIfInBounds j true).getD k true = false →
          (∀ e ∈ ok.after, Region.binds .any e = true → e.on ≠ i) → oi.apart ops ok = true := fun k ok hk hki hun hno => by
        refine hfree k ok hk hki ?_ hno
        by_cases hjk : j = k
        · subst hjk; exact hjun
        · rw [getD_set_ne true hjk] at hun; exact hun
      refine wpOp_mono (fun a' w' h3 => ?_) h2
      have hR := h3.2.1 hjm
      refine ⟨fun _ => hR, ih (listed.setIfInBounds j true) a' w' (closedL_set hcl hj) hfree' (ready_mono hr (Ne.symm hji)) ?_ ?_⟩
      · exact h3.1.imp (fun ⟨x, y⟩ => ⟨x, fun w'' hw'' => y w'' (htr _ _ _ hR hw'')⟩) id
      · rw [Array.setIfInBounds_comm _ _ hji]
        exact h3.2.2

/-! the moves -/
variable {n : Nat} {f : Nat → Value} {u : List (Nat × Value)} {w : World}

/-- Where a region stands: what has been done so far is kept as a list of numbers. -/
def marksOf (k : Nat) : List Nat → Array Bool
  | [] => Array.replicate k false
  | i :: r => (marksOf k r).setIfInBounds i true

/-- The state of a walk through a region: 'done' is what has been carried out, the latest first; all of it in an order that the edges allow. -/
structure AtR (P : Program) (ops : Array Oper) (Q : Exit → Act → World → Prop) (R : World → World → Prop) (m : Nat) (done : List Nat) (a : Act) (w : World) : Prop where
  go : closedL ops (marksOf ops.size done) → AnyR P ops Q R m (ops.size - done.length) (marksOf ops.size done) a w

theorem closedL_nil : closedL ops (marksOf ops.size []) := fun j oj hj hl => by
  have : j < ops.size := (Array.getElem?_eq_some_iff.1 hj).1
  simp [marksOf, this] at hl

structure PreR (R : World → World → Prop) : Prop where
  refl : ∀ a, R a a
  trans : ∀ a b c, R a b → R b c → R a c

theorem reg_drawn {id : Nat} {l : List Oper} (R : World → World → Prop) (m : Nat) (hm : P.follows .mixedOrders = true)
    (h : ∀ w', w' = { w with drawn := w.drawn + 1 } → AtR P l.toArray Q R m [] (Fr n f u) w') : (Code.region id l.toArray true).wp P Q (Fr n f u) w :=
  wp_region_any hm (wpAny_of_AnyR _ _ _ _ (by simpa [marksOf] using (h _ rfl).go closedL_nil))

/-- The end. -/
theorem r_done {done : List Nat} (hr : Region.ready .any ops (marksOf ops.size done) = []) (h : Q .normal (Fr n f u) w) : AtR P ops Q R m done (Fr n f u) w := ⟨fun _ => by
  cases hk : ops.size - done.length with
  | zero => exact ⟨hr, h⟩
  | succ k => exact ⟨fun _ => h, by rw [hr]; simp⟩⟩

def tailB (ops : Array Oper) (m i : Nat) : Bool := (List.range ops.size).all fun t => Nat.blt t m || waitsOn ops ops.size t i

/-- An operation that yields the same value in all worlds along R is taken first. -/
theorem r_take {done : List Nat} {dst : Option Tmp} {op : Op} {ty : TypeId} {pos : String} {aft : Array Edge} {gd : Option (Nat × Bool)} (i : Nat) (v : Value) (hp : PreR R) (hi : ops[i]? = some ⟨dst, op, ty, pos, aft, gd⟩)
    (hB : (Nat.blt i m && tailB ops m i && Region.noSelect ops && Region.free .any ops (marksOf ops.size done) i && (Region.ready .any ops (marksOf ops.size done)).contains i && Nat.blt done.length ops.size) = true)
    (hQ : ∀ c a w, Q (.panic c) (a.put dst v) w → Q (.panic c) a w)
    (hy : (Region.wanted ⟨dst, op, ty, pos, aft, gd⟩ (yielded ops (Fr n f u).tmps) = true ∧ ∀ w', R w w' → (execOp (evf n f u) ⟨dst, op, ty, pos, aft, gd⟩).run P w' = .ok (.value v) w') ∨ (Region.wanted ⟨dst, op, ty, pos, aft, gd⟩ (yielded ops (Fr n f u).tmps) = false ∧ v = undef))
    (h : AtR P ops Q R m (i :: done) (Fr n f (pusho dst v u)) w) : AtR P ops Q R m done (Fr n f u) w := ⟨fun hcl => by
  simp only [Bool.and_eq_true] at hB
  obtain ⟨⟨⟨⟨⟨h1, h2⟩, h3⟩, h4⟩, h5⟩, h6⟩ := hB
  have hlt : done.length < ops.size := blt_lt h6
  have him : i < m := blt_lt h1
  obtain ⟨k, hk⟩ : ∃ k, ops.size - done.length = k + 1 := ⟨ops.size - done.length - 1, by omega⟩
  have hk' : ops.size - (i :: done).length = k := by simp only [List.length_cons]; omega
  have hri : i ∈ Region.ready .any ops (marksOf ops.size done) := by simpa using h5
  rw [hk]
  refine AnyR_first hp.trans hp.refl hi him (Region.noSelect_spec h3) ?_ hQ k _ _ _ hcl (Region.free_spec hi h4) hri ?_ ?_
  · intro t ht hts
    have := List.all_eq_true.1 h2 t (List.mem_range.2 hts)
    simp only [Bool.or_eq_true] at this
    rcases this with h | h
    · have := blt_lt h; omega
    · exact h
  · unfold YieldsIf
    rw [Fr_eval]
    exact hy
  · have := h.go (by simpa [marksOf] using closedL_set hcl hri)
    rw [hk'] at this
    rw [Fr_put]
    simpa [marksOf] using this⟩

/-- The law for what is carried out where it stands: whichever of those that may come up. -/
theorem r_ready {done : List Nat} (rs : List Nat) (hr : Region.ready .any ops (marksOf ops.size done) = rs) (hne : (!rs.isEmpty && Nat.blt done.length ops.size) = true)
    (h : ∀ i ∈ rs, ∃ dst op ty pos aft gd, ops[i]? = some ⟨dst, op, ty, pos, aft, gd⟩ ∧ OpW P ops Q ⟨dst, op, ty, pos, aft, gd⟩ n f u w (fun a' w' => (i < m → R w w') ∧ AtR P ops Q R m (i :: done) a' w')) : AtR P ops Q R m done (Fr n f u) w := ⟨fun hcl => by
  simp only [Bool.and_eq_true] at hne
  have hlt : done.length < ops.size := blt_lt hne.2
  obtain ⟨k, hk⟩ : ∃ k, ops.size - done.length = k + 1 := ⟨ops.size - done.length - 1, by omega⟩
  rw [hk]
  refine ⟨fun h0 => ?_, fun i hi => ?_⟩
  · rw [hr] at h0; subst h0; simp at hne
  · have hri := hi
    rw [hr] at hi
    obtain ⟨dst, op, ty, pos, aft, gd, ho, hop⟩ := h i hi
    unfold wpOp
    simp only [ho]
    have hk' : ops.size - (i :: done).length = k := by simp only [List.length_cons]; omega
    refine (OpW_mono (next' := fun a' w' => (i < m → R w w') ∧ AnyR P ops Q R m k ((marksOf ops.size done).setIfInBounds i true) a' w') hop ?_).ok
    rintro a' w' ⟨hR, hA⟩
    refine ⟨hR, ?_⟩
    have := hA.go (by simpa [marksOf] using closedL_set hcl hri)
    rw [hk'] at this
    simpa [marksOf] using this⟩

theorem all_nil {p : Nat → Prop} : ∀ i ∈ ([] : List Nat), p i := fun _ h => by cases h
theorem all_cons {p : Nat → Prop} {i : Nat} {r : List Nat} (h : p i) (hr : ∀ j ∈ r, p j) : ∀ j ∈ i :: r, p j := fun j hj => by
  cases hj with
  | head => exact h
  | tail _ hm => exact hr j hm
end
end Go.Proofs.YtfgmmabggjjhgaaGreatDoor
namespace Go.Proofs.YtfgmmabggjjhgaaGreatDoor
open Go

/-! ### How a world goes on -/
/-- Of the blocks below B none has turned, but perhaps those of F. -/
structure RB (B : Nat) (F : List Nat) (w w' : World) : Prop where
  os : w'.os = w.os
  tape : w'.tape = w.tape
  output : w'.output = w.output
  size : w.heap.size ≤ w'.heap.size
  keep : ∀ b, b < B → b ∉ F → w'.heap[b]? = w.heap[b]?

abbrev Evo (F : List Nat) (w w' : World) : Prop := RB w.heap.size F w w'

theorem RB.refl (B : Nat) (F : List Nat) (w : World) : RB B F w w := ⟨rfl, rfl, rfl, Nat.le_refl _, fun _ _ _ => rfl⟩
theorem RB.trans {B : Nat} {F : List Nat} {a b c : World} (h : RB B F a b) (k : RB B F b c) : RB B F a c :=
  ⟨k.os.trans h.os, k.tape.trans h.tape, k.output.trans h.output, Nat.le_trans h.size k.size, fun x hx hf => (k.keep x hx hf).trans (h.keep x hx hf)⟩
theorem RB.pre (B : Nat) (F : List Nat) : PreR (RB B F) := ⟨RB.refl B F, fun _ _ _ => RB.trans⟩
theorem RB.mono {B B' : Nat} {F F' : List Nat} {a b : World} (h : RB B F a b) (hB : B' ≤ B) (hF : ∀ x ∈ F, x ∈ F' ∨ B' ≤ x) : RB B' F' a b :=
  ⟨h.os, h.tape, h.output, h.size, fun x hx hf => h.keep x (by omega) (fun hm => by rcases hF x hm with h1 | h1; exact hf h1; omega)⟩
theorem RB.drew (B : Nat) (F : List Nat) (w : World) : RB B F w { w with drawn := w.drawn + 1 } := ⟨rfl, rfl, rfl, Nat.le_refl _, fun _ _ _ => rfl⟩
theorem Evo.trans {F : List Nat} {a b c : World} (h : Evo F a b) (k : Evo F b c) : Evo F a c :=
  RB.trans h (k.mono h.size fun _ hx => Or.inl hx)
/-- What goes on from here, seen from an earlier world. -/
theorem RB.then {B : Nat} {F F' : List Nat} {a b c : World} (h : RB B F a b) (k : Evo F' b c) (hB : B ≤ b.heap.size) (hF : ∀ x ∈ F', x ∈ F ∨ B ≤ x) : RB B F a c :=
  RB.trans h (k.mono hB hF)
theorem Evo.then {F F' : List Nat} {a b c : World} (h : Evo F a b) (k : Evo F' b c) (hF : ∀ x ∈ F', x ∈ F ∨ a.heap.size ≤ x) : Evo F a c := RB.then h k h.size hF
theorem Evo.then0 {F : List Nat} {a b c : World} (h : Evo F a b) (k : Evo [] b c) : Evo F a c := h.then k (fun _ hx => by cases hx)
theorem Evo.cell {F : List Nat} {w w' : World} (h : Evo F w w') {p : Addr} {v : Value} (hp : w.cell? p = some v) (hf : p.block ∉ F) : w'.cell? p = some v :=
  (World.cell?_of_block (w := w) (h.keep p.block (World.block_lt_of_cell? _ _ hp) hf)).trans hp
theorem Evo.below {w w' : World} (h : Evo [] w w') : RowKit.Below w.heap.size w w' := ⟨h.os, h.tape, h.output, h.size, fun k hk => h.keep k hk (by simp)⟩
theorem Evo.alloc (w : World) (o : Obj) : Evo [] w (w.alloc o) := ⟨rfl, rfl, rfl, by simp, fun b hb _ => RowKit.Below.heap_alloc w o b hb⟩
theorem Evo.of_drew {w w' : World} (h : w' = { w with drawn := w.drawn + 1 }) : Evo [] w w' := by subst h; exact RB.drew _ _ _

/-- Every number of the one list is in the other. -/
def Sub (X Y : List Nat) : Prop := ∀ b ∈ X, b ∈ Y
theorem Sub.refl (X : List Nat) : Sub X X := fun _ h => h
theorem Sub.trans {X Y Z : List Nat} (h : Sub X Y) (k : Sub Y Z) : Sub X Z := fun b hb => k b (h b hb)
theorem Sub.cons (b : Nat) (X : List Nat) : Sub X (b :: X) := fun _ h => List.mem_cons_of_mem _ h
theorem Sub.nil (X : List Nat) : Sub [] X := fun _ h => by cases h

/-- All of X are blocks that are there. -/
def Old (X : List Nat) (w : World) : Prop := ∀ b ∈ X, b < w.heap.size

theorem Sub.of_cons {b : Nat} {X Y : List Nat} (h : b ∈ X) (k : Sub Y X) : Sub (b :: Y) X := fun x hx => by cases hx with | head => exact h | tail _ h => exact k x h
theorem Sub.of_app {Z X Y : List Nat} (h : Sub Z X) (k : Sub Y X) : Sub (Z ++ Y) X := fun x hx => by rcases List.mem_append.1 hx with h1 | h1; exact h x h1; exact k x h1
theorem Old.less {X Y : List Nat} {w : World} (h : Old X w) (s : Sub Y X) : Old Y w := fun b hb => h b (s b hb)

/-- A step of the ghost state: X is what may be written by us; F is what this step has written. -/
structure Step (X : List Nat) (w : World) (F : List Nat) (X' : List Nat) (w' : World) : Prop where
  evo : Evo F w w'
  sub : Sub F X
  up : Sub X X'
  news : ∀ b ∈ X', b ∈ X ∨ (w.heap.size ≤ b ∧ b < w'.heap.size)
theorem Step.new {X : List Nat} {w : World} {F : List Nat} {X' : List Nat} {w' : World} (h : Step X w F X' w') : ∀ b ∈ X', b ∈ X ∨ w.heap.size ≤ b := fun b hb => (h.news b hb).imp id (·.1)
theorem Old.step {X : List Nat} {w : World} {F : List Nat} {X' : List Nat} {w' : World} (h : Old X w) (s : Step X w F X' w') : Old X' w' := fun b hb => by
  rcases s.news b hb with h1 | h1
  · exact Nat.lt_of_lt_of_le (h b h1) s.evo.size
  · exact h1.2
theorem Old.evo {X : List Nat} {w w' : World} {F : List Nat} (h : Old X w) (e : Evo F w w') : Old X w' := fun b hb => Nat.lt_of_lt_of_le (h b hb) e.size
theorem Old.nil (w : World) : Old [] w := fun b hb => by cases hb
theorem Step.of0 (X : List Nat) {w w' : World} (h : Evo [] w w') : Step X w [] X w' := ⟨h, Sub.nil _, Sub.refl _, fun _ h => Or.inl h⟩
theorem Step.fresh (X : List Nat) {w w' : World} (h : Evo [] w w') (b : Nat) (hb : w.heap.size ≤ b) (hb' : b < w'.heap.size) : Step X w [] (b :: X) w' :=
  ⟨h, Sub.nil _, Sub.cons _ _, fun x hx => by cases hx with | head => exact Or.inr ⟨hb, hb'⟩ | tail _ h => exact Or.inl h⟩
theorem Step.app (X Y : List Nat) {w w' : World} (h : Evo [] w w') (hb : ∀ b ∈ Y, w.heap.size ≤ b ∧ b < w'.heap.size) : Step X w [] (Y ++ X) w' :=
  ⟨h, Sub.nil _, (fun _ h => List.mem_append_right _ h), fun x hx => by rcases List.mem_append.1 hx with h | h; exact Or.inr (hb x h); exact Or.inl h⟩
theorem Step.one {X : List Nat} {w w' : World} {b : Nat} (h : Evo [b] w w') (hb : b ∈ X) : Step X w [b] X w' :=
  ⟨h, fun x hx => by simp at hx; subst hx; exact hb, Sub.refl _, fun _ h => Or.inl h⟩

/-! ### A block that is known whole -/
def Blk (w : World) (b : Nat) (cs : List Value) (ty : TypeId) : Prop := w.heap[b]? = some (.cells cs.toArray ty (0, 0))
theorem Blk.lt {w : World} {b : Nat} {cs : List Value} {ty : TypeId} (h : Blk w b cs ty) : b < w.heap.size := (Array.getElem?_eq_some_iff.1 h).1
theorem Blk.evo {w w' : World} {F : List Nat} {b : Nat} {cs : List Value} {ty : TypeId} (h : Blk w b cs ty) (e : Evo F w w') (hb : b ∉ F) : Blk w' b cs ty := (e.keep b h.lt hb).trans h
theorem Blk.evo0 {w w' : World} {b : Nat} {cs : List Value} {ty : TypeId} (h : Blk w b cs ty) (e : Evo [] w w') : Blk w' b cs ty := h.evo e (by simp)
theorem Blk.evo1 {w w' : World} {b c : Nat} {cs : List Value} {ty : TypeId} (h : Blk w b cs ty) (e : Evo [c] w w') (hb : b ≠ c) : Blk w' b cs ty := h.evo e (by simpa using hb)
theorem Blk.cell {w : World} {b : Nat} {cs : List Value} {ty : TypeId} (h : Blk w b cs ty) (j : Nat) : w.cell? ⟨b, j, none⟩ = cs[j]? := by
  rw [cell_of_row w b j _ ty _ h]; simp
theorem Blk.new (w : World) (cs : Array Value) (ty : TypeId) : Blk (w.alloc (.cells cs ty)) w.heap.size cs.toList ty := by
  unfold Blk; rw [heap_alloc_new]

/-! ### Data in memory -/
def CellsAt (w : World) (b o : Nat) (xs : List Value) : Prop := ∀ (j : Nat) (u : Value), xs[j]? = some u → w.cell? ⟨b, o + j, none⟩ = some u
theorem CellsAt.evo {w w' : World} {F : List Nat} {b o : Nat} {xs : List Value} (h : CellsAt w b o xs) (e : Evo F w w') (hb : b ∉ F) : CellsAt w' b o xs :=
  fun j u hj => e.cell (h j u hj) hb
theorem CellsAt.drop {w : World} {b o : Nat} {xs : List Value} (h : CellsAt w b o xs) (k : Nat) : CellsAt w b (o + k) (xs.drop k) := fun j u hj => by
  rw [List.getElem?_drop] at hj
  have := h (k + j) u hj
  rwa [← Nat.add_assoc] at this
theorem CellsAt.take {w : World} {b o : Nat} {xs : List Value} (h : CellsAt w b o xs) (k : Nat) : CellsAt w b o (xs.take k) := fun j u hj => by
  rw [List.getElem?_take] at hj
  split at hj
  · exact h j u hj
  · cases hj

/-- How data of one kind lies in memory: in so many cells; X: blocks that it does not lie in. -/
structure Rep (α : Type) where
  n : Nat
  ok : List Nat → World → List Value → α → Prop
  len : ∀ {X w cs d}, ok X w cs d → cs.length = n
  evo : ∀ {X w cs d F w'}, ok X w cs d → Evo F w w' → Sub F X → ok X w' cs d
  sub : ∀ {X w cs d X'}, ok X w cs d → (∀ b ∈ X', b ∈ X ∨ w.heap.size ≤ b) → ok X' w cs d
  one : ∀ {X w cs d}, ok X w cs d → ∀ c ∈ cs, c.oneCell' = true

theorem Rep.step {α : Type} (R : Rep α) {X X' : List Nat} {w w' : World} {F : List Nat} {cs : List Value} {d : α} (h : R.ok X w cs d) (s : Step X w F X' w') : R.ok X' w' cs d :=
  R.evo (R.sub h s.new) s.evo (s.sub.trans s.up)

def inR (k : IntKind) (x : Int) : Prop := k.min ≤ x ∧ x ≤ k.max
theorem inR_i64 {x : Int} : inR .i64 x ↔ -9223372036854775808 ≤ x ∧ x ≤ 9223372036854775807 := by
  unfold inR; rw [show IntKind.i64.min = -9223372036854775808 from by decide, show IntKind.i64.max = 9223372036854775807 from by decide]
theorem inR_u8 {x : Int} : inR .u8 x ↔ 0 ≤ x ∧ x ≤ 255 := by
  unfold inR; rw [show IntKind.u8.min = 0 from by decide, show IntKind.u8.max = 255 from by decide]

def rInt (k : IntKind) : Rep Int where
  n := 1
  ok _ _ cs x := cs = [.int k x] ∧ inR k x
  len h := by rw [h.1]; rfl
  evo h _ _ := h
  sub h _ := h
  one h c hc := by rw [h.1] at hc; simp at hc; subst hc; rfl
def rBool : Rep Bool where
  n := 1
  ok _ _ cs x := cs = [.bool x]
  len h := by rw [h]; rfl
  evo h _ _ := h
  sub h _ := h
  one h c hc := by rw [h] at hc; simp at hc; subst hc; rfl
def rStr : Rep ByteArray where
  n := 1
  ok _ _ cs x := cs = [.string x] ∧ x.size ≤ maxLen
  len h := by rw [h.1]; rfl
  evo h _ _ := h
  sub h _ := h
  one h c hc := by rw [h.1] at hc; simp at hc; subst hc; rfl
def rPair {α β : Type} (R : Rep α) (S : Rep β) : Rep (α × β) where
  n := R.n + S.n
  ok X w cs x := ∃ c1 c2, cs = c1 ++ c2 ∧ R.ok X w c1 x.1 ∧ S.ok X w c2 x.2
  len h := by obtain ⟨c1, c2, rfl, h1, h2⟩ := h; rw [List.length_append, R.len h1, S.len h2]
  evo h e s := by obtain ⟨c1, c2, rfl, h1, h2⟩ := h; exact ⟨c1, c2, rfl, R.evo h1 e s, S.evo h2 e s⟩
  sub h s := by obtain ⟨c1, c2, rfl, h1, h2⟩ := h; exact ⟨c1, c2, rfl, R.sub h1 s, S.sub h2 s⟩
  one h c hc := by
    obtain ⟨c1, c2, rfl, h1, h2⟩ := h
    rcases List.mem_append.1 hc with h | h
    · exact R.one h1 c h
    · exact S.one h2 c h
def rMap {α β : Type} (g : β → α) (R : Rep α) : Rep β where
  n := R.n
  ok X w cs x := R.ok X w cs (g x)
  len h := R.len h
  evo h e s := R.evo h e s
  sub h s := R.sub h s
  one h := R.one h

section
variable {α : Type} (R : Rep α) {X X' F : List Nat} {w w' : World}

/-- The cells of a row of data. -/
def Flat (X : List Nat) (w : World) : List Value → List α → Prop
  | xs, [] => xs = []
  | xs, d :: L => ∃ cs r, xs = cs ++ r ∧ R.ok X w cs d ∧ Flat X w r L

variable {R} {xs ys : List Value} {L M : List α}
theorem Flat.length : ∀ {L : List α} {xs : List Value}, Flat R X w xs L → xs.length = L.length * R.n
  | [], xs, h => by simp only [Flat] at h; subst h; simp
  | d :: L, xs, h => by
    obtain ⟨cs, r, rfl, h1, h2⟩ := h
    rw [List.length_append, R.len h1, Flat.length h2, List.length_cons, Nat.add_mul]
    omega
theorem Flat.evo : ∀ {L : List α} {xs : List Value}, Flat R X w xs L → Evo F w w' → Sub F X → Flat R X w' xs L
  | [], _, h, _, _ => h
  | _ :: _, _, ⟨cs, r, e, h1, h2⟩, ev, s => ⟨cs, r, e, R.evo h1 ev s, Flat.evo h2 ev s⟩
theorem Flat.sub : ∀ {L : List α} {xs : List Value}, Flat R X w xs L → (∀ b ∈ X', b ∈ X ∨ w.heap.size ≤ b) → Flat R X' w xs L
  | [], _, h, _ => h
  | _ :: _, _, ⟨cs, r, e, h1, h2⟩, s => ⟨cs, r, e, R.sub h1 s, Flat.sub h2 s⟩
theorem Flat.one : ∀ {L : List α} {xs : List Value}, Flat R X w xs L → ∀ c ∈ xs, c.oneCell' = true
  | [], xs, h, c, hc => by simp only [Flat] at h; subst h; cases hc
  | _ :: _, _, ⟨cs, r, e, h1, h2⟩, c, hc => by
    subst e
    rcases List.mem_append.1 hc with h | h
    · exact R.one h1 c h
    · exact Flat.one h2 c h
theorem Flat.append : ∀ {L : List α} {xs : List Value}, Flat R X w xs L → Flat R X w ys M → Flat R X w (xs ++ ys) (L ++ M)
  | [], xs, h, k => by simp only [Flat] at h; subst h; simpa using k
  | d :: L, _, ⟨cs, r, e, h1, h2⟩, k => by
    subst e
    exact ⟨cs, r ++ ys, by simp, h1, Flat.append h2 k⟩
theorem Flat.nil : Flat R X w [] ([] : List α) := rfl
theorem Flat.cons {cs : List Value} {d : α} (h : R.ok X w cs d) (hr : Flat R X w ys M) : Flat R X w (cs ++ ys) (d :: M) := ⟨cs, ys, rfl, h, hr⟩
theorem Flat.cons1 {c : Value} {d : α} (h : R.ok X w [c] d) (hr : Flat R X w ys M) : Flat R X w (c :: ys) (d :: M) := ⟨[c], ys, rfl, h, hr⟩
theorem Flat.single {cs : List Value} {d : α} (h : R.ok X w cs d) : Flat R X w cs [d] := ⟨cs, [], by simp, h, rfl⟩
theorem Flat.drop : ∀ {L : List α} {xs : List Value} (k : Nat), Flat R X w xs L → Flat R X w (xs.drop (k * R.n)) (L.drop k)
  | [], xs, k, h => by simp only [Flat] at h; subst h; simp [Flat]
  | d :: L, xs, 0, h => by simpa using h
  | d :: L, _, k + 1, ⟨cs, r, e, h1, h2⟩ => by
    subst e
    have hl := R.len h1
    have : (cs ++ r).drop ((k + 1) * R.n) = r.drop (k * R.n) := by
      rw [List.drop_append, List.drop_of_length_le (by rw [hl, Nat.add_mul]; omega), List.nil_append, hl]
      congr 1
      rw [Nat.add_mul]; omega
    rw [this]
    exact Flat.drop k h2
theorem Flat.take : ∀ {L : List α} {xs : List Value} (k : Nat), Flat R X w xs L → Flat R X w (xs.take (k * R.n)) (L.take k)
  | [], xs, k, h => by simp only [Flat] at h; subst h; simp [Flat]
  | d :: L, xs, 0, h => by simp [Flat]
  | d :: L, _, k + 1, ⟨cs, r, e, h1, h2⟩ => by
    subst e
    have hl := R.len h1
    have : (cs ++ r).take ((k + 1) * R.n) = cs ++ r.take (k * R.n) := by
      rw [List.take_append, List.take_of_length_le (by rw [hl, Nat.add_mul]; omega), hl]
      congr 2
      rw [Nat.add_mul]; omega
    rw [this]
    exact ⟨cs, _, rfl, h1, Flat.take k h2⟩
theorem Flat.get {L : List α} {xs : List Value} (h : Flat R X w xs L) (i : Nat) (hi : i < L.length) : ∃ cs, R.ok X w cs L[i] ∧ ∀ (j : Nat) (u : Value), cs[j]? = some u → xs[i * R.n + j]? = some u := by
  have hd := Flat.drop i h
  rw [List.drop_eq_getElem_cons hi] at hd
  obtain ⟨cs, r, e, h1, _⟩ := hd
  refine ⟨cs, h1, fun j u hj => ?_⟩
  rw [← List.getElem?_drop, e, List.getElem?_append_left]
  · exact hj
  · rcases Nat.lt_or_ge j cs.length with h | h
    · exact h
    · simp [List.getElem?_eq_none h] at hj
end

/-- A slice of data: what is read of it. -/
def Sl {α : Type} (R : Rep α) (X : List Nat) (w : World) (a : Option Addr) (c : Nat) (L : List α) : Prop :=
  L.length ≤ c ∧ c ≤ maxLen ∧ ((L = [] ∧ (a = none → c = 0)) ∨ ∃ b o xs, a = some ⟨b, o, none⟩ ∧ b ∉ X ∧ b < w.heap.size ∧ CellsAt w b o xs ∧ Flat R X w xs L)

section
variable {α : Type} {R : Rep α} {X X' F : List Nat} {w w' : World} {a : Option Addr} {c : Nat} {L : List α}
theorem Sl.evo (h : Sl R X w a c L) (e : Evo F w w') (s : Sub F X) : Sl R X w' a c L := by
  obtain ⟨h1, h2, h3⟩ := h
  refine ⟨h1, h2, ?_⟩
  rcases h3 with h3 | ⟨b, o, xs, rfl, hb, hl, hc, hf⟩
  · exact .inl h3
  · exact .inr ⟨b, o, xs, rfl, hb, Nat.lt_of_lt_of_le hl e.size, hc.evo e (fun hm => hb (s b hm)), hf.evo e s⟩
theorem Sl.evo0 (h : Sl R X w a c L) (e : Evo [] w w') : Sl R X w' a c L := h.evo e (Sub.nil _)
theorem Sl.sub (h : Sl R X w a c L) (s : ∀ b ∈ X', b ∈ X ∨ w.heap.size ≤ b) : Sl R X' w a c L := by
  obtain ⟨h1, h2, h3⟩ := h
  refine ⟨h1, h2, ?_⟩
  rcases h3 with h3 | ⟨b, o, xs, rfl, hb, hl, hc, hf⟩
  · exact .inl h3
  · exact .inr ⟨b, o, xs, rfl, fun hm => by rcases s b hm with h | h; exact hb h; omega, hl, hc, hf.sub s⟩
theorem Sl.less (h : Sl R X w a c L) (s : Sub X' X) : Sl R X' w a c L := h.sub fun b hb => .inl (s b hb)
theorem Sl.step (h : Sl R X w a c L) (s : Step X w F X' w') : Sl R X' w' a c L := (h.sub s.new).evo s.evo (s.sub.trans s.up)
theorem Sl.len (h : Sl R X w a c L) : L.length ≤ 9223372036854775807 := by have := h.1; have := h.2.1; unfold maxLen at this; omega
theorem Sl.nil : Sl R X w none 0 [] := ⟨by simp, by simp, .inl ⟨rfl, fun _ => rfl⟩⟩
theorem Sl.cap (h : Sl R X w a c L) : c ≤ 9223372036854775807 := by have := h.2.1; unfold maxLen at this; omega
/-- An element: its address, and its cells. -/
theorem Sl.at (h : Sl R X w a c L) (i : Nat) (hi : i < L.length) : ∃ b o cs, a = some ⟨b, o, none⟩ ∧ b ∉ X ∧ b < w.heap.size ∧ R.ok X w cs L[i] ∧ CellsAt w b (o + i * R.n) cs := by
  obtain ⟨_, _, h3⟩ := h
  rcases h3 with ⟨rfl, _⟩ | ⟨b, o, xs, rfl, hb, hl, hc, hf⟩
  · cases hi
  · obtain ⟨cs, h1, h2⟩ := hf.get i hi
    refine ⟨b, o, cs, rfl, hb, hl, h1, fun j u hj => ?_⟩
    rw [Nat.add_assoc]
    exact hc _ u (h2 j u hj)
end

def rSl {α : Type} (R : Rep α) : Rep (List α) where
  n := 1
  ok X w cs L := ∃ a c, cs = [.slice a L.length c] ∧ Sl R X w a c L
  len h := by obtain ⟨a, c, rfl, _⟩ := h; rfl
  evo h e s := by obtain ⟨a, c, rfl, h⟩ := h; exact ⟨a, c, rfl, h.evo e s⟩
  sub h s := by obtain ⟨a, c, rfl, h⟩ := h; exact ⟨a, c, rfl, h.sub s⟩
  one h u hu := by obtain ⟨a, c, rfl, h⟩ := h; simp at hu; subst hu; rfl

/-! ### A slice that we own, and may append to -/
def blkL : Option Addr → List Nat
  | some a => [a.block]
  | none => []
theorem ownBlock_blkL (a : Option Addr) (n c : Nat) (b : Nat) : Value.ownBlock (.slice a n c) = some b ↔ b ∈ blkL a := by
  cases a with
  | none => simp [Value.ownBlock, blkL]
  | some a => simp [Value.ownBlock, blkL]; exact eq_comm

def Own {α : Type} (R : Rep α) (X : List Nat) (w : World) (base : Nat) (ty : TypeId) (a : Option Addr) (c : Nat) (L : List α) : Prop :=
  base ≤ w.heap.size ∧ (∀ b ∈ blkL a, b ∈ X) ∧ ∃ xs, w.ownsRow base ty R.n (.slice a L.length c) L.length xs ∧ Flat R X w xs L

section
variable {α : Type} {R : Rep α} {X X' F : List Nat} {w w' : World} {a : Option Addr} {c base : Nat} {ty : TypeId} {L : List α}
theorem Own.nil (hb : base ≤ w.heap.size) : Own R X w base ty none 0 ([] : List α) := ⟨hb, (fun _ h => by cases h), [], World.ownsRow_nil w base ty R.n, rfl⟩
theorem Own.lt (h : Own R X w base ty a c L) : ∀ b ∈ blkL a, base ≤ b ∧ b < w.heap.size := fun b hb => by
  obtain ⟨_, _, xs, ho, _⟩ := h
  exact ho.lt b ((ownBlock_blkL _ _ _ _).2 hb)
theorem Own.mem (h : Own R X w base ty a c L) : Sub (blkL a) X := h.2.1
theorem Own.step (h : Own R X w base ty a c L) (s : Step X w F X' w') (hf : ∀ b ∈ blkL a, b ∉ F) : Own R X' w' base ty a c L := by
  obtain ⟨hb, hm, xs, ho, hx⟩ := h
  refine ⟨Nat.le_trans hb s.evo.size, fun b hb => s.up b (hm b hb), xs, ?_, (hx.sub s.new).evo s.evo (s.sub.trans s.up)⟩
  refine ⟨ho.1, ?_⟩
  rcases ho.2 with h2 | ⟨g, cap, cur, hv, hbg, hg, h3⟩
  · exact .inl h2
  · refine .inr ⟨g, cap, cur, hv, hbg, ?_, h3⟩
    have ha : a = some ⟨g, 0, none⟩ := by injection hv
    rw [s.evo.keep g (Array.getElem?_eq_some_iff.1 hg).1 (hf g (by rw [ha]; simp [blkL]))]
    exact hg
/-- What we own may be read; once it is only read it need not be ours. -/
theorem Own.sl (h : Own R X w base ty a c L) (s : Sub X' X) (hn : ∀ b ∈ blkL a, b ∉ X') : Sl R X' w a c L := by
  obtain ⟨hb, hm, xs, ho, hx⟩ := h
  have hl := hx.length
  rcases ho.2 with ⟨h1, h2⟩ | ⟨g, cap, cur, hv, hbg, hg, hnc, hcm, hcs, htake⟩
  · have h3 : L = [] := List.eq_nil_of_length_eq_zero h2
    injection h1 with e1 e2 e3
    subst h3; subst e1; subst e3
    exact Sl.nil
  · injection hv with e1 e2 e3
    subst e1; subst e3
    refine ⟨hnc, hcm, .inr ⟨g, 0, xs, rfl, hn g (by simp [blkL]), (Array.getElem?_eq_some_iff.1 hg).1, fun j u hj => ?_, hx.sub fun b hb => .inl (s b hb)⟩⟩
    have := ho.cells (g := g) rfl j u hj
    have hadd : (⟨g, 0, none⟩ : Addr).add j = ⟨g, 0 + j, none⟩ := by unfold Addr.add; split <;> simp_all
    rwa [hadd] at this
theorem Own.down {base' : Nat} (h : Own R X w base ty a c L) (hb : base' ≤ base) : Own R X w base' ty a c L := by
  obtain ⟨h1, h2, xs, ho, hx⟩ := h
  refine ⟨Nat.le_trans hb h1, h2, xs, ⟨ho.1, ?_⟩, hx⟩
  rcases ho.2 with h3 | ⟨g, cap, cur, hv, hg, h4⟩
  · exact .inl h3
  · exact .inr ⟨g, cap, cur, hv, Nat.le_trans hb hg, h4⟩
theorem Own.sub' (h : Own R X w base ty a c L) (h1 : ∀ b ∈ blkL a, b ∈ X') (h2 : ∀ b ∈ X', b ∈ X ∨ w.heap.size ≤ b) : Own R X' w base ty a c L := by
  obtain ⟨hb, _, xs, ho, hx⟩ := h
  exact ⟨hb, h1, xs, ho, hx.sub h2⟩
/-- .. by the caller of the whole, whose own blocks are older. -/
theorem Own.out (h : Own R X w base ty a c L) (s : Sub X' X) (hn : ∀ b ∈ X', b < base) : Sl R X' w a c L :=
  h.sl s fun b hb hx => by have := (h.lt b hb).1; have := hn b hx; omega
theorem NotIn.cons {c : Nat} {Y : List Nat} (hq : c ∉ blkL a) (h : ∀ b ∈ blkL a, b ∉ Y) : ∀ b ∈ blkL a, b ∉ c :: Y := fun b hb hm => by
  cases hm with
  | head => exact hq hb
  | tail _ h1 => exact h b hb h1
theorem NotIn.app {a' : Option Addr} {Y : List Nat} (hq : ∀ b ∈ blkL a, b ∉ blkL a') (h : ∀ b ∈ blkL a, b ∉ Y) : ∀ b ∈ blkL a, b ∉ blkL a' ++ Y := fun b hb hm => by
  rcases List.mem_append.1 hm with h1 | h1
  · exact hq b hb h1
  · exact h b hb h1
theorem Own.notin {Y : List Nat} (h : Own R X w base ty a c L) (hY : ∀ b ∈ Y, b < base) : ∀ b ∈ blkL a, b ∉ Y := fun b hb hm => by have := (h.lt b hb).1; have := hY b hm; omega
theorem Own.less (h : Own R X w base ty a c L) (s : Sub X' X) (hm : Sub (blkL a) X') : Own R X' w base ty a c L := h.sub' hm fun b hb => .inl (s b hb)
theorem Own.len (h : Own R X w base ty a c L) : L.length ≤ 9223372036854775807 := by
  have := (h.sl (X' := []) (Sub.nil _) (by simp)).len
  exact this
theorem Own.cap (h : Own R X w base ty a c L) : L.length ≤ c := (h.sl (X' := []) (Sub.nil _) (by simp)).1
end
end Go.Proofs.YtfgmmabggjjhgaaGreatDoor
