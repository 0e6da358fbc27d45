/- More laws of operations: a text's bytes appended; arrays. It speaks of any program; nothing of the claim's own program stands here. -/
import Derived.Tactics2
import Derived.OrdersHeld
import Derived.KernelRfl
import Derived.Deep.LoopGhost
import Derived.WalkKit
import Derived.WalkSpells
import Derived.Laws.BytesArg
import Derived.OwnWalk
import Derived.Laws.IdiomStrings
import Derived.Lib.AppendStr
namespace Go.Proofs.YtdnahdcjnahfkaaGreatDoor
open Go

theorem blt_lt {a b : Nat} (h : Nat.blt a b = true) : a < b := by rwa [Nat.blt_eq] at h

/-! ### Frames -/
/-- What a slot holds: the first that the list says of it, else what f says. -/
noncomputable def look (f : Nat → Value) (u : List (Nat × Value)) (j : Nat) : Value := @List.rec (Nat × Value) (fun _ => Value) (f j) (fun p _ ih => cond (Nat.beq j p.1) p.2 ih) u
theorem look_nil (f : Nat → Value) (j : Nat) : look f [] j = f j := rfl
theorem look_cons (f : Nat → Value) (p : Nat × Value) (u : List (Nat × Value)) (j : Nat) : look f (p :: u) j = cond (Nat.beq j p.1) p.2 (look f u j) := rfl
def pusho (d : Option Tmp) (v : Value) (u : List (Nat × Value)) : List (Nat × Value) := match d with | some i => (i, v) :: u | none => u
noncomputable def Fr (n : Nat) (f : Nat → Value) (u : List (Nat × Value)) : Act := ⟨((List.range n).map (look f u)).toArray, []⟩
noncomputable def evf (n : Nat) (f : Nat → Value) (u : List (Nat × Value)) : Operand → Value
  | .tmp t => cond (Nat.blt t n) (look f u t) undef
  | .const v => v
  | .global g => .pointer (some ⟨g, 0, none⟩)
  | .func f => .func (.func f) #[] #[]

theorem Fr_eval (n : Nat) (f : Nat → Value) (u : List (Nat × Value)) : (Fr n f u).eval = evf n f u := by
  funext x
  cases x with
  | tmp t =>
    simp only [Act.eval, Fr, evf]
    by_cases h : t < n
    · have hb : Nat.blt t n = true := by rw [Nat.blt_eq]; exact h
      simp [hb, h]
    · have hb : Nat.blt t n = false := by
        cases hh : Nat.blt t n
        · rfl
        · exact absurd (blt_lt hh) h
      simp [hb, h]
  | _ => rfl

theorem Fr_put (n : Nat) (f : Nat → Value) (u : List (Nat × Value)) (d : Option Tmp) (v : Value) : (Fr n f u).put d v = Fr n f (pusho d v u) := by
  cases d with
  | none => rfl
  | some d =>
    simp only [Act.put, Fr, pusho]
    congr 1
    apply Array.ext
    · simp
    · intro i h1 h2
      simp only [List.size_toArray, List.length_map, List.length_range, Array.size_setIfInBounds] at h1 h2
      rw [Array.getElem_setIfInBounds (by simpa using h1)]
      simp only [List.getElem_toArray, List.getElem_map, List.getElem_range, look_cons]
      by_cases hd : d = i
      · subst hd
        simp
      · have : Nat.beq i d = false := by
          cases hh : Nat.beq i d
          · rfl
          · exact absurd (Nat.eq_of_beq_eq_true hh).symm hd
        simp [this, hd]

theorem Fr_ext {n : Nat} {f g : Nat → Value} {u v : List (Nat × Value)} (h : ∀ j, look f u j = look g v j) : Fr n f u = Fr n g v := by
  unfold Fr; rw [show look f u = look g v from funext h]

/-! ### One operation -/
section
variable {P : Program} {ops : Array Oper} {Q : Exit → Act → World → Prop} {n : Nat} {f : Nat → Value} {u : List (Nat × Value)} {w : World} {rest : List Oper} {o : Oper} {next : Act → World → Prop}

/-- One operation carried out at a frame. (A structure, so that nobody looks into it unasked.) -/
structure OpW (P : Program) (ops : Array Oper) (Q : Exit → Act → World → Prop) (o : Oper) (n : Nat) (f : Nat → Value) (u : List (Nat × Value)) (w : World) (next : Act → World → Prop) : Prop where
  ok : if Region.wanted o (yielded ops (Fr n f u).tmps) then o.wp P (Fr n f u) w next Q ∨ (o.asks P (Fr n f u) w ∧ LetsOut Q) else next ((Fr n f u).put o.dst undef) w
/-- A row of operations, likewise. -/
structure GL (P : Program) (ops : Array Oper) (Q : Exit → Act → World → Prop) (l : List Oper) (a : Act) (w : World) : Prop where
  go : wpList P ops Q l a w

theorem OpW_mono {next' : Act → World → Prop} (h : OpW P ops Q o n f u w next) (hn : ∀ a w, next a w → next' a w) : OpW P ops Q o n f u w next' := by
  refine ⟨?_⟩
  have h := h.ok
  split
  · rename_i hw
    rw [if_pos hw] at h
    exact h.imp (Oper.wp_mono hn) id
  · rename_i hw
    rw [if_neg hw] at h
    exact hn _ _ h
theorem sq (h : OpW P ops Q o n f u w (GL P ops Q rest)) : GL P ops Q (o :: rest) (Fr n f u) w :=
  ⟨(OpW_mono (next' := wpList P ops Q rest) h fun _ _ h => h.go).ok⟩

/-- It yields a value, and a world. -/
theorem o_val {dst : Option Tmp} {op : Op} {ty : TypeId} {pos : String} {aft : Array Edge} {gd : Option (Nat × Bool)} {w' : World} (v : Value)
    (hg : Region.wanted ⟨dst, op, ty, pos, aft, gd⟩ (yielded ops (Fr n f u).tmps) = true)
    (hr : (execOp (evf n f u) ⟨dst, op, ty, pos, aft, gd⟩).run P w = .ok (.value v) w') (h : next (Fr n f (pusho dst v u)) w') :
    OpW P ops Q ⟨dst, op, ty, pos, aft, gd⟩ n f u w next := by
  refine ⟨?_⟩
  rw [if_pos hg]
  refine .inl ?_
  unfold Oper.wp
  rw [Fr_eval, hr]
  show next ((Fr n f u).put dst v) w'
  rw [Fr_put]
  exact h

/-- It yields a value, and leaves the world alone. -/
theorem o_pv {dst : Option Tmp} {op : Op} {ty : TypeId} {pos : String} {aft : Array Edge} {gd : Option (Nat × Bool)} (v : Value)
    (hg : Region.wanted ⟨dst, op, ty, pos, aft, gd⟩ (yielded ops (Fr n f u).tmps) = true)
    (hr : (execOp (evf n f u) ⟨dst, op, ty, pos, aft, gd⟩).run P w = .ok (.value v) w) (h : next (Fr n f (pusho dst v u)) w) :
    OpW P ops Q ⟨dst, op, ty, pos, aft, gd⟩ n f u w next := o_val v hg hr h

/-- It does something to the world, and yields nothing. -/
theorem o_skip {dst : Option Tmp} {op : Op} {ty : TypeId} {pos : String} {aft : Array Edge} {gd : Option (Nat × Bool)} {w' : World}
    (hg : Region.wanted ⟨dst, op, ty, pos, aft, gd⟩ (yielded ops (Fr n f u).tmps) = true)
    (hr : (execOp (evf n f u) ⟨dst, op, ty, pos, aft, gd⟩).run P w = .ok .skip w') (h : next (Fr n f (pusho dst undef u)) w') :
    OpW P ops Q ⟨dst, op, ty, pos, aft, gd⟩ n f u w next := by
  refine ⟨?_⟩
  rw [if_pos hg]
  refine .inl ?_
  unfold Oper.wp
  rw [Fr_eval, hr]
  show next ((Fr n f u).put dst undef) w'
  rw [Fr_put]
  exact h

/-- Its guard says no. -/
theorem o_not {dst : Option Tmp} {op : Op} {ty : TypeId} {pos : String} {aft : Array Edge} {gd : Option (Nat × Bool)}
    (hg : Region.wanted ⟨dst, op, ty, pos, aft, gd⟩ (yielded ops (Fr n f u).tmps) = false) (h : next (Fr n f (pusho dst undef u)) w) :
    OpW P ops Q ⟨dst, op, ty, pos, aft, gd⟩ n f u w next := by
  refine ⟨?_⟩
  rw [if_neg (by simp [hg])]
  show next ((Fr n f u).put dst undef) w
  rw [Fr_put]
  exact h

/-- What a contract says: it returns, a value and a world of which this holds. -/
def Ret (Φ : Value → World → Prop) : Ending → World → Prop := fun e w' => ∃ v, e = .returned v ∧ Φ v w'

theorem Calls_ret {f : FuncId} {args : Array Value} {Φ Φ' : Value → World → Prop} (h : Calls P f args w (Ret Φ)) (hi : ∀ v w', Φ v w' → Φ' v w') : Calls P f args w (Ret Φ') :=
  h.mono fun _ _ ⟨v, he, hv⟩ => ⟨v, he, hi v _ hv⟩

/-- A call, by its contract. -/
theorem o_call {dst : Option Tmp} {op : Op} {ty : TypeId} {pos : String} {aft : Array Edge} {gd : Option (Nat × Bool)} {Φ : Value → World → Prop} (fid : FuncId) (args : Array Value)
    (hg : Region.wanted ⟨dst, op, ty, pos, aft, gd⟩ (yielded ops (Fr n f u).tmps) = true)
    (hr : (execOp (evf n f u) ⟨dst, op, ty, pos, aft, gd⟩).run P w = .ok (.enter fid args) w)
    (hc : Calls P fid args w (Ret Φ)) (h : ∀ v w', Φ v w' → next (Fr n f (pusho dst v u)) w') :
    OpW P ops Q ⟨dst, op, ty, pos, aft, gd⟩ n f u w next := by
  refine ⟨?_⟩
  rw [if_pos hg]
  refine .inl ?_
  unfold Oper.wp
  rw [Fr_eval, hr]
  refine hc.mono ?_
  rintro e w' ⟨v, rfl, hv⟩
  show next ((Fr n f u).put dst v) w'
  rw [Fr_put]
  exact h v w' hv

/-- The run of a call of a function by its number. -/
theorem x_call {dst : Option Tmp} {ty : TypeId} {pos : String} {aft : Array Edge} {gd : Option (Nat × Bool)} {fid : FuncId} {xs : Array Operand} {tys : Array TypeId} {args : Array Value}
    (hc : ∀ (args : Array Value) (w : World), (callFunc fid args).run P w = .ok (.enter fid args) w) (hargs : xs.map (evf n f u) = args) :
    (execOp (evf n f u) ⟨dst, .call ⟨.value (.func fid), xs, tys⟩, ty, pos, aft, gd⟩).run P w = .ok (.enter fid args) w := by
  subst hargs
  have h := hc (xs.map (evf n f u)) w
  simp only [execOp, resolve, evf, Deferred.ofValue]
  simpa [invoke] using h

/-! ### Code -/
variable {a : Act} {c : Code} {fn : Func} {R : Ending → World → Prop}

theorem nil_ (h : Q .normal (Fr n f u) w) : GL P ops Q [] (Fr n f u) w := ⟨h⟩
theorem reg_ {id : Nat} {l : List Oper} (h : GL P l.toArray Q l (Fr n f u) w) : (Code.region id l.toArray false).wp P Q (Fr n f u) w := wp_region_lit h.go
/-- One piece of code ahead of another: what follows stands behind a variable. -/
theorem seq_ {x y : Code} (h : ∀ K : Act → World → Prop, (∀ n f u w, y.wp P Q (Fr n f u) w → K (Fr n f u) w) → x.wp P (Exit.then K Q) a w) : (Code.seq x y).wp P Q a w :=
  wp_seq (h (y.wp P Q) fun _ _ _ _ h => h)
theorem then_normal {K : Act → World → Prop} (h : K a w) : Exit.then K Q .normal a w := h
theorem then_exit {K : Act → World → Prop} {i : Nat} (h : Q (.exit i) a w) : Exit.then K Q (.exit i) a w := h
theorem then_ret {K : Act → World → Prop} (h : Q .ret a w) : Exit.then K Q .ret a w := h
theorem blk_normal {i : Nat} (h : Q .normal a w) : Exit.inBlock i Q .normal a w := h
theorem blk_ret {i : Nat} (h : Q .ret a w) : Exit.inBlock i Q .ret a w := h
theorem blk_exit {i : Nat} (h : Q .normal a w) : Exit.inBlock i Q (.exit i) a w := by simpa [Exit.inBlock] using h
theorem blk_exit_ne {i j : Nat} (hij : Nat.beq j i = false) (h : Q (.exit j) a w) : Exit.inBlock i Q (.exit j) a w := by
  have : j ≠ i := fun e => by subst e; rw [Nat.beq_refl] at hij; cases hij
  simpa [Exit.inBlock, this] using h
theorem cond_t {cx : Operand} {x y : Code} (hc : evf n f u cx = .bool true) (h : x.wp P Q (Fr n f u) w) : (Code.cond cx x y).wp P Q (Fr n f u) w := wp_cond_true (by rw [Fr_eval]; exact hc) h
theorem cond_f {cx : Operand} {x y : Code} (hc : evf n f u cx = .bool false) (h : y.wp P Q (Fr n f u) w) : (Code.cond cx x y).wp P Q (Fr n f u) w := wp_cond_false (by rw [Fr_eval]; exact hc) h
theorem cond_d {cx : Operand} {x y : Code} (p : Prop) [Decidable p] (hc : evf n f u cx = .bool (decide p)) (ht : p → x.wp P Q (Fr n f u) w) (hf : ¬ p → y.wp P Q (Fr n f u) w) : (Code.cond cx x y).wp P Q (Fr n f u) w := by
  by_cases hp : p
  · exact cond_t (by rw [hc, decide_eq_true hp]) (ht hp)
  · exact cond_f (by rw [hc, decide_eq_false hp]) (hf hp)
theorem cond_b {cx : Operand} {x y : Code} (b : Bool) (hc : evf n f u cx = .bool b) (ht : b = true → x.wp P Q (Fr n f u) w) (hf : b = false → y.wp P Q (Fr n f u) w) : (Code.cond cx x y).wp P Q (Fr n f u) w := by
  cases b
  · exact cond_f hc (hf rfl)
  · exact cond_t hc (ht rfl)

/-- The end of a function, behind a variable: what is asked of it. -/
structure EndQ (P : Program) (fn : Func) (R : Ending → World → Prop) (n : Nat) (Q : Exit → Act → World → Prop) : Prop where
  ret : ∀ f u w v, (results fn (Fr n f u).tmps).run P w = .ok v w → R (.returned v) w → Q .ret (Fr n f u) w
  normal : ∀ f u w v, (results fn (Fr n f u).tmps).run P w = .ok v w → R (.returned v) w → Q .normal (Fr n f u) w
  panic : ∀ c a d v w, Q (.panic c) (a.put d v) w → Q (.panic c) a w
theorem enter_ {fid : FuncId} {args : Array Value} (hf : P.funcs[fid]? = some fn) (hb : fn.body = some c) (n : Nat) (u : List (Nat × Value))
    (hfr : args.toList ++ List.replicate (fn.ntmps - args.size) undef = (List.range n).map (look (fun _ => undef) u))
    (h : ∀ Q, EndQ P fn R n Q → c.wp P Q (Fr n (fun _ => undef) u) w) : Calls P fid args w R := by
  refine calls_of_wp hf hb ?_
  have : (⟨args ++ Array.replicate (fn.ntmps - args.size) undef, []⟩ : Act) = Fr n (fun _ => undef) u := by
    unfold Fr
    rw [← hfr]
    congr 1
    apply Array.ext'
    simp
  rw [this]
  exact h _ ⟨fun _ _ _ v h1 h2 => ⟨rfl, v, h1, h2⟩, fun _ _ _ v h1 h2 => ⟨rfl, v, h1, h2⟩, fun c a d v w h => by cases d <;> exact h⟩
theorem end_ret {Φ : Value → World → Prop} (he : EndQ P fn (Ret Φ) n Q) (v : Value) (hr : (results fn (Fr n f u).tmps).run P w = .ok v w) (hR : Φ v w) : Q .ret (Fr n f u) w := he.ret _ _ _ v hr ⟨v, rfl, hR⟩
theorem end_normal {Φ : Value → World → Prop} (he : EndQ P fn (Ret Φ) n Q) (v : Value) (hr : (results fn (Fr n f u).tmps).run P w = .ok v w) (hR : Φ v w) : Q .normal (Fr n f u) w := he.normal _ _ _ v hr ⟨v, rfl, hR⟩

/-- g at the slots of the mask, f at all others. -/
def mixf (m : Nat) (f g : Nat → Value) : Nat → Value := fun j => cond (Nat.testBit m j) (g j) (f j)
/-- Outside the mask the one is as the other. -/
def AgB (m : Nat) (F fb : Nat → Value) : Prop := ∀ j, Nat.testBit m j = false → fb j = F j
theorem AgB.mix (m : Nat) (F g : Nat → Value) : AgB m F (mixf m F g) := fun j hj => by simp [mixf, hj]
theorem AgB.look {m : Nat} {F fb : Nat → Value} {u : List (Nat × Value)} (h : AgB m F fb) (hu : (u.all fun p => Nat.testBit m p.1) = true) : AgB m F (look fb u) := fun j hj => by
  induction u with
  | nil => exact h j hj
  | cons p u ih =>
    simp only [List.all_cons, Bool.and_eq_true] at hu
    rw [look_cons]
    have : Nat.beq j p.1 = false := by
      cases hh : Nat.beq j p.1
      · rfl
      · rw [Nat.eq_of_beq_eq_true hh, hu.1] at hj; cases hj
    rw [this]
    exact ih hu.2
theorem AgB.nest {m m2 : Nat} {F fb g : Nat → Value} {u : List (Nat × Value)} (h : AgB m F fb) (hu : (u.all fun p => Nat.testBit m p.1) = true) (hm : Nat.land m2 m = m2) : AgB m F (mixf m2 (Go.Proofs.YtdnahdcjnahfkaaGreatDoor.look fb u) g) := fun j hj => by
  have : Nat.testBit m2 j = false := by
    have e : (m2 &&& m) = m2 := hm
    rw [← e, Nat.testBit_and, hj, Bool.and_false]
  simp only [mixf, this, cond_false]
  exact h.look hu j hj
/-- The frame at hand is one that a relation at F, with the mask m, describes by l. -/
def FitF (m : Nat) (F fb : Nat → Value) (u l : List (Nat × Value)) : Prop := AgB m F fb ∧ (u.all fun p => Nat.testBit m p.1) = true ∧ ∀ p ∈ l, look fb u p.1 = p.2
theorem FitF.eq {m : Nat} {F fb : Nat → Value} {u l : List (Nat × Value)} (h : FitF m F fb u l) : Fr n fb u = Fr n (mixf m F (look fb u)) l := by
  obtain ⟨h1, h2, h3⟩ := h
  refine Fr_ext fun j => ?_
  have key : ∀ l : List (Nat × Value), (∀ p ∈ l, look fb u p.1 = p.2) → look (mixf m F (look fb u)) l j = look fb u j := by
    intro l
    induction l with
    | nil =>
      intro _
      rw [look_nil]
      cases hb : Nat.testBit m j
      · simp only [mixf, hb, cond_false]; exact (h1.look h2 j hb).symm
      · simp [mixf, hb]
    | cons p l ih =>
      intro hp
      rw [look_cons]
      cases hh : Nat.beq j p.1
      · exact ih fun q hq => hp q (List.mem_cons_of_mem _ hq)
      · rw [Nat.eq_of_beq_eq_true hh]; exact (hp p List.mem_cons_self).symm
  exact (key l h3).symm
theorem vs_nil {p : Nat × Value → Prop} : ∀ x ∈ ([] : List (Nat × Value)), p x := fun _ h => by cases h
theorem vs_cons {p : Nat × Value → Prop} {x : Nat × Value} {l : List (Nat × Value)} (h : p x) (hl : ∀ y ∈ l, p y) : ∀ y ∈ x :: l, p y := fun y hy => by
  cases hy with
  | head => exact h
  | tail _ hm => exact hl y hm
theorem fit_mk {m : Nat} {F fb : Nat → Value} {u l : List (Nat × Value)} (h1 : AgB m F fb) (h2 : (u.all fun p => Nat.testBit m p.1) = true) (h3 : ∀ p ∈ l, look fb u p.1 = p.2) : FitF m F fb u l := ⟨h1, h2, h3⟩

/-- A loop: what holds at its head, with a number that goes down; the frame is the one at the loop's beginning but for some slots, which are told, and those of a mask, of which nothing is told. -/
theorem loop_ {c : Code} (m : Nat) (J : Nat → List (Nat × Value) → World → Prop) (k0 : Nat) (l0 : List (Nat × Value)) (hl : ∀ p ∈ l0, look f u p.1 = p.2) (h0 : J k0 l0 w)
    (round : ∀ k l w g, J k l w → ∀ K : Act → World → Prop, (∀ fb u' w', (∃ k' l', k' < k ∧ FitF m (look f u) fb u' l' ∧ J k' l' w') → K (Fr n fb u') w') → c.wp P (Exit.then K Q) (Fr n (mixf m (look f u) g) l) w) : (Code.loop c).wp P Q (Fr n f u) w := by
  have key : ∀ k l w g, J k l w → (Code.loop c).wp P Q (Fr n (mixf m (look f u) g) l) w := by
    intro k0 l0 w0 g0 h0
    intro b kk cs
    have : ∀ k l w g, J k l w → ∃ e a' w', Q e a' w' ∧ Arrives P (lone (b.at (Fr n (mixf m (look f u) g) l) (.code c :: .inLoop c :: kk)) cs w) b kk cs e a' w' := by
      intro k
      induction k using Nat.strongRecOn with
      | _ k ih =>
        intro l w g hJ
        obtain ⟨e, a₁, w₁, hq, harr⟩ := round k l w g hJ (fun a' w' => ∃ k' l' g', k' < k ∧ a' = Fr n (mixf m (look f u) g') l' ∧ J k' l' w') (fun fb u' w' ⟨k', l', hk, hfit, hJ'⟩ => ⟨k', l', look fb u', hk, hfit.eq, hJ'⟩) b (.inLoop c :: kk) cs
        cases e with
        | normal =>
          obtain ⟨k', l', g', hlt, rfl, hJ'⟩ := hq
          obtain ⟨e₂, a₂, w₂, hq₂, harr₂⟩ := ih k' hlt l' w₁ g' hJ'
          exact ⟨e₂, a₂, w₂, hq₂, .of_steps (Steps.trans harr (.one step_inLoop)) harr₂⟩
        | exit id => exact ⟨_, a₁, w₁, hq, .pass (x := .inLoop c) rfl (fun _ _ => .inl (by simp)) harr⟩
        | goto l => exact ⟨_, a₁, w₁, hq, .pass (x := .inLoop c) rfl (fun _ _ => .inl (by simp)) harr⟩
        | ret => exact ⟨_, a₁, w₁, hq, .pass (x := .inLoop c) rfl (fun _ _ => .inl (by simp)) harr⟩
        | panic ch => exact ⟨_, a₁, w₁, hq, .pass (x := .inLoop c) rfl (fun _ _ => .inl (by simp)) harr⟩
        | outgrown => exact ⟨_, a₁, w₁, hq, .pass (x := .inLoop c) rfl (fun _ _ => .inl (by simp)) harr⟩
    obtain ⟨e, a', w', hq, harr⟩ := this k0 l0 w0 g0 h0
    exact ⟨e, a', w', hq, .of_steps (.one step_loop) harr⟩
  have e : Fr n f u = Fr n (mixf m (look f u) (look f u)) l0 := by
    refine Fr_ext fun j => ?_
    have k2 : ∀ l : List (Nat × Value), (∀ p ∈ l, look f u p.1 = p.2) → look (mixf m (look f u) (look f u)) l j = look f u j := by
      intro l
      induction l with
      | nil => intro _; rw [look_nil]; cases hb : Nat.testBit m j <;> simp [mixf, hb]
      | cons p l ih =>
        intro hp
        rw [look_cons]
        cases hh : Nat.beq j p.1
        · exact ih fun q hq => hp q (List.mem_cons_of_mem _ hq)
        · rw [Nat.eq_of_beq_eq_true hh]; exact (hp p List.mem_cons_self).symm
    exact (k2 l0 hl).symm
  rw [e]
  exact key k0 l0 w (look f u) h0

/-- At a place where ways meet (or to forget slots): go on from all that J describes. -/
theorem join_ {c : Code} (m : Nat) (J : List (Nat × Value) → World → Prop)
    (h : ∀ K : Act → World → Prop, (∀ fb u' w', (∃ l', FitF m (look f u) fb u' l' ∧ J l' w') → K (Fr n fb u') w') → c.wp P (Exit.then K Q) (Fr n f u) w)
    (hn : ∀ l' w' g, J l' w' → Q .normal (Fr n (mixf m (look f u) g) l') w') : c.wp P Q (Fr n f u) w :=
  wp_mono (h (fun a' w' => ∃ l' g', a' = Fr n (mixf m (look f u) g') l' ∧ J l' w') (fun fb u' w' ⟨l', hfit, hJ⟩ => ⟨l', look fb u', hfit.eq, hJ⟩)) fun e a' w' hq => by
    cases e with
    | normal => obtain ⟨l', g', ha, hJ⟩ := hq; subst ha; exact hn l' w' g' hJ
    | _ => exact hq
/-- Where the frame's own list may be taken for a relation at itself. -/
theorem AgB.self (m : Nat) (f : Nat → Value) (u : List (Nat × Value)) : AgB m (Go.Proofs.YtdnahdcjnahfkaaGreatDoor.look f u) (Go.Proofs.YtdnahdcjnahfkaaGreatDoor.look f u) := fun _ _ => rfl
/-- A frame is the same when its list is taken into its ground. -/
theorem ground_ {c : Code} (h : c.wp P Q (Fr n (look f u) []) w) : c.wp P Q (Fr n f u) w := by
  have : Fr n f u = Fr n (look f u) [] := Fr_ext fun j => rfl
  rw [this]; exact h

/-- A test that is known. -/
theorem cond_dt {cx : Operand} {x y : Code} (p : Prop) [Decidable p] (hc : evf n f u cx = .bool (decide p)) (hp : p) (h : x.wp P Q (Fr n f u) w) : (Code.cond cx x y).wp P Q (Fr n f u) w := cond_t (by rw [hc, decide_eq_true hp]) h
theorem cond_df {cx : Operand} {x y : Code} (p : Prop) [Decidable p] (hc : evf n f u cx = .bool (decide p)) (hp : ¬ p) (h : y.wp P Q (Fr n f u) w) : (Code.cond cx x y).wp P Q (Fr n f u) w := cond_f (by rw [hc, decide_eq_false hp]) h
theorem cond_nd {cx : Operand} {x y : Code} (p : Prop) [Decidable p] (hc : evf n f u cx = .bool (!decide p)) (ht : ¬ p → x.wp P Q (Fr n f u) w) (hf : p → y.wp P Q (Fr n f u) w) : (Code.cond cx x y).wp P Q (Fr n f u) w := by
  by_cases hp : p
  · exact cond_f (by rw [hc, decide_eq_true hp]; rfl) (hf hp)
  · exact cond_t (by rw [hc, decide_eq_false hp]; rfl) (ht hp)
theorem cond_ndt {cx : Operand} {x y : Code} (p : Prop) [Decidable p] (hc : evf n f u cx = .bool (!decide p)) (hp : ¬ p) (h : x.wp P Q (Fr n f u) w) : (Code.cond cx x y).wp P Q (Fr n f u) w := cond_t (by rw [hc, decide_eq_false hp]; rfl) h
theorem cond_ndf {cx : Operand} {x y : Code} (p : Prop) [Decidable p] (hc : evf n f u cx = .bool (!decide p)) (hp : p) (h : y.wp P Q (Fr n f u) w) : (Code.cond cx x y).wp P Q (Fr n f u) w := cond_f (by rw [hc, decide_eq_true hp]; rfl) h
/-- The run of a test whose outcome is known. -/
theorem x_dt {o : Oper} {p : Prop} [Decidable p] (hr : (execOp (evf n f u) o).run P w = .ok (.value (.bool (decide p))) w) (hp : p) : (execOp (evf n f u) o).run P w = .ok (.value (.bool true)) w := by rw [hr, decide_eq_true hp]
theorem x_df {o : Oper} {p : Prop} [Decidable p] (hr : (execOp (evf n f u) o).run P w = .ok (.value (.bool (decide p))) w) (hp : ¬ p) : (execOp (evf n f u) o).run P w = .ok (.value (.bool false)) w := by rw [hr, decide_eq_false hp]
theorem x_ndt {o : Oper} {p : Prop} [Decidable p] (hr : (execOp (evf n f u) o).run P w = .ok (.value (.bool (!decide p))) w) (hp : ¬ p) : (execOp (evf n f u) o).run P w = .ok (.value (.bool true)) w := by rw [hr, decide_eq_false hp]; rfl
theorem x_ndf {o : Oper} {p : Prop} [Decidable p] (hr : (execOp (evf n f u) o).run P w = .ok (.value (.bool (!decide p))) w) (hp : p) : (execOp (evf n f u) o).run P w = .ok (.value (.bool false)) w := by rw [hr, decide_eq_true hp]; rfl
end

/-! ### A region that draws its order -/
section
variable {P : Program} {ops : Array Oper} {Q : Exit → Act → World → Prop} {m : Nat} {R : World → World → Prop}

/-- Whatever order is picked from here on; each operation ahead of number m moves the world along R. -/
def AnyR (P : Program) (ops : Array Oper) (Q : Exit → Act → World → Prop) (R : World → World → Prop) (m : Nat) : Nat → Array Bool → Act → World → Prop
  | 0, listed, a, w => Region.ready .any ops listed = [] ∧ Q .normal a w
  | fuel + 1, listed, a, w =>
    (Region.ready .any ops listed = [] → Q .normal a w) ∧
    ∀ i ∈ Region.ready .any ops listed, wpOp P ops Q i (fun a' w' => (i < m → R w w') ∧ AnyR P ops Q R m fuel (listed.setIfInBounds i true) a' w') a w

theorem wpAny_of_AnyR : ∀ (fuel : Nat) (listed : Array Bool) (a : Act) (w : World), AnyR P ops Q R m fuel listed a w → wpAny P .any ops Q fuel listed a w
  | 0, _, _, _, h => h
  | fuel + 1, _, _, _, h => ⟨h.1, fun i hi => wpOp_mono (fun a' w' h' => wpAny_of_AnyR fuel _ a' w' h'.2) (h.2 i hi)⟩

/-- Does number t wait for number i, perhaps through others? -/
def waitsOn (ops : Array Oper) : Nat → Nat → Nat → Bool
  | 0, _, _ => false
  | k + 1, t, i => match ops[t]? with
    | some o => o.after.any (fun e => Region.binds .any e && Nat.beq e.on i) || o.after.any (fun e => Region.binds .any e && waitsOn ops k e.on i)
    | none => false

def closedL (ops : Array Oper) (listed : Array Bool) : Prop := ∀ j oj, ops[j]? = some oj → listed.getD j false = true → ∀ e ∈ oj.after, Region.binds .any e = true → listed.getD e.on false = true

theorem waitsOn_listed {listed : Array Bool} (hcl : closedL ops listed) {i : Nat} : ∀ (k t : Nat) (ot : Oper), ops[t]? = some ot →
    (∀ e ∈ ot.after, Region.binds .any e = true → listed.getD e.on false = true) → waitsOn ops k t i = true → listed.getD i false = true := by
  intro k
  induction k with
  | zero => intro t ot _ _ h; cases h
  | succ k ih =>
    intro t ot ht hdeps h
    simp only [waitsOn, ht, Bool.or_eq_true] at h
    rcases h with h | h
    · obtain ⟨e, he, hb⟩ := Array.any_eq_true'.1 h
      simp only [Bool.and_eq_true] at hb
      have := Nat.eq_of_beq_eq_true hb.2
      rw [← this]
      exact hdeps e he hb.1
    · obtain ⟨e, he, hb⟩ := Array.any_eq_true'.1 h
      simp only [Bool.and_eq_true] at hb
      have hl := hdeps e he hb.1
      cases ho : ops[e.on]? with
      | none => rw [waitsOn.eq_def] at hb; cases k <;> simp [ho] at hb
      | some oe => exact ih e.on oe ho (fun e' he' hb' => hcl e.on oe ho hl e' he' hb') hb.2

theorem closedL_set {listed : Array Bool} (hcl : closedL ops listed) {i : Nat} (hi : i ∈ Region.ready .any ops listed) : closedL ops (listed.setIfInBounds i true) := by
  obtain ⟨_, oi, hoi, hall⟩ := mem_ready.1 hi
  intro j oj hj hl e he hb
  by_cases hij : i = j
  · subst hij
    have : oj = oi := Option.some.inj (hj.symm.trans hoi)
    subst this
    exact getD_set_true (hall e he hb)
  · rw [getD_set_ne false hij] at hl
    exact getD_set_true (hcl j oj hj hl e he hb)

theorem getD_false_of_true {listed : Array Bool} {i : Nat} (h : listed.getD i true = false) : listed.getD i false = false := by
  rcases Nat.lt_or_ge i listed.size with h' | h'
  · simp [h'] at h ⊢; exact h
  · simp [Array.getElem?_eq_none h'] at h

theorem AnyR_first (htr : ∀ a b c : World, R a b → R b c → R a c) (hrf : ∀ a : World, R a a) {i : Nat} {oi : Oper} {v : Value} (hi : ops[i]? = some oi) (him : i < m)
    (hsel : ∀ (j : Nat) (o : Oper) cs b, ops[j]? = some o → o.op ≠ .select cs b) (htail : ∀ t, m ≤ t → t < ops.size → waitsOn ops ops.size t i = true)
    (hQ : ∀ c a w, Q (.panic c) (a.put oi.dst v) w → Q (.panic c) a w) :
    ∀ (fuel : Nat) (listed : Array Bool) (a : Act) (w : World), closedL ops listed →
      (∀ j oj, ops[j]? = some oj → j ≠ i → listed.getD j true = false → (∀ e ∈ oj.after, Region.binds .any e = true → e.on ≠ i) → oi.apart ops oj = true) →
      i ∈ Region.ready .any ops listed → YieldsIf P ops (R w) oi v a →
      AnyR P ops Q R m fuel (listed.setIfInBounds i true) (a.put oi.dst v) w → AnyR P ops Q R m (fuel + 1) listed a w := by
  intro fuel
  induction fuel with
  | zero =>
    intro listed a w _ _ hr hy H
    refine ⟨fun h => (by rw [h] at hr; cases hr), fun j hj => ?_⟩
    by_cases hji : j = i
    · subst hji; exact hy.wpOp hi (hrf w) ⟨fun _ => hrf w, H⟩
    · have := ready_mono hj hji
      rw [H.1] at this
      cases this
  | succ fuel ih =>
    intro listed a w hcl hfree hr hy H
    refine ⟨fun h => (by rw [h] at hr; cases hr), fun j hj => ?_⟩
    by_cases hji : j = i
    · subst hji; exact hy.wpOp hi (hrf w) ⟨fun _ => hrf w, H⟩
    · have h1 := H.2 j (ready_mono hj hji)
      obtain ⟨hjun, oj, hoj, hall⟩ := mem_ready.1 hj
      have hnot : ∀ e ∈ oj.after, Region.binds .any e = true → e.on ≠ i := fun e he hb heq => by
        have h1 := hall e he hb
        have h0 := (mem_ready.1 hr).1
        rw [heq] at h1
        rw [getD_false_of_true h0] at h1
        cases h1
      have hjm : j < m := by
        rcases Nat.lt_or_ge j m with h | h
        · exact h
        · have hjs : j < ops.size := (Array.getElem?_eq_some_iff.1 hoj).1
          have := waitsOn_listed hcl ops.size j oj hoj hall (htail j h hjs)
          rw [getD_false_of_true (mem_ready.1 hr).1] at this
          cases this
      have h2 := wpOp_putIf hoj (hfree j oj hoj hji hjun hnot) (fun cs b => hsel i oi cs b hi) (fun cs b => hsel j oj cs b hoj) hQ hy h1
      have hfree' : ∀ k ok, ops[k]? = some ok → k ≠ i → (listed.setIfInBounds j true).getD k true = false →
          (∀ e ∈ ok.after, Region.binds .any e = true → e.on ≠ i) → oi.apart ops ok = true := fun k ok hk hki hun hno => by
        refine hfree k ok hk hki ?_ hno
        by_cases hjk : j = k
        · subst hjk; exact hjun
        · rw [getD_set_ne true hjk] at hun; exact hun
      refine wpOp_mono (fun a' w' h3 => ?_) h2
      have hR := h3.2.1 hjm
      refine ⟨fun _ => hR, ih (listed.setIfInBounds j true) a' w' (closedL_set hcl hj) hfree' (ready_mono hr (Ne.symm hji)) ?_ ?_⟩
      · exact h3.1.imp (fun ⟨x, y⟩ => ⟨x, fun w'' hw'' => y w'' (htr _ _ _ hR hw'')⟩) id
      · rw [Array.setIfInBounds_comm _ _ hji]
        exact h3.2.2

/-! the moves -/
variable {n : Nat} {f : Nat → Value} {u : List (Nat × Value)} {w : World}

/-- Where a region stands: what has been done so far is kept as a list of numbers. -/
def marksOf (k : Nat) : List Nat → Array Bool
  | [] => Array.replicate k false
  | i :: r => (marksOf k r).setIfInBounds i true

/-- The state of a walk through a region: 'done' is what has been carried out, the latest first; all of it in an order that the edges allow. -/
structure AtR (P : Program) (ops : Array Oper) (Q : Exit → Act → World → Prop) (R : World → World → Prop) (m : Nat) (done : List Nat) (a : Act) (w : World) : Prop where
  go : closedL ops (marksOf ops.size done) → AnyR P ops Q R m (ops.size - done.length) (marksOf ops.size done) a w

theorem closedL_nil : closedL ops (marksOf ops.size []) := fun j oj hj hl => by
  have : j < ops.size := (Array.getElem?_eq_some_iff.1 hj).1
  simp [marksOf, this] at hl

structure PreR (R : World → World → Prop) : Prop where
  refl : ∀ a, R a a
  trans : ∀ a b c, R a b → R b c → R a c

theorem reg_drawn {id : Nat} {l : List Oper} (R : World → World → Prop) (m : Nat) (hm : P.follows .mixedOrders = true)
    (h : ∀ w', w' = { w with drawn := w.drawn + 1 } → AtR P l.toArray Q R m [] (Fr n f u) w') : (Code.region id l.toArray true).wp P Q (Fr n f u) w :=
  wp_region_any hm (wpAny_of_AnyR _ _ _ _ (by simpa [marksOf] using (h _ rfl).go closedL_nil))

/-- The end. -/
theorem r_done {done : List Nat} (hr : Region.ready .any ops (marksOf ops.size done) = []) (h : Q .normal (Fr n f u) w) : AtR P ops Q R m done (Fr n f u) w := ⟨fun _ => by
  cases hk : ops.size - done.length with
  | zero => exact ⟨hr, h⟩
  | succ k => exact ⟨fun _ => h, by rw [hr]; simp⟩⟩

def tailB (ops : Array Oper) (m i : Nat) : Bool := (List.range ops.size).all fun t => Nat.blt t m || waitsOn ops ops.size t i

/-- An operation that yields the same value in all worlds along R is taken first. -/
theorem r_take {done : List Nat} {dst : Option Tmp} {op : Op} {ty : TypeId} {pos : String} {aft : Array Edge} {gd : Option (Nat × Bool)} (i : Nat) (v : Value) (hp : PreR R) (hi : ops[i]? = some ⟨dst, op, ty, pos, aft, gd⟩)
    (hB : (Nat.blt i m && tailB ops m i && Region.noSelect ops && Region.free .any ops (marksOf ops.size done) i && (Region.ready .any ops (marksOf ops.size done)).contains i && Nat.blt done.length ops.size) = true)
    (hQ : ∀ c a w, Q (.panic c) (a.put dst v) w → Q (.panic c) a w)
    (hy : (Region.wanted ⟨dst, op, ty, pos, aft, gd⟩ (yielded ops (Fr n f u).tmps) = true ∧ ∀ w', R w w' → (execOp (evf n f u) ⟨dst, op, ty, pos, aft, gd⟩).run P w' = .ok (.value v) w') ∨ (Region.wanted ⟨dst, op, ty, pos, aft, gd⟩ (yielded ops (Fr n f u).tmps) = false ∧ v = undef))
    (h : AtR P ops Q R m (i :: done) (Fr n f (pusho dst v u)) w) : AtR P ops Q R m done (Fr n f u) w := ⟨fun hcl => by
  simp only [Bool.and_eq_true] at hB
  obtain ⟨⟨⟨⟨⟨h1, h2⟩, h3⟩, h4⟩, h5⟩, h6⟩ := hB
  have hlt : done.length < ops.size := blt_lt h6
  have him : i < m := blt_lt h1
  obtain ⟨k, hk⟩ : ∃ k, ops.size - done.length = k + 1 := ⟨ops.size - done.length - 1, by omega⟩
  have hk' : ops.size - (i :: done).length = k := by simp only [List.length_cons]; omega
  have hri : i ∈ Region.ready .any ops (marksOf ops.size done) := by simpa using h5
  rw [hk]
  refine AnyR_first hp.trans hp.refl hi him (Region.noSelect_spec h3) ?_ hQ k _ _ _ hcl (Region.free_spec hi h4) hri ?_ ?_
  · intro t ht hts
    have := List.all_eq_true.1 h2 t (List.mem_range.2 hts)
    simp only [Bool.or_eq_true] at this
    rcases this with h | h
    · have := blt_lt h; omega
    · exact h
  · unfold YieldsIf
    rw [Fr_eval]
    exact hy
  · have := h.go (by simpa [marksOf] using closedL_set hcl hri)
    rw [hk'] at this
    rw [Fr_put]
    simpa [marksOf] using this⟩

/-- The law for what is carried out where it stands: whichever of those that may come up. -/
theorem r_ready {done : List Nat} (rs : List Nat) (hr : Region.ready .any ops (marksOf ops.size done) = rs) (hne : (!rs.isEmpty && Nat.blt done.length ops.size) = true)
    (h : ∀ i ∈ rs, ∃ dst op ty pos aft gd, ops[i]? = some ⟨dst, op, ty, pos, aft, gd⟩ ∧ OpW P ops Q ⟨dst, op, ty, pos, aft, gd⟩ n f u w (fun a' w' => (i < m → R w w') ∧ AtR P ops Q R m (i :: done) a' w')) : AtR P ops Q R m done (Fr n f u) w := ⟨fun hcl => by
  simp only [Bool.and_eq_true] at hne
  have hlt : done.length < ops.size := blt_lt hne.2
  obtain ⟨k, hk⟩ : ∃ k, ops.size - done.length = k + 1 := ⟨ops.size - done.length - 1, by omega⟩
  rw [hk]
  refine ⟨fun h0 => ?_, fun i hi => ?_⟩
  · rw [hr] at h0; subst h0; simp at hne
  · have hri := hi
    rw [hr] at hi
    obtain ⟨dst, op, ty, pos, aft, gd, ho, hop⟩ := h i hi
    unfold wpOp
    simp only [ho]
    have hk' : ops.size - (i :: done).length = k := by simp only [List.length_cons]; omega
    refine (OpW_mono (next' := fun a' w' => (i < m → R w w') ∧ AnyR P ops Q R m k ((marksOf ops.size done).setIfInBounds i true) a' w') hop ?_).ok
    rintro a' w' ⟨hR, hA⟩
    refine ⟨hR, ?_⟩
    have := hA.go (by simpa [marksOf] using closedL_set hcl hri)
    rw [hk'] at this
    simpa [marksOf] using this⟩

theorem all_nil {p : Nat → Prop} : ∀ i ∈ ([] : List Nat), p i := fun _ h => by cases h
theorem all_cons {p : Nat → Prop} {i : Nat} {r : List Nat} (h : p i) (hr : ∀ j ∈ r, p j) : ∀ j ∈ i :: r, p j := fun j hj => by
  cases hj with
  | head => exact h
  | tail _ hm => exact hr j hm
end
end Go.Proofs.YtdnahdcjnahfkaaGreatDoor
namespace Go.Proofs.YtdnahdcjnahfkaaGreatDoor
open Go

/-! ### How a world goes on -/
/-- Of the blocks below B none has turned, but perhaps those of F. -/
structure RB (B : Nat) (F : List Nat) (w w' : World) : Prop where
  os : w'.os = w.os
  tape : w'.tape = w.tape
  output : w'.output = w.output
  size : w.heap.size ≤ w'.heap.size
  keep : ∀ b, b < B → b ∉ F → w'.heap[b]? = w.heap[b]?

abbrev Evo (F : List Nat) (w w' : World) : Prop := RB w.heap.size F w w'

theorem RB.refl (B : Nat) (F : List Nat) (w : World) : RB B F w w := ⟨rfl, rfl, rfl, Nat.le_refl _, fun _ _ _ => rfl⟩
theorem RB.trans {B : Nat} {F : List Nat} {a b c : World} (h : RB B F a b) (k : RB B F b c) : RB B F a c :=
  ⟨k.os.trans h.os, k.tape.trans h.tape, k.output.trans h.output, Nat.le_trans h.size k.size, fun x hx hf => (k.keep x hx hf).trans (h.keep x hx hf)⟩
theorem RB.pre (B : Nat) (F : List Nat) : PreR (RB B F) := ⟨RB.refl B F, fun _ _ _ => RB.trans⟩
theorem RB.mono {B B' : Nat} {F F' : List Nat} {a b : World} (h : RB B F a b) (hB : B' ≤ B) (hF : ∀ x ∈ F, x ∈ F' ∨ B' ≤ x) : RB B' F' a b :=
  ⟨h.os, h.tape, h.output, h.size, fun x hx hf => h.keep x (by omega) (fun hm => by rcases hF x hm with h1 | h1; exact hf h1; omega)⟩
theorem RB.drew (B : Nat) (F : List Nat) (w : World) : RB B F w { w with drawn := w.drawn + 1 } := ⟨rfl, rfl, rfl, Nat.le_refl _, fun _ _ _ => rfl⟩
theorem Evo.trans {F : List Nat} {a b c : World} (h : Evo F a b) (k : Evo F b c) : Evo F a c :=
  RB.trans h (k.mono h.size fun _ hx => Or.inl hx)
/-- What goes on from here, seen from an earlier world. -/
theorem RB.then {B : Nat} {F F' : List Nat} {a b c : World} (h : RB B F a b) (k : Evo F' b c) (hB : B ≤ b.heap.size) (hF : ∀ x ∈ F', x ∈ F ∨ B ≤ x) : RB B F a c :=
  RB.trans h (k.mono hB hF)
theorem Evo.then {F F' : List Nat} {a b c : World} (h : Evo F a b) (k : Evo F' b c) (hF : ∀ x ∈ F', x ∈ F ∨ a.heap.size ≤ x) : Evo F a c := RB.then h k h.size hF
theorem Evo.then0 {F : List Nat} {a b c : World} (h : Evo F a b) (k : Evo [] b c) : Evo F a c := h.then k (fun _ hx => by cases hx)
theorem Evo.cell {F : List Nat} {w w' : World} (h : Evo F w w') {p : Addr} {v : Value} (hp : w.cell? p = some v) (hf : p.block ∉ F) : w'.cell? p = some v :=
  (World.cell?_of_block (w := w) (h.keep p.block (World.block_lt_of_cell? _ _ hp) hf)).trans hp
theorem Evo.below {w w' : World} (h : Evo [] w w') : RowKit.Below w.heap.size w w' := ⟨h.os, h.tape, h.output, h.size, fun k hk => h.keep k hk (by simp)⟩
theorem Evo.alloc (w : World) (o : Obj) : Evo [] w (w.alloc o) := ⟨rfl, rfl, rfl, by simp, fun b hb _ => RowKit.Below.heap_alloc w o b hb⟩
theorem Evo.of_drew {w w' : World} (h : w' = { w with drawn := w.drawn + 1 }) : Evo [] w w' := by subst h; exact RB.drew _ _ _

/-- Every number of the one list is in the other. -/
def Sub (X Y : List Nat) : Prop := ∀ b ∈ X, b ∈ Y
theorem Sub.refl (X : List Nat) : Sub X X := fun _ h => h
theorem Sub.trans {X Y Z : List Nat} (h : Sub X Y) (k : Sub Y Z) : Sub X Z := fun b hb => k b (h b hb)
theorem Sub.cons (b : Nat) (X : List Nat) : Sub X (b :: X) := fun _ h => List.mem_cons_of_mem _ h
theorem Sub.nil (X : List Nat) : Sub [] X := fun _ h => by cases h

/-- All of X are blocks that are there. -/
def Old (X : List Nat) (w : World) : Prop := ∀ b ∈ X, b < w.heap.size

theorem Sub.of_cons {b : Nat} {X Y : List Nat} (h : b ∈ X) (k : Sub Y X) : Sub (b :: Y) X := fun x hx => by cases hx with | head => exact h | tail _ h => exact k x h
theorem Sub.of_app {Z X Y : List Nat} (h : Sub Z X) (k : Sub Y X) : Sub (Z ++ Y) X := fun x hx => by rcases List.mem_append.1 hx with h1 | h1; exact h x h1; exact k x h1
theorem Old.less {X Y : List Nat} {w : World} (h : Old X w) (s : Sub Y X) : Old Y w := fun b hb => h b (s b hb)

/-- A step of the ghost state: X is what may be written by us; F is what this step has written. -/
structure Step (X : List Nat) (w : World) (F : List Nat) (X' : List Nat) (w' : World) : Prop where
  evo : Evo F w w'
  sub : Sub F X
  up : Sub X X'
  news : ∀ b ∈ X', b ∈ X ∨ (w.heap.size ≤ b ∧ b < w'.heap.size)
theorem Step.new {X : List Nat} {w : World} {F : List Nat} {X' : List Nat} {w' : World} (h : Step X w F X' w') : ∀ b ∈ X', b ∈ X ∨ w.heap.size ≤ b := fun b hb => (h.news b hb).imp id (·.1)
theorem Old.step {X : List Nat} {w : World} {F : List Nat} {X' : List Nat} {w' : World} (h : Old X w) (s : Step X w F X' w') : Old X' w' := fun b hb => by
  rcases s.news b hb with h1 | h1
  · exact Nat.lt_of_lt_of_le (h b h1) s.evo.size
  · exact h1.2
theorem Old.evo {X : List Nat} {w w' : World} {F : List Nat} (h : Old X w) (e : Evo F w w') : Old X w' := fun b hb => Nat.lt_of_lt_of_le (h b hb) e.size
theorem Old.nil (w : World) : Old [] w := fun b hb => by cases hb
theorem Step.of0 (X : List Nat) {w w' : World} (h : Evo [] w w') : Step X w [] X w' := ⟨h, Sub.nil _, Sub.refl _, fun _ h => Or.inl h⟩
theorem Step.fresh (X : List Nat) {w w' : World} (h : Evo [] w w') (b : Nat) (hb : w.heap.size ≤ b) (hb' : b < w'.heap.size) : Step X w [] (b :: X) w' :=
  ⟨h, Sub.nil _, Sub.cons _ _, fun x hx => by cases hx with | head => exact Or.inr ⟨hb, hb'⟩ | tail _ h => exact Or.inl h⟩
theorem Step.app (X Y : List Nat) {w w' : World} (h : Evo [] w w') (hb : ∀ b ∈ Y, w.heap.size ≤ b ∧ b < w'.heap.size) : Step X w [] (Y ++ X) w' :=
  ⟨h, Sub.nil _, (fun _ h => List.mem_append_right _ h), fun x hx => by rcases List.mem_append.1 hx with h | h; exact Or.inr (hb x h); exact Or.inl h⟩
theorem Step.one {X : List Nat} {w w' : World} {b : Nat} (h : Evo [b] w w') (hb : b ∈ X) : Step X w [b] X w' :=
  ⟨h, fun x hx => by simp at hx; subst hx; exact hb, Sub.refl _, fun _ h => Or.inl h⟩

/-! ### A block that is known whole -/
def Blk (w : World) (b : Nat) (cs : List Value) (ty : TypeId) : Prop := w.heap[b]? = some (.cells cs.toArray ty (0, 0))
theorem Blk.lt {w : World} {b : Nat} {cs : List Value} {ty : TypeId} (h : Blk w b cs ty) : b < w.heap.size := (Array.getElem?_eq_some_iff.1 h).1
theorem Blk.evo {w w' : World} {F : List Nat} {b : Nat} {cs : List Value} {ty : TypeId} (h : Blk w b cs ty) (e : Evo F w w') (hb : b ∉ F) : Blk w' b cs ty := (e.keep b h.lt hb).trans h
theorem Blk.evo0 {w w' : World} {b : Nat} {cs : List Value} {ty : TypeId} (h : Blk w b cs ty) (e : Evo [] w w') : Blk w' b cs ty := h.evo e (by simp)
theorem Blk.evo1 {w w' : World} {b c : Nat} {cs : List Value} {ty : TypeId} (h : Blk w b cs ty) (e : Evo [c] w w') (hb : b ≠ c) : Blk w' b cs ty := h.evo e (by simpa using hb)
theorem Blk.cell {w : World} {b : Nat} {cs : List Value} {ty : TypeId} (h : Blk w b cs ty) (j : Nat) : w.cell? ⟨b, j, none⟩ = cs[j]? := by
  rw [cell_of_row w b j _ ty _ h]; simp
theorem Blk.new (w : World) (cs : Array Value) (ty : TypeId) : Blk (w.alloc (.cells cs ty)) w.heap.size cs.toList ty := by
  unfold Blk; rw [heap_alloc_new]

/-! ### Data in memory -/
def CellsAt (w : World) (b o : Nat) (xs : List Value) : Prop := ∀ (j : Nat) (u : Value), xs[j]? = some u → w.cell? ⟨b, o + j, none⟩ = some u
theorem CellsAt.evo {w w' : World} {F : List Nat} {b o : Nat} {xs : List Value} (h : CellsAt w b o xs) (e : Evo F w w') (hb : b ∉ F) : CellsAt w' b o xs :=
  fun j u hj => e.cell (h j u hj) hb
theorem CellsAt.drop {w : World} {b o : Nat} {xs : List Value} (h : CellsAt w b o xs) (k : Nat) : CellsAt w b (o + k) (xs.drop k) := fun j u hj => by
  rw [List.getElem?_drop] at hj
  have := h (k + j) u hj
  rwa [← Nat.add_assoc] at this
theorem CellsAt.take {w : World} {b o : Nat} {xs : List Value} (h : CellsAt w b o xs) (k : Nat) : CellsAt w b o (xs.take k) := fun j u hj => by
  rw [List.getElem?_take] at hj
  split at hj
  · exact h j u hj
  · cases hj

/-- How data of one kind lies in memory: in so many cells; X: blocks that it does not lie in. -/
structure Rep (α : Type) where
  n : Nat
  ok : List Nat → World → List Value → α → Prop
  len : ∀ {X w cs d}, ok X w cs d → cs.length = n
  evo : ∀ {X w cs d F w'}, ok X w cs d → Evo F w w' → Sub F X → ok X w' cs d
  sub : ∀ {X w cs d X'}, ok X w cs d → (∀ b ∈ X', b ∈ X ∨ w.heap.size ≤ b) → ok X' w cs d
  one : ∀ {X w cs d}, ok X w cs d → ∀ c ∈ cs, c.oneCell' = true

theorem Rep.step {α : Type} (R : Rep α) {X X' : List Nat} {w w' : World} {F : List Nat} {cs : List Value} {d : α} (h : R.ok X w cs d) (s : Step X w F X' w') : R.ok X' w' cs d :=
  R.evo (R.sub h s.new) s.evo (s.sub.trans s.up)

def inR (k : IntKind) (x : Int) : Prop := k.min ≤ x ∧ x ≤ k.max
theorem inR_i64 {x : Int} : inR .i64 x ↔ -9223372036854775808 ≤ x ∧ x ≤ 9223372036854775807 := by
  unfold inR; rw [show IntKind.i64.min = -9223372036854775808 from by decide, show IntKind.i64.max = 9223372036854775807 from by decide]
theorem inR_u8 {x : Int} : inR .u8 x ↔ 0 ≤ x ∧ x ≤ 255 := by
  unfold inR; rw [show IntKind.u8.min = 0 from by decide, show IntKind.u8.max = 255 from by decide]

def rInt (k : IntKind) : Rep Int where
  n := 1
  ok _ _ cs x := cs = [.int k x] ∧ inR k x
  len h := by rw [h.1]; rfl
  evo h _ _ := h
  sub h _ := h
  one h c hc := by rw [h.1] at hc; simp at hc; subst hc; rfl
def rBool : Rep Bool where
  n := 1
  ok _ _ cs x := cs = [.bool x]
  len h := by rw [h]; rfl
  evo h _ _ := h
  sub h _ := h
  one h c hc := by rw [h] at hc; simp at hc; subst hc; rfl
def rStr : Rep ByteArray where
  n := 1
  ok _ _ cs x := cs = [.string x] ∧ x.size ≤ maxLen
  len h := by rw [h.1]; rfl
  evo h _ _ := h
  sub h _ := h
  one h c hc := by rw [h.1] at hc; simp at hc; subst hc; rfl
def rPair {α β : Type} (R : Rep α) (S : Rep β) : Rep (α × β) where
  n := R.n + S.n
  ok X w cs x := ∃ c1 c2, cs = c1 ++ c2 ∧ R.ok X w c1 x.1 ∧ S.ok X w c2 x.2
  len h := by obtain ⟨c1, c2, rfl, h1, h2⟩ := h; rw [List.length_append, R.len h1, S.len h2]
  evo h e s := by obtain ⟨c1, c2, rfl, h1, h2⟩ := h; exact ⟨c1, c2, rfl, R.evo h1 e s, S.evo h2 e s⟩
  sub h s := by obtain ⟨c1, c2, rfl, h1, h2⟩ := h; exact ⟨c1, c2, rfl, R.sub h1 s, S.sub h2 s⟩
  one h c hc := by
    obtain ⟨c1, c2, rfl, h1, h2⟩ := h
    rcases List.mem_append.1 hc with h | h
    · exact R.one h1 c h
    · exact S.one h2 c h
def rMap {α β : Type} (g : β → α) (R : Rep α) : Rep β where
  n := R.n
  ok X w cs x := R.ok X w cs (g x)
  len h := R.len h
  evo h e s := R.evo h e s
  sub h s := R.sub h s
  one h := R.one h

section
variable {α : Type} (R : Rep α) {X X' F : List Nat} {w w' : World}

/-- The cells of a row of data. -/
def Flat (X : List Nat) (w : World) : List Value → List α → Prop
  | xs, [] => xs = []
  | xs, d :: L => ∃ cs r, xs = cs ++ r ∧ R.ok X w cs d ∧ Flat X w r L

variable {R} {xs ys : List Value} {L M : List α}
theorem Flat.length : ∀ {L : List α} {xs : List Value}, Flat R X w xs L → xs.length = L.length * R.n
  | [], xs, h => by simp only [Flat] at h; subst h; simp
  | d :: L, xs, h => by
    obtain ⟨cs, r, rfl, h1, h2⟩ := h
    rw [List.length_append, R.len h1, Flat.length h2, List.length_cons, Nat.add_mul]
    omega
theorem Flat.evo : ∀ {L : List α} {xs : List Value}, Flat R X w xs L → Evo F w w' → Sub F X → Flat R X w' xs L
  | [], _, h, _, _ => h
  | _ :: _, _, ⟨cs, r, e, h1, h2⟩, ev, s => ⟨cs, r, e, R.evo h1 ev s, Flat.evo h2 ev s⟩
theorem Flat.sub : ∀ {L : List α} {xs : List Value}, Flat R X w xs L → (∀ b ∈ X', b ∈ X ∨ w.heap.size ≤ b) → Flat R X' w xs L
  | [], _, h, _ => h
  | _ :: _, _, ⟨cs, r, e, h1, h2⟩, s => ⟨cs, r, e, R.sub h1 s, Flat.sub h2 s⟩
theorem Flat.one : ∀ {L : List α} {xs : List Value}, Flat R X w xs L → ∀ c ∈ xs, c.oneCell' = true
  | [], xs, h, c, hc => by simp only [Flat] at h; subst h; cases hc
  | _ :: _, _, ⟨cs, r, e, h1, h2⟩, c, hc => by
    subst e
    rcases List.mem_append.1 hc with h | h
    · exact R.one h1 c h
    · exact Flat.one h2 c h
theorem Flat.append : ∀ {L : List α} {xs : List Value}, Flat R X w xs L → Flat R X w ys M → Flat R X w (xs ++ ys) (L ++ M)
  | [], xs, h, k => by simp only [Flat] at h; subst h; simpa using k
  | d :: L, _, ⟨cs, r, e, h1, h2⟩, k => by
    subst e
    exact ⟨cs, r ++ ys, by simp, h1, Flat.append h2 k⟩
theorem Flat.nil : Flat R X w [] ([] : List α) := rfl
theorem Flat.cons {cs : List Value} {d : α} (h : R.ok X w cs d) (hr : Flat R X w ys M) : Flat R X w (cs ++ ys) (d :: M) := ⟨cs, ys, rfl, h, hr⟩
theorem Flat.cons1 {c : Value} {d : α} (h : R.ok X w [c] d) (hr : Flat R X w ys M) : Flat R X w (c :: ys) (d :: M) := ⟨[c], ys, rfl, h, hr⟩
theorem Flat.single {cs : List Value} {d : α} (h : R.ok X w cs d) : Flat R X w cs [d] := ⟨cs, [], by simp, h, rfl⟩
theorem Flat.drop : ∀ {L : List α} {xs : List Value} (k : Nat), Flat R X w xs L → Flat R X w (xs.drop (k * R.n)) (L.drop k)
  | [], xs, k, h => by simp only [Flat] at h; subst h; simp [Flat]
  | d :: L, xs, 0, h => by simpa using h
  | d :: L, _, k + 1, ⟨cs, r, e, h1, h2⟩ => by
    subst e
    have hl := R.len h1
    have : (cs ++ r).drop ((k + 1) * R.n) = r.drop (k * R.n) := by
      rw [List.drop_append, List.drop_of_length_le (by rw [hl, Nat.add_mul]; omega), List.nil_append, hl]
      congr 1
      rw [Nat.add_mul]; omega
    rw [this]
    exact Flat.drop k h2
theorem Flat.take : ∀ {L : List α} {xs : List Value} (k : Nat), Flat R X w xs L → Flat R X w (xs.take (k * R.n)) (L.take k)
  | [], xs, k, h => by simp only [Flat] at h; subst h; simp [Flat]
  | d :: L, xs, 0, h => by simp [Flat]
  | d :: L, _, k + 1, ⟨cs, r, e, h1, h2⟩ => by
    subst e
    have hl := R.len h1
    have : (cs ++ r).take ((k + 1) * R.n) = cs ++ r.take (k * R.n) := by
      rw [List.take_append, List.take_of_length_le (by rw [hl, Nat.add_mul]; omega), hl]
      congr 2
      rw [Nat.add_mul]; omega
    rw [this]
    exact ⟨cs, _, rfl, h1, Flat.take k h2⟩
theorem Flat.get {L : List α} {xs : List Value} (h : Flat R X w xs L) (i : Nat) (hi : i < L.length) : ∃ cs, R.ok X w cs L[i] ∧ ∀ (j : Nat) (u : Value), cs[j]? = some u → xs[i * R.n + j]? = some u := by
  have hd := Flat.drop i h
  rw [List.drop_eq_getElem_cons hi] at hd
  obtain ⟨cs, r, e, h1, _⟩ := hd
  refine ⟨cs, h1, fun j u hj => ?_⟩
  rw [← List.getElem?_drop, e, List.getElem?_append_left]
  · exact hj
  · rcases Nat.lt_or_ge j cs.length with h | h
    · exact h
    · simp [List.getElem?_eq_none h] at hj
end

/-- A slice of data: what is read of it. -/
def Sl {α : Type} (R : Rep α) (X : List Nat) (w : World) (a : Option Addr) (c : Nat) (L : List α) : Prop :=
  L.length ≤ c ∧ c ≤ maxLen ∧ ((L = [] ∧ (a = none → c = 0)) ∨ ∃ b o xs, a = some ⟨b, o, none⟩ ∧ b ∉ X ∧ b < w.heap.size ∧ CellsAt w b o xs ∧ Flat R X w xs L)

section
variable {α : Type} {R : Rep α} {X X' F : List Nat} {w w' : World} {a : Option Addr} {c : Nat} {L : List α}
theorem Sl.evo (h : Sl R X w a c L) (e : Evo F w w') (s : Sub F X) : Sl R X w' a c L := by
  obtain ⟨h1, h2, h3⟩ := h
  refine ⟨h1, h2, ?_⟩
  rcases h3 with h3 | ⟨b, o, xs, rfl, hb, hl, hc, hf⟩
  · exact .inl h3
  · exact .inr ⟨b, o, xs, rfl, hb, Nat.lt_of_lt_of_le hl e.size, hc.evo e (fun hm => hb (s b hm)), hf.evo e s⟩
theorem Sl.evo0 (h : Sl R X w a c L) (e : Evo [] w w') : Sl R X w' a c L := h.evo e (Sub.nil _)
theorem Sl.sub (h : Sl R X w a c L) (s : ∀ b ∈ X', b ∈ X ∨ w.heap.size ≤ b) : Sl R X' w a c L := by
  obtain ⟨h1, h2, h3⟩ := h
  refine ⟨h1, h2, ?_⟩
  rcases h3 with h3 | ⟨b, o, xs, rfl, hb, hl, hc, hf⟩
  · exact .inl h3
  · exact .inr ⟨b, o, xs, rfl, fun hm => by rcases s b hm with h | h; exact hb h; omega, hl, hc, hf.sub s⟩
theorem Sl.less (h : Sl R X w a c L) (s : Sub X' X) : Sl R X' w a c L := h.sub fun b hb => .inl (s b hb)
theorem Sl.step (h : Sl R X w a c L) (s : Step X w F X' w') : Sl R X' w' a c L := (h.sub s.new).evo s.evo (s.sub.trans s.up)
theorem Sl.len (h : Sl R X w a c L) : L.length ≤ 9223372036854775807 := by have := h.1; have := h.2.1; unfold maxLen at this; omega
theorem Sl.nil : Sl R X w none 0 [] := ⟨by simp, by simp, .inl ⟨rfl, fun _ => rfl⟩⟩
theorem Sl.cap (h : Sl R X w a c L) : c ≤ 9223372036854775807 := by have := h.2.1; unfold maxLen at this; omega
/-- An element: its address, and its cells. -/
theorem Sl.at (h : Sl R X w a c L) (i : Nat) (hi : i < L.length) : ∃ b o cs, a = some ⟨b, o, none⟩ ∧ b ∉ X ∧ b < w.heap.size ∧ R.ok X w cs L[i] ∧ CellsAt w b (o + i * R.n) cs := by
  obtain ⟨_, _, h3⟩ := h
  rcases h3 with ⟨rfl, _⟩ | ⟨b, o, xs, rfl, hb, hl, hc, hf⟩
  · cases hi
  · obtain ⟨cs, h1, h2⟩ := hf.get i hi
    refine ⟨b, o, cs, rfl, hb, hl, h1, fun j u hj => ?_⟩
    rw [Nat.add_assoc]
    exact hc _ u (h2 j u hj)
end

def rSl {α : Type} (R : Rep α) : Rep (List α) where
  n := 1
  ok X w cs L := ∃ a c, cs = [.slice a L.length c] ∧ Sl R X w a c L
  len h := by obtain ⟨a, c, rfl, _⟩ := h; rfl
  evo h e s := by obtain ⟨a, c, rfl, h⟩ := h; exact ⟨a, c, rfl, h.evo e s⟩
  sub h s := by obtain ⟨a, c, rfl, h⟩ := h; exact ⟨a, c, rfl, h.sub s⟩
  one h u hu := by obtain ⟨a, c, rfl, h⟩ := h; simp at hu; subst hu; rfl

/-! ### A slice that we own, and may append to -/
def blkL : Option Addr → List Nat
  | some a => [a.block]
  | none => []
theorem ownBlock_blkL (a : Option Addr) (n c : Nat) (b : Nat) : Value.ownBlock (.slice a n c) = some b ↔ b ∈ blkL a := by
  cases a with
  | none => simp [Value.ownBlock, blkL]
  | some a => simp [Value.ownBlock, blkL]; exact eq_comm

def Own {α : Type} (R : Rep α) (X : List Nat) (w : World) (base : Nat) (ty : TypeId) (a : Option Addr) (c : Nat) (L : List α) : Prop :=
  base ≤ w.heap.size ∧ (∀ b ∈ blkL a, b ∈ X) ∧ ∃ xs, w.ownsRow base ty R.n (.slice a L.length c) L.length xs ∧ Flat R X w xs L

section
variable {α : Type} {R : Rep α} {X X' F : List Nat} {w w' : World} {a : Option Addr} {c base : Nat} {ty : TypeId} {L : List α}
theorem Own.nil (hb : base ≤ w.heap.size) : Own R X w base ty none 0 ([] : List α) := ⟨hb, (fun _ h => by cases h), [], World.ownsRow_nil w base ty R.n, rfl⟩
theorem Own.lt (h : Own R X w base ty a c L) : ∀ b ∈ blkL a, base ≤ b ∧ b < w.heap.size := fun b hb => by
  obtain ⟨_, _, xs, ho, _⟩ := h
  exact ho.lt b ((ownBlock_blkL _ _ _ _).2 hb)
theorem Own.mem (h : Own R X w base ty a c L) : Sub (blkL a) X := h.2.1
theorem Own.step (h : Own R X w base ty a c L) (s : Step X w F X' w') (hf : ∀ b ∈ blkL a, b ∉ F) : Own R X' w' base ty a c L := by
  obtain ⟨hb, hm, xs, ho, hx⟩ := h
  refine ⟨Nat.le_trans hb s.evo.size, fun b hb => s.up b (hm b hb), xs, ?_, (hx.sub s.new).evo s.evo (s.sub.trans s.up)⟩
  refine ⟨ho.1, ?_⟩
  rcases ho.2 with h2 | ⟨g, cap, cur, hv, hbg, hg, h3⟩
  · exact .inl h2
  · refine .inr ⟨g, cap, cur, hv, hbg, ?_, h3⟩
    have ha : a = some ⟨g, 0, none⟩ := by injection hv
    rw [s.evo.keep g (Array.getElem?_eq_some_iff.1 hg).1 (hf g (by rw [ha]; simp [blkL]))]
    exact hg
/-- What we own may be read; once it is only read it need not be ours. -/
theorem Own.sl (h : Own R X w base ty a c L) (s : Sub X' X) (hn : ∀ b ∈ blkL a, b ∉ X') : Sl R X' w a c L := by
  obtain ⟨hb, hm, xs, ho, hx⟩ := h
  have hl := hx.length
  rcases ho.2 with ⟨h1, h2⟩ | ⟨g, cap, cur, hv, hbg, hg, hnc, hcm, hcs, htake⟩
  · have h3 : L = [] := List.eq_nil_of_length_eq_zero h2
    injection h1 with e1 e2 e3
    subst h3; subst e1; subst e3
    exact Sl.nil
  · injection hv with e1 e2 e3
    subst e1; subst e3
    refine ⟨hnc, hcm, .inr ⟨g, 0, xs, rfl, hn g (by simp [blkL]), (Array.getElem?_eq_some_iff.1 hg).1, fun j u hj => ?_, hx.sub fun b hb => .inl (s b hb)⟩⟩
    have := ho.cells (g := g) rfl j u hj
    have hadd : (⟨g, 0, none⟩ : Addr).add j = ⟨g, 0 + j, none⟩ := by unfold Addr.add; split <;> simp_all
    rwa [hadd] at this
theorem Own.down {base' : Nat} (h : Own R X w base ty a c L) (hb : base' ≤ base) : Own R X w base' ty a c L := by
  obtain ⟨h1, h2, xs, ho, hx⟩ := h
  refine ⟨Nat.le_trans hb h1, h2, xs, ⟨ho.1, ?_⟩, hx⟩
  rcases ho.2 with h3 | ⟨g, cap, cur, hv, hg, h4⟩
  · exact .inl h3
  · exact .inr ⟨g, cap, cur, hv, Nat.le_trans hb hg, h4⟩
theorem Own.sub' (h : Own R X w base ty a c L) (h1 : ∀ b ∈ blkL a, b ∈ X') (h2 : ∀ b ∈ X', b ∈ X ∨ w.heap.size ≤ b) : Own R X' w base ty a c L := by
  obtain ⟨hb, _, xs, ho, hx⟩ := h
  exact ⟨hb, h1, xs, ho, hx.sub h2⟩
/-- .. by the caller of the whole, whose own blocks are older. -/
theorem Own.out (h : Own R X w base ty a c L) (s : Sub X' X) (hn : ∀ b ∈ X', b < base) : Sl R X' w a c L :=
  h.sl s fun b hb hx => by have := (h.lt b hb).1; have := hn b hx; omega
theorem NotIn.cons {c : Nat} {Y : List Nat} (hq : c ∉ blkL a) (h : ∀ b ∈ blkL a, b ∉ Y) : ∀ b ∈ blkL a, b ∉ c :: Y := fun b hb hm => by
  cases hm with
  | head => exact hq hb
  | tail _ h1 => exact h b hb h1
theorem NotIn.app {a' : Option Addr} {Y : List Nat} (hq : ∀ b ∈ blkL a, b ∉ blkL a') (h : ∀ b ∈ blkL a, b ∉ Y) : ∀ b ∈ blkL a, b ∉ blkL a' ++ Y := fun b hb hm => by
  rcases List.mem_append.1 hm with h1 | h1
  · exact hq b hb h1
  · exact h b hb h1
theorem Own.notin {Y : List Nat} (h : Own R X w base ty a c L) (hY : ∀ b ∈ Y, b < base) : ∀ b ∈ blkL a, b ∉ Y := fun b hb hm => by have := (h.lt b hb).1; have := hY b hm; omega
theorem Own.less (h : Own R X w base ty a c L) (s : Sub X' X) (hm : Sub (blkL a) X') : Own R X' w base ty a c L := h.sub' hm fun b hb => .inl (s b hb)
theorem Own.len (h : Own R X w base ty a c L) : L.length ≤ 9223372036854775807 := by
  have := (h.sl (X' := []) (Sub.nil _) (by simp)).len
  exact this
theorem Own.cap (h : Own R X w base ty a c L) : L.length ≤ c := (h.sl (X' := []) (Sub.nil _) (by simp)).1
end
end Go.Proofs.YtdnahdcjnahfkaaGreatDoor
namespace Go.Proofs.YtdnahdcjnahfkaaGreatDoor
open Go

section
variable {P : Program} {ops : Array Oper} {Q : Exit → Act → World → Prop} {n : Nat} {f : Nat → Value} {u : List (Nat × Value)} {w : World} {next : Act → World → Prop}
variable {dst : Option Tmp} {ty : TypeId} {pos : String} {aft : Array Edge} {gd : Option (Nat × Bool)}

/-- A new block: a variable, a box. -/
theorem o_new {op : Op} (cs : List Value) (t : TypeId) (hg : Region.wanted ⟨dst, op, ty, pos, aft, gd⟩ (yielded ops (Fr n f u).tmps) = true)
    (hr : (execOp (evf n f u) ⟨dst, op, ty, pos, aft, gd⟩).run P w = .ok (.value (.pointer (some ⟨w.heap.size, 0, none⟩))) (w.alloc (.cells cs.toArray t)))
    (h : ∀ b w', b = w.heap.size → Evo [] w w' → Blk w' b cs t → next (Fr n f (pusho dst (.pointer (some ⟨b, 0, none⟩)) u)) w') : OpW P ops Q ⟨dst, op, ty, pos, aft, gd⟩ n f u w next :=
  o_val _ hg hr (h _ _ rfl (Evo.alloc _ _) (by have := Blk.new w cs.toArray t; simpa using this))

/-- A new row: a slice that is written out. -/
theorem o_row {op : Op} (cs : List Value) (t : TypeId) (m : Nat) (hg : Region.wanted ⟨dst, op, ty, pos, aft, gd⟩ (yielded ops (Fr n f u).tmps) = true)
    (hr : (execOp (evf n f u) ⟨dst, op, ty, pos, aft, gd⟩).run P w = .ok (.value (.slice (some ⟨w.heap.size, 0, none⟩) m m)) (w.alloc (.cells cs.toArray t)))
    (h : ∀ b w', b = w.heap.size → Evo [] w w' → Blk w' b cs t → next (Fr n f (pusho dst (.slice (some ⟨b, 0, none⟩) m m) u)) w') : OpW P ops Q ⟨dst, op, ty, pos, aft, gd⟩ n f u w next :=
  o_val _ hg hr (h _ _ rfl (Evo.alloc _ _) (by have := Blk.new w cs.toArray t; simpa using this))

theorem ble_le {a b : Nat} (h : Nat.ble a b = true) : a ≤ b := by rwa [Nat.ble_eq] at h
theorem Addr_add (b o k : Nat) : (⟨b, o, none⟩ : Addr).add k = ⟨b, o + k, none⟩ := by unfold Addr.add; split <;> simp_all

/-! loads -/
theorem x_load1 {t : TypeId} {x : Operand} {ad : Addr} {v : Value} (hx : evf n f u x = .pointer (some ad)) (ha : ∀ w, (isAgg t).run P w = .ok false w) (hc : w.cell? ad = some v) :
    (execOp (evf n f u) ⟨dst, .load t x, ty, pos, aft, gd⟩).run P w = .ok (.value v) w := by
  simp [execOp, Instr.loadAt, Instr.sureAddr, hx, loadVar, ha, hc]
theorem loadCells_at (b o : Nat) (xs : List Value) (hc : CellsAt w b o xs) : (loadCells ⟨b, o, none⟩ xs.length).run P w = .ok xs.toArray w := by
  have key : ∀ (ys : List Value) (i : Nat) (acc : Array Value), (∀ (j : Nat) (u : Value), ys[j]? = some u → w.cell? ⟨b, o + (i + j), none⟩ = some u) →
      (loadCellsFrom ⟨b, o, none⟩ i ys.length acc).run P w = .ok (acc ++ ys.toArray) w := by
    intro ys
    induction ys with
    | nil => intro i acc _; simp [loadCellsFrom]
    | cons y ys ih =>
      intro i acc h
      have h0 := h 0 y rfl
      simp only [Nat.add_zero] at h0
      simp only [List.length_cons, loadCellsFrom, Addr_add]
      rw [Sem.run_bind]
      have : (load ⟨b, o + i, none⟩).run P w = .ok y w := by simp [h0]
      rw [this, Result.andThen_ok, ih (i + 1) (acc.push y) (fun j u hj => by have := h (j + 1) u (by simpa using hj); rwa [show i + (j + 1) = i + 1 + j from by omega] at this)]
      simp
  have := key xs 0 #[] (fun j u hj => by rw [Nat.zero_add]; exact hc j u hj)
  simpa [loadCells] using this
theorem x_loadN {t : TypeId} {x : Operand} {b o : Nat} (xs : List Value) (hx : evf n f u x = .pointer (some ⟨b, o, none⟩)) (ha : ∀ w, (isAgg t).run P w = .ok true w) (hs : ∀ w, (sizeOf t).run P w = .ok xs.length w) (hc : CellsAt w b o xs) :
    (execOp (evf n f u) ⟨dst, .load t x, ty, pos, aft, gd⟩).run P w = .ok (.value (.agg xs.toArray)) w := by
  simp [execOp, Instr.loadAt, Instr.sureAddr, hx, loadVar, ha, hs, loadCells_at b o xs hc]
theorem Blk.cells {b : Nat} {cs : List Value} {t : TypeId} (h : Blk w b cs t) (o k : Nat) : CellsAt w b o ((cs.drop o).take k) := fun j u hj => by
  rw [List.getElem?_take] at hj
  split at hj
  · rw [h.cell, ← List.getElem?_drop]; exact hj
  · cases hj
theorem Blk.cells' {b : Nat} {cs xs : List Value} {t : TypeId} (h : Blk w b cs t) (o : Nat) (hx : (cs.drop o).take xs.length = xs) : CellsAt w b o xs := by
  have := h.cells o xs.length; rwa [hx] at this
theorem Blk.cell' {b : Nat} {cs : List Value} {t : TypeId} {v : Value} (h : Blk w b cs t) (o : Nat) (hx : cs[o]? = some v) : w.cell? ⟨b, o, none⟩ = some v := by rw [h.cell, hx]

/-! stores -/
theorem o_store {t bt : TypeId} {x y : Operand} {b o : Nat} {cs : List Value} {v : Value} (cs' : List Value) (hg : Region.wanted ⟨dst, .store t x y, ty, pos, aft, gd⟩ (yielded ops (Fr n f u).tmps) = true)
    (hB : Blk w b cs bt) (hx : evf n f u x = .pointer (some ⟨b, o, none⟩)) (hy : evf n f u y = v) (hs : ∀ w, (sizeOf t).run P w = .ok v.cells.size w)
    (hfit : Nat.ble (o + v.cells.size) cs.length = true) (h1 : v.cells.toList.all Value.oneCell' = true) (hcs : cs.take o ++ v.cells.toList ++ cs.drop (o + v.cells.size) = cs')
    (h : ∀ w', Evo [b] w w' → Blk w' b cs' bt → next (Fr n f (pusho dst undef u)) w') : OpW P ops Q ⟨dst, .store t x y, ty, pos, aft, gd⟩ n f u w next := by
  have hfit' : o + v.cells.size ≤ cs.length := ble_le hfit
  have hst := run_storeCells_at (P := P) b o bt v.cells.toList 0 cs.toArray w hB (by simpa using hfit') (fun u hu => by
    exact List.all_eq_true.1 h1 u hu)
  refine o_skip hg (w' := w.setRow b cs'.toArray) ?_ (h _ ?_ ?_)
  · have e : (cs.toArray.toList.take (o + 0) ++ v.cells.toList ++ cs.toArray.toList.drop (o + 0 + v.cells.toList.length)) = cs' := by
      simpa using hcs
    rw [e] at hst
    simp [execOp, Instr.storeAt, Instr.sureAddr, hx, hy, storeVar, hs, hst]
  · refine ⟨rfl, rfl, rfl, by simp, fun k _ hk => ?_⟩
    exact setRow_other w b k _ (fun e => hk (by simp [e]))
  · exact setRow_heap w b _ _ _ _ hB

/-! slices -/
theorem x_indexAddr {t : TypeId} {x ix : Operand} {b o m c sz i : Nat} {k : IntKind} {e : Int} {et : TypeId} (ht : P.underlying t = some (.slice et)) (hs : ∀ w, (sizeOf et).run P w = .ok sz w)
    (hx : evf n f u x = .slice (some ⟨b, o, none⟩) m c) (hi : evf n f u ix = .int k e) (he : e = (i : Int)) (hlt : i < m) :
    (execOp (evf n f u) ⟨dst, .indexAddr t x ix, ty, pos, aft, gd⟩).run P w = .ok (.value (.pointer (some ⟨b, o + i * sz, none⟩))) w := by
  subst he
  have h0 : (0 : Int) ≤ (i : Int) := Int.natCast_nonneg _
  simp [execOp, Instr.indexAt, asIntOf, hx, hi, run_underlying ht, hlt, hs, Addr_add]

theorem Sl.cut {α : Type} {R : Rep α} {X : List Nat} {a : Option Addr} {c : Nat} {L : List α} (h : Sl R X w a c L) (lo hi : Nat) (h1 : lo ≤ hi) (h2 : hi ≤ L.length) :
    Sl R X w (if c = lo then a else a.map (·.add (lo * R.n))) (c - lo) ((L.take hi).drop lo) := by
  obtain ⟨hc, hm, h3⟩ := h
  refine ⟨by simp; omega, by omega, ?_⟩
  rcases h3 with ⟨rfl, hz⟩ | ⟨b, o, xs, rfl, hb, hl, hcs, hf⟩
  · refine .inl ⟨by simp, ?_⟩
    have : lo = 0 := by simp at h2; omega
    subst this
    split
    · intro; omega
    · intro ha; simp at ha; have := hz ha; omega
  · by_cases he : (L.take hi).drop lo = []
    · refine .inl ⟨he, ?_⟩
      split <;> simp
    · have hlt : lo < c := by
        rcases Nat.lt_or_ge lo c with h | h
        · exact h
        · exact absurd (List.drop_eq_nil_of_le (by simp; omega)) he
      rw [if_neg (by omega)]
      refine .inr ⟨b, o + lo * R.n, (xs.take (hi * R.n)).drop (lo * R.n), by simp [Addr_add], hb, hl, (hcs.take _).drop _, ?_⟩
      exact (hf.take hi).drop lo

theorem x_slice {t : TypeId} {x : Operand} {et : TypeId} {sz : Nat} {a : Option Addr} {m c lo hi mx : Nat} {lx hx mxx : Option Operand} (ht : P.underlying t = some (.slice et)) (hs : ∀ w, (sizeOf et).run P w = .ok sz w)
    (hxx : evf n f u x = .slice a m c)
    (hl : (lx.map (evf n f u) = none ∧ lo = 0) ∨ ∃ k, lx.map (evf n f u) = some (.int k (lo : Int)))
    (hh : (hx.map (evf n f u) = none ∧ hi = m ∧ mxx = none) ∨ ∃ k, hx.map (evf n f u) = some (.int k (hi : Int)))
    (hmx : (mxx = none ∧ mx = c) ∨ ∃ k, mxx.map (evf n f u) = some (.int k (mx : Int))) (hmm : m ≤ c)
    (h1 : lo ≤ hi) (h2 : hi ≤ mx) (h3 : mx ≤ c) :
    (execOp (evf n f u) ⟨dst, .slice t x lx hx mxx, ty, pos, aft, gd⟩).run P w = .ok (.value (.slice (if mx = lo then a else a.map (·.add (lo * sz))) (hi - lo) (mx - lo))) w := by
  have e1 : (0 : Int) ≤ (lo : Int) := Int.natCast_nonneg _
  have e2 : (0 : Int) ≤ (hi : Int) := Int.natCast_nonneg _
  have e3 : (0 : Int) ≤ (mx : Int) := Int.natCast_nonneg _
  have hb : (Instr.sliceBounds true m c (lx.map (evf n f u)) (hx.map (evf n f u)) (mxx.map (evf n f u))).run P w = .ok (lo, hi, mx) w := by
    rcases hmx with ⟨rfl, rfl⟩ | ⟨k3, hk3⟩
    · rcases hh with ⟨hh, rfl, _⟩ | ⟨k2, hk2⟩
      · rcases hl with ⟨hl, rfl⟩ | ⟨k1, hk1⟩
        · rw [hl, hh]; simp [Instr.sliceBounds]
        · rw [hk1, hh]; simp [Instr.sliceBounds, run_sliceBound, e1, h1]
      · rcases hl with ⟨hl, rfl⟩ | ⟨k1, hk1⟩
        · rw [hl, hk2]; simp [Instr.sliceBounds, run_sliceBound, e2, h2]
        · rw [hk1, hk2]; simp [Instr.sliceBounds, run_sliceBound, e1, h1, e2, h2]
    · rcases hh with ⟨_, _, rfl⟩ | ⟨k2, hk2⟩
      · cases hk3
      · rcases hl with ⟨hl, rfl⟩ | ⟨k1, hk1⟩
        · rw [hl, hk2, hk3]; simp [Instr.sliceBounds, run_sliceBound, e2, h2, e3, h3]
        · rw [hk1, hk2, hk3]; simp [Instr.sliceBounds, run_sliceBound, e1, h1, e2, h2, e3, h3]
  simp [execOp, Instr.sliceAt, Instr.slice, run_underlying ht, hxx, hb, hs]

/-- 'x[lo:hi]' of a slice that is read; hi at most its length. -/
theorem o_slice {α : Type} {R : Rep α} {X : List Nat} {t : TypeId} {x : Operand} {et : TypeId} {a : Option Addr} {m c : Nat} {L : List α} {lx hx : Option Operand} (lo hi : Nat) (L' : List α)
    (hg : Region.wanted ⟨dst, .slice t x lx hx none, ty, pos, aft, gd⟩ (yielded ops (Fr n f u).tmps) = true)
    (ht : P.underlying t = some (.slice et)) (hs : ∀ w, (sizeOf et).run P w = .ok R.n w) (hS : Sl R X w a c L) (hxx : evf n f u x = .slice a m c) (hm : m = L.length)
    (hl : (lx.map (evf n f u) = none ∧ lo = 0) ∨ ∃ k, lx.map (evf n f u) = some (.int k (lo : Int)))
    (hh : (hx.map (evf n f u) = none ∧ hi = m ∧ (none : Option Operand) = none) ∨ ∃ k, hx.map (evf n f u) = some (.int k (hi : Int)))
    (h1 : lo ≤ hi) (h2 : hi ≤ L.length) (hL : L' = (L.take hi).drop lo)
    (h : ∀ a' c', Sl R X w a' c' L' → next (Fr n f (pusho dst (.slice a' L'.length c') u)) w) : OpW P ops Q ⟨dst, .slice t x lx hx none, ty, pos, aft, gd⟩ n f u w next := by
  subst hL; subst hm
  have hc := hS.1
  refine o_val _ hg (x_slice (lo := lo) (hi := hi) (mx := c) ht hs hxx hl hh (.inl ⟨rfl, rfl⟩) hc h1 (by omega) (Nat.le_refl _)) ?_
  have := h _ _ (hS.cut lo hi h1 h2)
  rwa [show ((L.take hi).drop lo).length = hi - lo from by simp; omega] at this

/-- A row that is written out is a slice of data. -/
theorem Blk.flat {α : Type} {R : Rep α} {X : List Nat} {b : Nat} {cs : List Value} {t : TypeId} {L : List α} (h : Blk w b cs t) (hb : b ∉ X) (hf : Flat R X w cs L) (c : Nat) (hc : L.length = c) (hm : c ≤ maxLen) :
    Sl R X w (some ⟨b, 0, none⟩) c L := by
  subst hc
  exact ⟨Nat.le_refl _, hm, .inr ⟨b, 0, cs, rfl, hb, h.lt, fun j u hj => by rw [Nat.zero_add, h.cell]; exact hj, hf⟩⟩
theorem Blk.own {α : Type} {R : Rep α} {X : List Nat} {b base : Nat} {cs : List Value} {t : TypeId} {L : List α} (h : Blk w b cs t) (hb : b ∈ X) (hf : Flat R X w cs L) (c : Nat) (hc : L.length = c) (hm : c ≤ maxLen) (hbase : base ≤ b) :
    Own R X w base t (some ⟨b, 0, none⟩) c L := by
  subst hc
  refine ⟨Nat.le_trans hbase (Nat.le_of_lt h.lt), fun x hx => by simp [blkL] at hx; subst hx; exact hb, cs, ⟨hf.length, .inr ⟨b, _, _, rfl, hbase, h, Nat.le_refl _, hm, by simp [hf.length], ?_⟩⟩, hf⟩
  rw [← hf.length]; simp

/-! append -/
theorem run_app (base : Nat) (t ty e : TypeId) (i : TypeInfo) (z : Value) (size bytes : Nat) (ht : P.underlying t = some (.slice e)) (hi : P.info? e = some i) (hz : i.zero = some z)
    (hsize : i.size = size) (hby : i.bytes = bytes) (hzs : z.cells.size = size) (hsz : 0 < size) {a0 : Option Addr} {c0 : Nat}
    (n : Nat) (xs : List Value) (hown : w.ownsRow base e size (.slice a0 n c0) n xs)
    (a : Addr) (m c : Nat) (news : List Value) (hl : news.length = m * size) (hnews : ∀ j u, news[j]? = some u → w.cell? (a.add j) = some u) (h1 : ∀ u ∈ news, u.oneCell' = true)
    (h63 : n + m ≤ maxLen) (hbytes : (n + m) * bytes ≤ 140737488355328) (hbase : base ≤ w.heap.size) :
    ∃ a' c' w', (Builtin.append_ #[t, t] ty #[.slice a0 n c0, .slice (some a) m c]).run P w = .ok (.slice a' (n + m) c') w' ∧ w'.ownsRow base e size (.slice a' (n + m) c') (n + m) (xs ++ news) ∧
      w.grownBy w' (Value.ownBlock (.slice a0 n c0)) ∧ (∀ b ∈ blkL a', b ∈ blkL a0 ∨ b = w.heap.size) := by
  obtain ⟨v', w', hr, hown', hgr, _⟩ := run_append_own (P := P) w base t ty e i z size bytes ht hi hz hsize hby hzs hsz (.slice a0 n c0) n xs hown a m c news hl hnews h1 h63 hbytes hbase
  have hform : ∃ a' c', v' = .slice a' (n + m) c' := by
    rcases hown'.2 with ⟨rfl, h0⟩ | ⟨g, cap, cur, rfl, _⟩
    · exact ⟨none, 0, by rw [h0]⟩
    · exact ⟨_, _, rfl⟩
  obtain ⟨a', c', rfl⟩ := hform
  refine ⟨a', c', w', hr, hown', hgr, ?_⟩
  have hsmall : n + m ≤ 9223372036854775807 := by simp only [maxLen] at h63; omega
  subst hsize
  subst hby
  rcases hown.2 with ⟨hv, h0⟩ | ⟨g, cap, cur, hv, hbg, hg, hnc, hcm, hcs, htake⟩
  · injection hv with e1 e2 e3
    subst e1; subst e3; subst h0
    by_cases hm : m = 0
    · subst hm
      rcases hown'.2 with ⟨hv', _⟩ | ⟨g', cap', cur', hv', hb', hg', _⟩
      · injection hv' with e1 _ _; subst e1; intro b hb; cases hb
      · have hn : news = [] := List.eq_nil_of_length_eq_zero (by simpa using hl)
        subst hn
        have : (Builtin.append_ #[t, t] ty #[.slice none 0 0, .slice (some a) 0 c]).run P w = .ok (.slice none 0 0) w := by
          simp [Builtin.append_, run_underlying ht, sizeOf, typeInfo, hi, Builtin.lenOf, Builtin.firstCells, loadCells, loadCellsFrom]
        rw [this] at hr
        injection hr with e1 _
        injection e1 with e2 _ _
        subst e2; intro b hb; cases hb
    · have hr2 := run_append_nil (P := P) w t ty e i z ht hi hz a m c news hl hnews (by omega) (by omega) (by have hb := hbytes; simp only [Nat.zero_add] at hb; omega)
      rw [hr2] at hr
      injection hr with e1 _
      injection e1 with e2 _ _
      subst e2; intro b hb; simp [blkL] at hb; exact .inr hb
  · injection hv with e1 e2 e3
    subst e1; subst e3
    by_cases hroom : n + m ≤ c0
    · have hfit : n * i.size + news.length ≤ cur.size := by rw [hl, hcs, ← Nat.add_mul]; exact Nat.mul_le_mul_right _ hroom
      have hr2 := run_append_room (P := P) w t ty e i ht hi g n c0 cur hg a m c news hl hnews h1 hroom hfit
      rw [hr2] at hr
      injection hr with e1 _
      injection e1 with e2 _ _
      subst e2; intro b hb; exact .inl hb
    · have holds : ∀ j u, xs[j]? = some u → w.cell? ((⟨g, 0, none⟩ : Addr).add j) = some u := hown.cells (g := g) rfl
      have hr2 := run_append_grow (P := P) w t ty e i z ht hi hz ⟨g, 0, none⟩ n c0 xs hown.1 holds a m c news hl hnews (by omega) (by omega) (growslice_fits (by omega) hbytes)
      rw [hr2] at hr
      injection hr with e1 _
      injection e1 with e2 _ _
      subst e2; intro b hb; simp [blkL] at hb; exact .inr hb

/-- The facts on an element type that append and make ask. -/
structure ElemT (P : Program) (t et size bytes : Nat) : Prop where
  ex : ∃ (i : TypeInfo) (z : Value), P.info? et = some i ∧ i.zero = some z ∧ i.size = size ∧ i.bytes = bytes ∧ z.cells.size = size
  under : P.underlying t = some (.slice et)
  size_of : ∀ w, (sizeOf et).run P w = .ok size w
  pos : 0 < size
  bpos : 0 < bytes

/-- What may be appended. -/
def Src {α : Type} (R : Rep α) (X : List Nat) (w : World) (a : Option Addr) (c : Nat) (L : List α) : Prop :=
  (L = [] ∧ (a = none → c = 0)) ∨ ∃ b o xs, a = some ⟨b, o, none⟩ ∧ CellsAt w b o xs ∧ Flat R X w xs L
theorem Sl.src {α : Type} {R : Rep α} {X : List Nat} {a : Option Addr} {c : Nat} {L : List α} (h : Sl R X w a c L) : Src R X w a c L :=
  h.2.2.imp id fun ⟨b, o, xs, h1, _, _, h2, h3⟩ => ⟨b, o, xs, h1, h2, h3⟩
theorem Blk.src {α : Type} {R : Rep α} {X : List Nat} {b c : Nat} {cs : List Value} {t : TypeId} {L : List α} (h : Blk w b cs t) (hf : Flat R X w cs L) : Src R X w (some ⟨b, 0, none⟩) c L :=
  .inr ⟨b, 0, cs, rfl, (fun j u hj => by rw [Nat.zero_add, h.cell]; exact hj), hf⟩

/-- 'append(x, y...)', x ours, y read. -/
theorem o_append {α : Type} {R : Rep α} {X : List Nat} {base : Nat} {t t' et bytes : TypeId} {x y : Operand} {a a2 : Option Addr} {c c2 m1 m2 : Nat} {L M : List α}
    (hg : Region.wanted ⟨dst, .call ⟨.builtin .append, #[x, y], #[t, t']⟩, ty, pos, aft, gd⟩ (yielded ops (Fr n f u).tmps) = true)
    (ht : ElemT P t et R.n bytes) (htt : t' = t)
    (hO : Own R X w base et a c L) (hS : Src R X w a2 c2 M) (hx : evf n f u x = .slice a m1 c) (hy : evf n f u y = .slice a2 m2 c2) (hm1 : m1 = L.length) (hm2 : m2 = M.length)
    (hb : (L.length + M.length) * bytes ≤ 140737488355328)
    (h : ∀ a' c' w' X', Step X w (blkL a) X' w' → X' = blkL a' ++ X → (∀ b ∈ blkL a', b ∈ blkL a ∨ b = w.heap.size) → Own R X' w' base et a' c' (L ++ M) → next (Fr n f (pusho dst (.slice a' (L ++ M).length c') u)) w') :
    OpW P ops Q ⟨dst, .call ⟨.builtin .append, #[x, y], #[t, t']⟩, ty, pos, aft, gd⟩ n f u w next := by
  subst htt; subst hm1; subst hm2
  obtain ⟨⟨i, z, hi, hz, hsz, hby, hzs⟩, hu, _, hpos, hbp⟩ := ht
  obtain ⟨hbase, hmem, xs, ho, hf⟩ := hO
  have hlen : L.length + M.length ≤ maxLen := by
    have : L.length + M.length ≤ 140737488355328 := Nat.le_trans (Nat.le_mul_of_pos_right _ hbp) hb
    unfold maxLen; omega
  have hrun : ∃ a' c' w' ys, (Builtin.append_ #[t', t'] ty #[.slice a L.length c, .slice a2 M.length c2]).run P w = .ok (.slice a' (L.length + M.length) c') w' ∧
      w.grownBy w' (Value.ownBlock (.slice a L.length c)) ∧ w'.ownsRow base et R.n (.slice a' (L.length + M.length) c') (L.length + M.length) (xs ++ ys) ∧ Flat R X w ys M ∧ (∀ b ∈ blkL a', b ∈ blkL a ∨ b = w.heap.size) := by
    rcases hS with ⟨rfl, hz2⟩ | ⟨b, o, ys, rfl, hcs, hfl⟩
    · cases a2 with
      | some ad =>
        obtain ⟨a', c', w', hr, h1, h2, h3⟩ := run_app (P := P) base t' ty et i z R.n bytes hu hi hz hsz hby hzs hpos L.length xs ho ad 0 c2 [] (by simp) (fun j u hj => by simp at hj) (by simp) (by simpa using hlen) (by simpa using hb) hbase
        exact ⟨a', c', w', [], hr, h2, h1, rfl, h3⟩
      | none =>
        have hc2 := hz2 rfl
        subst hc2
        have := run_append_owned_none (P := P) (w := w) base t' ty et i R.n hu hi (.slice a L.length c) L.length xs ho
        exact ⟨a, c, w, [], by simpa using this, ⟨rfl, rfl, rfl, Nat.le_refl _, fun _ _ _ => rfl⟩, by simpa using ho, rfl, fun b hb => .inl hb⟩
    · obtain ⟨a', c', w', hr, h1, h2, h3⟩ := run_app (P := P) base t' ty et i z R.n bytes hu hi hz hsz hby hzs hpos L.length xs ho ⟨b, o, none⟩ M.length c2 ys hfl.length (fun j u hj => by rw [Addr_add]; exact hcs j u hj) (fun u hu => hfl.one u hu) hlen hb hbase
      exact ⟨a', c', w', ys, hr, h2, h1, hfl, h3⟩
  obtain ⟨a', c', w', ys, hr, hgr, hown, hfl, hnew⟩ := hrun
  have hev : Evo (blkL a) w w' := ⟨hgr.os, hgr.tape, hgr.output, hgr.size, fun b hb hn => hgr.block b hb (fun e => hn ((ownBlock_blkL _ _ _ _).1 e.symm))⟩
  have hst : Step X w (blkL a) (blkL a' ++ X) w' := by
    refine ⟨hev, hmem, fun b hb => List.mem_append_right _ hb, fun b hb => ?_⟩
    rcases List.mem_append.1 hb with h | h
    · rcases hnew b h with h1 | h1
      · exact .inl (hmem b h1)
      · exact .inr ⟨by omega, (hown.lt b ((ownBlock_blkL _ _ _ _).2 h)).2⟩
    · exact .inl h
  refine o_val (w' := w') (.slice a' (L ++ M).length c') hg ?_ (h a' c' w' _ hst rfl hnew ?_)
  · have hex : (execOp (evf n f u) ⟨dst, .call ⟨.builtin .append, #[x, y], #[t', t']⟩, ty, pos, aft, gd⟩).run P w = ((Builtin.append_ #[t', t'] ty #[.slice a L.length c, .slice a2 M.length c2]).run P w).andThen fun v w' => .ok (.value v) w' := by
      unfold execOp
      simp only [resolve, invoke, builtin, Sem.run_bind, Sem.run_pure, Result.andThen_ok, List.map_toArray, List.map_cons, List.map_nil, hx, hy]
    rw [hex, hr, List.length_append]
    rfl
  · refine ⟨Nat.le_trans hbase hgr.size, fun b hb => List.mem_append_left _ hb, xs ++ ys, by rw [List.length_append]; exact hown, ?_⟩
    exact ((hf.append hfl).sub hst.new).evo hst.evo (hst.sub.trans hst.up)


/-! numbers -/
theorem wrap_i64 {r : Int} (h1 : -9223372036854775808 ≤ r) (h2 : r ≤ 9223372036854775807) : IntKind.i64.wrap r = r := by
  rw [IntKind.wrap_i64]; omega
theorem x_add {t t' : TypeId} {x y : Operand} {k : IntKind} {a b : Int} (r : Int) (hx : evf n f u x = .int k a) (hy : evf n f u y = .int k b) (he : a + b = r) (hw : k.wrap r = r) :
    (execOp (evf n f u) ⟨dst, .binOp .add t x y t', ty, pos, aft, gd⟩).run P w = .ok (.value (.int k r)) w := by
  subst he; simp [execOp, hx, hy, eqGuard, binOp, Op.intArith, hw]
theorem x_sub {t t' : TypeId} {x y : Operand} {k : IntKind} {a b : Int} (r : Int) (hx : evf n f u x = .int k a) (hy : evf n f u y = .int k b) (he : a - b = r) (hw : k.wrap r = r) :
    (execOp (evf n f u) ⟨dst, .binOp .sub t x y t', ty, pos, aft, gd⟩).run P w = .ok (.value (.int k r)) w := by
  subst he; simp [execOp, hx, hy, eqGuard, binOp, Op.intArith, hw]
theorem x_mul {t t' : TypeId} {x y : Operand} {k : IntKind} {a b : Int} (r : Int) (hx : evf n f u x = .int k a) (hy : evf n f u y = .int k b) (he : a * b = r) (hw : k.wrap r = r) :
    (execOp (evf n f u) ⟨dst, .binOp .mul t x y t', ty, pos, aft, gd⟩).run P w = .ok (.value (.int k r)) w := by
  subst he; simp [execOp, hx, hy, eqGuard, binOp, Op.intArith, hw]
theorem x_rem {t t' : TypeId} {x y : Operand} {k : IntKind} {a b : Int} (r : Int) (hx : evf n f u x = .int k a) (hy : evf n f u y = .int k b) (h0 : 0 ≤ a) (hb : 0 < b) (he : a % b = r) :
    (execOp (evf n f u) ⟨dst, .binOp .rem t x y t', ty, pos, aft, gd⟩).run P w = .ok (.value (.int k r)) w := by
  subst he
  have : ¬ b = 0 := by omega
  have e : a.tmod b = a % b := Int.tmod_eq_emod_of_nonneg h0
  simp [execOp, hx, hy, eqGuard, binOp, Op.intDiv, this, e]
theorem x_quo {t t' : TypeId} {x y : Operand} {k : IntKind} {a b : Int} (r : Int) (hx : evf n f u x = .int k a) (hy : evf n f u y = .int k b) (h0 : 0 ≤ a) (hb : 0 < b) (he : a / b = r) (hw : k.wrap r = r) :
    (execOp (evf n f u) ⟨dst, .binOp .quo t x y t', ty, pos, aft, gd⟩).run P w = .ok (.value (.int k r)) w := by
  subst he
  have : ¬ b = 0 := by omega
  have e : a.tdiv b = a / b := Int.tdiv_eq_ediv_of_nonneg h0
  simp [execOp, hx, hy, eqGuard, binOp, Op.intDiv, this, e, hw]
theorem x_conv {s d : TypeId} {x : Operand} {k k' : IntKind} {a : Int} {sd : TypeDesc} (hs : P.underlying s = some sd) (hd : P.underlying d = some (.int k')) (hx : evf n f u x = .int k a) (hw : k'.wrap a = a) :
    (execOp (evf n f u) ⟨dst, .convert s d x, ty, pos, aft, gd⟩).run P w = .ok (.value (.int k' a)) w := by
  simp [execOp, convert, run_underlying hs, run_underlying hd, hx, Conv.intToInt, hw]

/-! strings -/
theorem toList_beq (a b : ByteArray) : (a.toList == b.toList) = decide (a = b) := by
  by_cases h : a = b
  · subst h; simp
  · have : a.toList ≠ b.toList := fun e => h (by
      have := congrArg (fun l : List UInt8 => (⟨l.toArray⟩ : ByteArray)) e
      have h2 : a.data = b.data := by simpa [ByteArray.toList_eq] using this
      cases a; cases b; simp at h2; rw [h2])
    simp [this, h]
theorem x_streq {t t' : TypeId} {x y : Operand} {a b : ByteArray} (hx : evf n f u x = .string a) (hy : evf n f u y = .string b) :
    (execOp (evf n f u) ⟨dst, .binOp .eql t x y t', ty, pos, aft, gd⟩).run P w = .ok (.value (.bool (decide (a = b)))) w := by
  simp [execOp, hx, hy, eqGuard, binOp, Op.stringOp, toList_beq]
theorem x_strne {t t' : TypeId} {x y : Operand} {a b : ByteArray} (hx : evf n f u x = .string a) (hy : evf n f u y = .string b) :
    (execOp (evf n f u) ⟨dst, .binOp .neq t x y t', ty, pos, aft, gd⟩).run P w = .ok (.value (.bool (!decide (a = b)))) w := by
  simp [execOp, hx, hy, eqGuard, binOp, Op.stringOp, toList_beq]

theorem x_b2s {s d et : TypeId} {x : Operand} {b o len c : Nat} (xs : List Int) (hs : P.underlying s = some (.slice et)) (he : P.underlying et = some (.int .u8)) (hd : P.underlying d = some .string)
    (hx : evf n f u x = .slice (some ⟨b, o, none⟩) len c) (hl : xs.length = len) (hc : CellsAt w b o (xs.map (Value.int .u8))) :
    (execOp (evf n f u) ⟨dst, .convert s d x, ty, pos, aft, gd⟩).run P w = .ok (.value (.string (strOfNums xs))) w := by
  have := run_convert_bytes_arg (P := P) w s et hs he b o len c xs hl (fun i hi => by
    refine hc i _ ?_
    rw [List.getElem?_map, List.getElem?_eq_getElem (by omega)]
    simp [List.getD, List.getElem?_eq_getElem (show i < xs.length by omega)]) d hd
  simp [execOp, hx, this]
theorem Flat.u8 {X : List Nat} : ∀ {L : List Int} {xs : List Value}, Flat (rInt .u8) X w xs L → xs = L.map (Value.int .u8)
  | [], _, h => h
  | _ :: _, _, ⟨cs, r, e, h1, h2⟩ => by
    have h3 := Flat.u8 h2
    subst e; subst h3
    rw [h1.1]; rfl
theorem x_b2s_sl {X : List Nat} {s d et : TypeId} {x : Operand} {a : Option Addr} {len c : Nat} (L : List Int) (hs : P.underlying s = some (.slice et)) (he : P.underlying et = some (.int .u8)) (hd : P.underlying d = some .string)
    (hx : evf n f u x = .slice a len c) (hl : len = L.length) (hS : Sl (rInt .u8) X w a c L) :
    (execOp (evf n f u) ⟨dst, .convert s d x, ty, pos, aft, gd⟩).run P w = .ok (.value (.string (strOfNums L))) w := by
  subst hl
  rcases hS.2.2 with ⟨rfl, _⟩ | ⟨b, o, xs, rfl, _, _, hc, hf⟩
  · cases a with
    | none =>
      have := run_convert_bytes_nil (P := P) w s et hs he 0 c d hd
      simp only [List.length_nil] at hx
      simp [execOp, hx, this]; rfl
    | some ad =>
      have h0 : (convert s d (.slice (some ad) 0 c)).run P w = .ok (.string (strOfNums [])) w := by
        rw [run_convert_bytes_string w s d et _ 0 c hs he hd, run_bytesToString w _ 0 c [] (by simp [loadCells, loadCellsFrom])]
        rfl
      simp only [List.length_nil] at hx
      simp [execOp, hx, h0]
  · rw [hf.u8] at hc
    exact x_b2s L hs he hd hx rfl hc

/-! what goes on, seen from the beginning; other blocks -/
theorem RB.then1 {B : Nat} {F : List Nat} {a b c : World} {x : Nat} (h : RB B F a b) (k : Evo [x] b c) (hB : B ≤ b.heap.size) (hx : B ≤ x) : RB B F a c :=
  h.then k hB fun y hy => by simp at hy; subst hy; exact Or.inr hx
theorem Evo.then1 {F : List Nat} {a b c : World} {x : Nat} (h : Evo F a b) (k : Evo [x] b c) (hx : a.heap.size ≤ x) : Evo F a c := RB.then1 h k h.size hx
theorem Evo.thenO {α : Type} {R : Rep α} {X F : List Nat} {a b c : World} {et : TypeId} {ad : Option Addr} {cp : Nat} {L : List α} (h : Evo F a b) (k : Evo (blkL ad) b c) {base : Nat} (ho : Own R X b base et ad cp L) (hb : a.heap.size ≤ base) : Evo F a c :=
  h.then k fun x hx => Or.inr (Nat.le_trans hb (ho.lt x hx).1)
theorem Blk.rb {w' : World} {B b : Nat} {F : List Nat} {cs : List Value} {t : TypeId} (h : Blk w b cs t) (e : RB B F w w') (hb : b < B) (hf : b ∉ F) : Blk w' b cs t := (e.keep b hb hf).trans h
theorem CellsAt.rb {w' : World} {B b o : Nat} {F : List Nat} {xs : List Value} (h : CellsAt w b o xs) (e : RB B F w w') (hb : b < B) (hf : b ∉ F) : CellsAt w' b o xs := fun j u hj => by
  have := World.cell?_of_block (w := w) (w' := w') (a := ⟨b, o + j, none⟩) (e.keep b hb hf)
  rw [this]; exact h j u hj
/-- The one cell of an element. -/
theorem CellsAt.one {b o : Nat} {v : Value} (h : CellsAt w b o [v]) : w.cell? ⟨b, o, none⟩ = some v := by simpa using h 0 v rfl

theorem wrap_eq (k : IntKind) {r : Int} (h1 : k.min ≤ r) (h2 : r ≤ k.max) : k.wrap r = r := by
  cases k <;> simp [IntKind.wrap, IntKind.min, IntKind.max, IntKind.signed, IntKind.bits] at * <;> omega
theorem wrap_u8 {r : Int} (h1 : 0 ≤ r) (h2 : r ≤ 255) : IntKind.u8.wrap r = r := wrap_eq .u8 (by simpa [IntKind.min, IntKind.signed] using h1) (by simpa [IntKind.max, IntKind.signed, IntKind.bits] using h2)
theorem wrap_u32 {r : Int} (h1 : 0 ≤ r) (h2 : r ≤ 4294967295) : IntKind.u32.wrap r = r := wrap_eq .u32 (by simpa [IntKind.min, IntKind.signed] using h1) (by simpa [IntKind.max, IntKind.signed, IntKind.bits] using h2)
theorem wrap_u64 {r : Int} (h1 : 0 ≤ r) (h2 : r ≤ 18446744073709551615) : IntKind.u64.wrap r = r := wrap_eq .u64 (by simpa [IntKind.min, IntKind.signed] using h1) (by simpa [IntKind.max, IntKind.signed, IntKind.bits] using h2)
theorem x_max {t1 t2 : TypeId} {x y : Operand} {k : IntKind} {a b : Int} (r : Int) (hx : evf n f u x = .int k a) (hy : evf n f u y = .int k b) (he : max a b = r) :
    (execOp (evf n f u) ⟨dst, .call ⟨.builtin .max, #[x, y], #[t1, t2]⟩, ty, pos, aft, gd⟩).run P w = .ok (.value (.int k r)) w := by
  subst he
  have : (if b > a then b else a) = max a b := by simp only [Int.max_def]; split <;> split <;> omega
  simp [execOp, resolve, invoke, builtin, Builtin.max_, Builtin.max2, hx, hy, ← this]
theorem x_min {t1 t2 : TypeId} {x y : Operand} {k : IntKind} {a b : Int} (r : Int) (hx : evf n f u x = .int k a) (hy : evf n f u y = .int k b) (he : min a b = r) :
    (execOp (evf n f u) ⟨dst, .call ⟨.builtin .min, #[x, y], #[t1, t2]⟩, ty, pos, aft, gd⟩).run P w = .ok (.value (.int k r)) w := by
  subst he
  have : (if b < a then b else a) = min a b := by simp only [Int.min_def]; split <;> split <;> omega
  simp [execOp, resolve, invoke, builtin, Builtin.min_, Builtin.min2, hx, hy, ← this]
theorem x_nn {t : TypeId} {x : Operand} (p : Prop) [Decidable p] (hx : evf n f u x = .bool (!decide p)) :
    (execOp (evf n f u) ⟨dst, .unOp .not t x, ty, pos, aft, gd⟩).run P w = .ok (.value (.bool (decide p))) w := by
  simp [execOp, Op.unary, hx]
theorem elemT_mk {t et size bytes : Nat} {i : TypeInfo} {z : Value} (hi : P.info? et = some i) (hz : i.zero = some z) (hs : (i.size, i.bytes) = (size, bytes)) (hzs : z.cells.size = size) (hu : P.underlying t = some (.slice et))
    (hso : ∀ w, (sizeOf et).run P w = .ok size w) (h1 : 0 < size) (h2 : 0 < bytes) : ElemT P t et size bytes := by
  injection hs with e1 e2
  exact ⟨⟨i, z, hi, hz, e1, e2, hzs⟩, hu, hso, h1, h2⟩

/-- 'x[:hi:max]' of a slice that is read. -/
theorem o_slice3 {α : Type} {R : Rep α} {X : List Nat} {t : TypeId} {x hx mx : Operand} {et : TypeId} {a : Option Addr} {m c : Nat} {L : List α} (hi mx' : Nat) (L' : List α)
    (ht : P.underlying t = some (.slice et)) (hs : ∀ w, (sizeOf et).run P w = .ok R.n w) (hS : Sl R X w a c L) (hxx : evf n f u x = .slice a m c) (hm : m = L.length)
    (hg : Region.wanted ⟨dst, .slice t x none (some hx) (some mx), ty, pos, aft, gd⟩ (yielded ops (Fr n f u).tmps) = true)
    (hh : (none : Option Nat) = some 0 ∨ ∃ k, (some hx).map (evf n f u) = some (.int k (hi : Int)))
    (hmx : (none : Option Nat) = some 0 ∨ ∃ k, (some mx).map (evf n f u) = some (.int k (mx' : Int)))
    (h1 : hi ≤ mx' ∧ mx' ≤ c ∧ hi ≤ L.length) (hL : L' = L.take hi)
    (h : ∀ a', Sl R X w a' mx' L' → next (Fr n f (pusho dst (.slice a' L'.length mx') u)) w) : OpW P ops Q ⟨dst, .slice t x none (some hx) (some mx), ty, pos, aft, gd⟩ n f u w next := by
  subst hL; subst hm
  have hc := hS.1
  have hh := hh.resolve_left (by simp)
  have hmx := hmx.resolve_left (by simp)
  refine o_pv _ hg (x_slice (lo := 0) (hi := hi) (mx := mx') ht hs hxx (.inl ⟨rfl, rfl⟩) (.inr hh) (.inr hmx) hc (Nat.zero_le _) h1.1 h1.2.1) ?_
  have hsl : Sl R X w (if mx' = 0 then a else a.map (·.add (0 * R.n))) mx' (L.take hi) := by
    obtain ⟨_, hcm, h3⟩ := hS.cut 0 hi (Nat.zero_le _) h1.2.2
    refine ⟨by simp; omega, by omega, ?_⟩
    have e : (if mx' = 0 then a else a.map (·.add (0 * R.n))) = a := by
      split
      · rfl
      · cases a with
        | none => rfl
        | some ad => simp [Addr.add]
    have e2 : (if c = 0 then a else a.map (·.add (0 * R.n))) = a := by
      split
      · rfl
      · cases a with
        | none => rfl
        | some ad => simp [Addr.add]
    rw [e2] at h3
    rw [e]
    simp only [List.drop_zero] at h3
    rcases h3 with ⟨h3, h4⟩ | h3
    · exact .inl ⟨h3, fun ha => by have := h4 ha; omega⟩
    · exact .inr h3
  have := h _ hsl
  rwa [show (L.take hi).length = hi - 0 from by simp; omega] at this

/-! results -/
/-- What a result's variable holds in the end. -/
def ResV (P : Program) (tmps : Array Value) (w : World) (r : ResultVar) (v : Value) : Prop :=
  (match r with | .tmp t => pure (tmps.getD t undef) | .cell a t => do loadVar t (← asAddr (tmps.getD a undef)) : Sem Value).run P w = .ok v w
theorem rs_tmp {tmps : Array Value} {t : Tmp} {v : Value} (h : tmps.getD t undef = v) : ResV P tmps w (.tmp t) v := by subst h; rfl
theorem rs_agg {tmps : Array Value} {t : Tmp} {ct : TypeId} {b o : Nat} (xs : List Value) (h : tmps.getD t undef = .pointer (some ⟨b, o, none⟩)) (ha : ∀ w, (isAgg ct).run P w = .ok true w) (hs : ∀ w, (sizeOf ct).run P w = .ok xs.length w) (hc : CellsAt w b o xs) :
    ResV P tmps w (.cell t ct) (.agg xs.toArray) := by
  unfold ResV; simp only []; rw [h]; simp [asAddr, loadVar, ha, hs, loadCells_at b o xs hc]
theorem rs_one {tmps : Array Value} {t : Tmp} {ct : TypeId} {ad : Addr} {v : Value} (h : tmps.getD t undef = .pointer (some ad)) (ha : ∀ w, (isAgg ct).run P w = .ok false w) (hc : w.cell? ad = some v) :
    ResV P tmps w (.cell t ct) v := by
  unfold ResV; simp only []; rw [h]; simp [asAddr, loadVar, ha, hc]
theorem res_run {fn : Func} {tmps : Array Value} : ∀ (rs : List ResultVar) (vs : List Value), fn.results = rs.toArray → rs.length = vs.length → (∀ (i : Nat) (r : ResultVar) (v : Value), rs[i]? = some r → vs[i]? = some v → ResV P tmps w r v) →
    (results fn tmps).run P w = .ok (if h : vs.toArray.size = 1 then vs.toArray[0] else .tuple vs.toArray) w := by
  intro rs vs h hl hall
  have key : ∀ (rs : List ResultVar) (vs : List Value), rs.length = vs.length → (∀ (i : Nat) (r : ResultVar) (v : Value), rs[i]? = some r → vs[i]? = some v → ResV P tmps w r v) →
      (rs.mapM (fun (r : ResultVar) => (match r with | .tmp t => pure (tmps.getD t undef) | .cell a t => do loadVar t (← asAddr (tmps.getD a undef)) : Sem Value))).run P w = .ok vs w := by
    intro rs
    induction rs with
    | nil => intro vs hl _; cases vs with | nil => rfl | cons v vs => cases hl
    | cons r rs ih =>
      intro vs hl hall
      cases vs with
      | nil => cases hl
      | cons v vs =>
        have h0 : ResV P tmps w r v := hall 0 r v rfl rfl
        have h1 := ih vs (by simpa using hl) (fun i r v hr hv => hall (i + 1) r v (by simpa using hr) (by simpa using hv))
        unfold ResV at h0
        simp only [List.mapM_cons, Sem.run_bind, h0, Result.andThen_ok, h1]
        rfl
  unfold results
  rw [h, List.mapM_toArray]
  have := key rs vs hl hall
  simp only [Sem.run_bind, Sem.run_map]
  refine (congrArg (fun r => Result.andThen (Result.andThen r _) _) this).trans ?_
  simp only [Result.andThen_ok]
  rfl
theorem rs_single {fn : Func} {tmps : Array Value} {r : ResultVar} {v : Value} (h : fn.results = #[r]) (hv : ResV P tmps w r v) : (results fn tmps).run P w = .ok v w := by
  have := res_run (P := P) (w := w) (tmps := tmps) [r] [v] h rfl (fun i r' v' hr hv' => by
    cases i with
    | zero => simp at hr hv'; subst hr; subst hv'; exact hv
    | succ i => simp at hr)
  simpa using this
theorem rs2 {fn : Func} {tmps : Array Value} {r1 r2 : ResultVar} {v1 v2 : Value} (h : fn.results = #[r1, r2]) (h1 : ResV P tmps w r1 v1) (h2 : ResV P tmps w r2 v2) : (results fn tmps).run P w = .ok (.tuple #[v1, v2]) w := by
  have := res_run (P := P) (w := w) (tmps := tmps) [r1, r2] [v1, v2] h rfl (fun i r' v' hr hv' => by
    match i with
    | 0 => simp at hr hv'; subst hr; subst hv'; exact h1
    | 1 => simp at hr hv'; subst hr; subst hv'; exact h2
    | i + 2 => simp at hr)
  simpa using this
theorem rs3 {fn : Func} {tmps : Array Value} {r1 r2 r3 : ResultVar} {v1 v2 v3 : Value} (h : fn.results = #[r1, r2, r3]) (h1 : ResV P tmps w r1 v1) (h2 : ResV P tmps w r2 v2) (h3 : ResV P tmps w r3 v3) : (results fn tmps).run P w = .ok (.tuple #[v1, v2, v3]) w := by
  have := res_run (P := P) (w := w) (tmps := tmps) [r1, r2, r3] [v1, v2, v3] h rfl (fun i r' v' hr hv' => by
    match i with
    | 0 => simp at hr hv'; subst hr; subst hv'; exact h1
    | 1 => simp at hr hv'; subst hr; subst hv'; exact h2
    | 2 => simp at hr hv'; subst hr; subst hv'; exact h3
    | i + 3 => simp at hr)
  simpa using this

/-- 'x[lo:hi]' in a region that draws: taken first. -/
theorem r_slice {R' : World → World → Prop} {mm : Nat} {done : List Nat} (i : Nat) {α : Type} {R : Rep α} {X : List Nat} {t : TypeId} {x : Operand} {et : TypeId} {a : Option Addr} {m c : Nat} {L : List α} {lx hx : Option Operand}
    (hp : PreR R') (hi' : ops[i]? = some ⟨dst, .slice t x lx hx none, ty, pos, aft, gd⟩)
    (hB : (Nat.blt i mm && tailB ops mm i && Region.noSelect ops && Region.free .any ops (marksOf ops.size done) i && (Region.ready .any ops (marksOf ops.size done)).contains i && Nat.blt done.length ops.size) = true)
    (hQ' : ∀ c a v w, Q (.panic c) (a.put dst v) w → Q (.panic c) a w)
    (lo hi : Nat) (L' : List α)
    (hg : Region.wanted ⟨dst, .slice t x lx hx none, ty, pos, aft, gd⟩ (yielded ops (Fr n f u).tmps) = true)
    (ht : P.underlying t = some (.slice et)) (hs : ∀ w, (sizeOf et).run P w = .ok R.n w) (hS : Sl R X w a c L) (hxx : evf n f u x = .slice a m c) (hm : m = L.length)
    (hl : (lx.map (evf n f u) = none ∧ lo = 0) ∨ ∃ k, lx.map (evf n f u) = some (.int k (lo : Int)))
    (hh : (hx.map (evf n f u) = none ∧ hi = m ∧ (none : Option Operand) = none) ∨ ∃ k, hx.map (evf n f u) = some (.int k (hi : Int)))
    (h1 : lo ≤ hi) (h2 : hi ≤ L.length) (hL : L' = (L.take hi).drop lo)
    (h : ∀ a' c', Sl R X w a' c' L' → AtR P ops Q R' mm (i :: done) (Fr n f (pusho dst (.slice a' L'.length c') u)) w) : AtR P ops Q R' mm done (Fr n f u) w := by
  subst hL; subst hm
  have hc := hS.1
  have := h _ _ (hS.cut lo hi h1 h2)
  rw [show ((L.take hi).drop lo).length = hi - lo from by simp; omega] at this
  exact r_take i _ hp hi' hB (fun c a w => hQ' c a _ w) (.inl ⟨hg, fun wq _ => x_slice (lo := lo) (hi := hi) (mx := c) ht hs hxx hl hh (.inl ⟨rfl, rfl⟩) hc h1 (by omega) (Nat.le_refl _)⟩) this
end
end Go.Proofs.YtdnahdcjnahfkaaGreatDoor
namespace Go.Proofs.YtdnahdcjnahfkaaGreatDoor
open Go

section
variable {P : Program} {ops : Array Oper} {Q : Exit → Act → World → Prop} {n : Nat} {f : Nat → Value} {u : List (Nat × Value)} {w : World} {next : Act → World → Prop}
variable {dst : Option Tmp} {ty : TypeId} {pos : String} {aft : Array Edge} {gd : Option (Nat × Bool)}

theorem Flat.repl {α : Type} {R : Rep α} {X : List Nat} {z : Value} {d : α} (h : R.ok X w [z] d) : ∀ m, Flat R X w (List.replicate m z) (List.replicate m d)
  | 0 => rfl
  | m + 1 => ⟨[z], _, rfl, h, Flat.repl h m⟩

/-- 'make([]T, m)', T of one cell. -/
theorem o_make {α : Type} {R : Rep α} {X : List Nat} {base : Nat} {t et bytes : TypeId} {l c : Operand} {kl kc : IntKind} (d : α) (z : Value) (m : Nat) (L : List α)
    (hg : Region.wanted ⟨dst, .makeSlice t l c, ty, pos, aft, gd⟩ (yielded ops (Fr n f u).tmps) = true)
    (hu : P.underlying t = some (.slice et)) (hi : (P.info? et).map (fun i => (i.zero, i.size, i.bytes)) = some (some z, 1, bytes)) (hR : R.n = 1) (hzc : z.cells.toList = [z]) (hd : ∀ X w, R.ok X w [z] d)
    (hl : evf n f u l = .int kl (m : Int)) (hc : evf n f u c = .int kc (m : Int)) (hb : bytes * m ≤ 281474976710656) (hm : m ≤ 9223372036854775807) (hbase : base ≤ w.heap.size) (hL : List.replicate m d = L)
    (h : ∀ a' w' X', Step X w [] X' w' → X' = blkL a' ++ X → (∀ b ∈ blkL a', b = w.heap.size) → Own R X' w' base et a' m L → next (Fr n f (pusho dst (.slice a' m m) u)) w') :
    OpW P ops Q ⟨dst, .makeSlice t l c, ty, pos, aft, gd⟩ n f u w next := by
  subst hL
  obtain ⟨i, hi1, hi2, hi3, hi4⟩ := info_parts hi
  obtain ⟨w', hrun, ho, hgr⟩ := run_make_full (P := P) w base t et i z 1 hu hi1 hi2 hi3 kl kc m (by rw [hi4]; exact hb) (by unfold maxLen; omega) hbase
  have hev : Evo [] w w' := ⟨hgr.os, hgr.tape, hgr.output, hgr.size, fun b hb _ => hgr.block b hb (by simp)⟩
  have hlt := ho.lt w.heap.size ((ownBlock_blkL _ _ _ _).2 (by simp [blkL]))
  have hst : Step X w [] (blkL (some ⟨w.heap.size, 0, none⟩) ++ X) w' := Step.app _ _ hev (fun b hb => by simp [blkL] at hb; subst hb; exact ⟨Nat.le_refl _, hlt.2⟩)
  refine o_val (w' := w') (.slice (some ⟨w.heap.size, 0, none⟩) m m) hg ?_ (h _ w' _ hst rfl (fun b hb => by simpa [blkL] using hb) ?_)
  · simp [execOp, hl, hc, hrun]
  · refine ⟨Nat.le_trans hbase hgr.size, fun b hb => List.mem_append_left _ hb, List.replicate m z, ?_, Flat.repl (hd _ _) m⟩
    have e : (madeCells z.cells (m * 1)).toList = List.replicate m z := by
      have : z.cells = #[z] := by have := congrArg List.toArray hzc; simpa using this
      rw [this, Nat.mul_one, toList_madeCells_one]
    rw [e] at ho
    rw [hR, List.length_replicate]
    exact ho

theorem Flat.set {α : Type} {R : Rep α} {X : List Nat} {L : List α} {xs cs : List Value} {d : α} (h : Flat R X w xs L) (i : Nat) (hi : i < L.length) (hd : R.ok X w cs d) :
    Flat R X w (xs.take (i * R.n) ++ cs ++ xs.drop (i * R.n + R.n)) (L.set i d) := by
  have e : L.set i d = L.take i ++ (d :: L.drop (i + 1)) := List.set_eq_take_append_cons_drop .. |>.trans (by rw [if_pos hi])
  rw [e, List.append_assoc]
  refine (h.take i).append ⟨cs, _, rfl, hd, ?_⟩
  have := h.drop (i + 1)
  rwa [Nat.add_mul, Nat.one_mul] at this

/-- 'x[i] = v', x ours. -/
theorem o_storeOwn {α : Type} {R : Rep α} {X : List Nat} {base : Nat} {t et : TypeId} {x y : Operand} {a : Option Addr} {c b o : Nat} {L : List α} {v : Value} (i : Nat) (d : α) (L' : List α)
    (hg : Region.wanted ⟨dst, .store t x y, ty, pos, aft, gd⟩ (yielded ops (Fr n f u).tmps) = true)
    (hO : Own R X w base et a c L) (ha : a = some ⟨b, o, none⟩) (hi : i < L.length) (hL : L.set i d = L')
    (hx : evf n f u x = .pointer (some ⟨b, o + i * R.n, none⟩)) (hy : evf n f u y = v) (hs : ∀ w, (sizeOf t).run P w = .ok R.n w) (hv : ∀ w, R.ok X w v.cells.toList d)
    (h : ∀ w', Step X w (blkL a) X w' → Own R X w' base et a c L' → next (Fr n f (pusho dst undef u)) w') : OpW P ops Q ⟨dst, .store t x y, ty, pos, aft, gd⟩ n f u w next := by
  subst ha; subst hL
  obtain ⟨hbase, hmem, xs, ho, hf⟩ := hO
  have hxl := hf.length
  rcases ho.2 with ⟨h1, _⟩ | ⟨g, cap, cur, hsl, hbg, hgg, hnc, hcm, hcs, htake⟩
  · cases h1
  injection hsl with e1 e2 e3
  injection e1 with e1
  injection e1 with e4 e5 _
  subst e4; subst e5; subst e3
  have hsz : v.cells.toList.length = R.n := R.len (hv w)
  have hsz' : v.cells.size = R.n := by simpa using hsz
  have hlt : i * R.n + R.n ≤ L.length * R.n := by
    have : (i + 1) * R.n ≤ L.length * R.n := Nat.mul_le_mul_right _ hi
    rwa [Nat.add_mul, Nat.one_mul] at this
  have hle : L.length * R.n ≤ c * R.n := Nat.mul_le_mul_right _ hnc
  have hst := run_storeCells_at (P := P) b (i * R.n) et v.cells.toList 0 cur w hgg (by rw [hsz, hcs]; omega) (fun u hu => R.one (hv w) u hu)
  rw [hsz] at hst
  have hev : Evo (blkL (some ⟨b, 0, none⟩)) w (w.setRow b (cur.toList.take (i * R.n + 0) ++ v.cells.toList ++ cur.toList.drop (i * R.n + 0 + R.n)).toArray) := by
    refine ⟨rfl, rfl, rfl, by simp, fun k _ hk => ?_⟩
    exact setRow_other w b k _ (fun e => hk (by simp [blkL, e]))
  have hstep : Step X w (blkL (some ⟨b, 0, none⟩)) X (w.setRow b (cur.toList.take (i * R.n + 0) ++ v.cells.toList ++ cur.toList.drop (i * R.n + 0 + R.n)).toArray) := ⟨hev, hmem, Sub.refl _, fun _ h => .inl h⟩
  refine o_skip hg (w' := w.setRow b (cur.toList.take (i * R.n + 0) ++ v.cells.toList ++ cur.toList.drop (i * R.n + 0 + R.n)).toArray) ?_ (h _ hstep ?_)
  · simp [execOp, Instr.storeAt, Instr.sureAddr, hx, hy, storeVar, hs, hst, hsz']
  · refine ⟨Nat.le_trans hbase hev.size, hmem, xs.take (i * R.n) ++ v.cells.toList ++ xs.drop (i * R.n + R.n), ⟨?_, .inr ⟨b, c, _, ?_, hbg, setRow_heap w b _ _ _ _ hgg, ?_, hcm, ?_, ?_⟩⟩, (Flat.set hf i hi (hv w)).evo hev hmem⟩
    · rw [List.length_append, List.length_append, List.length_take, List.length_drop, hsz, hxl, List.length_set, Nat.min_eq_left (by omega)]; omega
    · rw [List.length_set]
    · rw [List.length_set]; exact hnc
    · have hcl : cur.toList.length = c * R.n := by simpa using hcs
      rw [List.size_toArray, List.length_append, List.length_append, List.length_take, List.length_drop, hsz, hcl, Nat.add_zero, Nat.min_eq_left (by omega)]; omega
    · rw [List.length_set]
      have hcl : cur.toList.length = c * R.n := by simpa using hcs
      have e1 : xs.take (i * R.n) = cur.toList.take (i * R.n) := by rw [← htake, List.take_take, Nat.min_eq_left (by omega)]
      have e2 : xs.drop (i * R.n + R.n) = (cur.toList.drop (i * R.n + R.n)).take (L.length * R.n - (i * R.n + R.n)) := by rw [← htake, List.drop_take]
      rw [e1, e2, List.toList_toArray, Nat.add_zero]
      have hl2 : (cur.toList.take (i * R.n) ++ v.cells.toList).length = i * R.n + R.n := by rw [List.length_append, List.length_take, hsz, hcl, Nat.min_eq_left (by omega)]
      rw [List.take_append, List.take_of_length_le (by rw [hl2]; omega), hl2]

/-! an error held against nil -/
theorem equal_iface_nil {t : TypeId} {ms : Array (String × TypeId)} (tp : TypeId) (v : Value) (ht : P.underlying t = some (.interface ms)) : (Op.equal t (.iface tp v) .nilIface).run P w = .ok false w := by
  have h : ∀ d : Nat, (Op.equalIn (d + 1) t (.iface tp v) .nilIface).run P w = .ok false w := fun d => by simp [Op.equalIn, run_underlying ht]
  simp only [Op.equal, Op.maxDepth]
  exact h 9999
theorem equal_nil_nil {t : TypeId} {ms : Array (String × TypeId)} (ht : P.underlying t = some (.interface ms)) : (Op.equal t .nilIface .nilIface).run P w = .ok true w := by
  have h : ∀ d : Nat, (Op.equalIn (d + 1) t .nilIface .nilIface).run P w = .ok true w := fun d => by simp [Op.equalIn, run_underlying ht]
  simp only [Op.equal, Op.maxDepth]
  exact h 9999
theorem x_inil_eq {t t' : TypeId} {x y : Operand} {ms : Array (String × TypeId)} {tp : TypeId} {v : Value} (ht : P.underlying t = some (.interface ms)) (hx : evf n f u x = .iface tp v) (hy : evf n f u y = .nilIface) :
    (execOp (evf n f u) ⟨dst, .binOp .eql t x y t', ty, pos, aft, gd⟩).run P w = .ok (.value (.bool false)) w := by
  simp [execOp, hx, hy, eqGuard, binOp, equal_iface_nil tp v ht]
theorem x_inil_ne {t t' : TypeId} {x y : Operand} {ms : Array (String × TypeId)} {tp : TypeId} {v : Value} (ht : P.underlying t = some (.interface ms)) (hx : evf n f u x = .iface tp v) (hy : evf n f u y = .nilIface) :
    (execOp (evf n f u) ⟨dst, .binOp .neq t x y t', ty, pos, aft, gd⟩).run P w = .ok (.value (.bool true)) w := by
  simp [execOp, hx, hy, eqGuard, binOp, equal_iface_nil tp v ht]
theorem x_nilnil_eq {t t' : TypeId} {x : Operand} {c : Value} {ms : Array (String × TypeId)} (ht : P.underlying t = some (.interface ms)) (hx : evf n f u x = .nilIface) (hy : evf n f u (.const c) = .nilIface) :
    (execOp (evf n f u) ⟨dst, .binOp .eql t x (.const c) t', ty, pos, aft, gd⟩).run P w = .ok (.value (.bool true)) w := by
  simp [execOp, hx, hy, eqGuard, binOp, equal_nil_nil ht]
theorem x_nilnil_ne {t t' : TypeId} {x : Operand} {c : Value} {ms : Array (String × TypeId)} (ht : P.underlying t = some (.interface ms)) (hx : evf n f u x = .nilIface) (hy : evf n f u (.const c) = .nilIface) :
    (execOp (evf n f u) ⟨dst, .binOp .neq t x (.const c) t', ty, pos, aft, gd⟩).run P w = .ok (.value (.bool false)) w := by
  simp [execOp, hx, hy, eqGuard, binOp, equal_nil_nil ht]
end
end Go.Proofs.YtdnahdcjnahfkaaGreatDoor
namespace Go.Proofs.YtdnahdcjnahfkaaGreatDoor
open Go

/-! plain -/
def lget {α : Type} [Inhabited α] (L : List α) (i : Int) : α := L.getD i.toNat default
def lset {α : Type} (L : List α) (i : Int) (v : α) : List α := L.set i.toNat v
def inL {α : Type} (L : List α) (i : Int) : Prop := 0 ≤ i ∧ i < (L.length : Int)
theorem inL.lt {α : Type} {L : List α} {i : Int} (h : inL L i) : i.toNat < L.length := by unfold inL at h; omega
theorem inL.eq {α : Type} {L : List α} {i : Int} (h : inL L i) : i = ((i.toNat : Nat) : Int) := by unfold inL at h; omega
theorem lget_eq {α : Type} [Inhabited α] {L : List α} {i : Int} (h : inL L i) : L[i.toNat]'h.lt = lget L i := by
  unfold lget; simp [List.getD, List.getElem?_eq_getElem h.lt]

/-! apart, written, old -/
def Ap (l m : List Nat) : Prop := ∀ b ∈ l, b ∉ m
theorem Ap.symm {l m : List Nat} (h : Ap l m) : Ap m l := fun b hb hm => h b hm hb
theorem Ap.nil_l (m : List Nat) : Ap [] m := fun b hb => by cases hb
theorem Ap.nil_r (m : List Nat) : Ap m [] := fun _ _ hb => by cases hb
def Wr (F : List Nat) (B : Nat) (l : List Nat) : Prop := ∀ x ∈ l, x ∈ F ∨ B ≤ x
theorem Wr.of {F : List Nat} {B : Nat} {l : List Nat} (h : Wr [] B l) : Wr F B l := fun x hx => (h x hx).elim (fun h => by cases h) Or.inr
theorem Wr.nil (F : List Nat) (B : Nat) : Wr F B [] := fun x hx => by cases hx
theorem Evo.thenW {F0 F : List Nat} {a b c : World} (h : Evo F0 a b) (k : Evo F b c) (hw : Wr F0 a.heap.size F) : Evo F0 a c := h.then k hw
theorem Old.two {l m : List Nat} {w : World} (h : Old l w) (k : Old m w) : Old (l ++ m) w := fun b hb => by rcases List.mem_append.1 hb with h1 | h1; exact h b h1; exact k b h1

/-- A block that is ours, known whole. -/
def OB (F : List Nat) (B : Nat) (X : List Nat) (w : World) (b : Nat) (cs : List Value) (ty : TypeId) : Prop := b ∈ X ∧ Blk w b cs ty ∧ Wr F B [b]
/-- A slice that is ours. -/
def OS {α : Type} (R : Rep α) (F : List Nat) (B : Nat) (X : List Nat) (w : World) (ty : TypeId) (a : Option Addr) (n c : Nat) (L : List α) : Prop := n = L.length ∧ Own R X w 0 ty a c L ∧ Wr F B (blkL a)

section
variable {α : Type} {R : Rep α} {X X' F G : List Nat} {w w' : World} {B b n c : Nat} {cs : List Value} {ty : TypeId} {a : Option Addr} {L : List α}
theorem OB.step (h : OB G B X w b cs ty) (s : Step X w F X' w') (hp : Ap [b] F) : OB G B X' w' b cs ty := ⟨s.up b h.1, h.2.1.evo s.evo (hp b (by simp)), h.2.2⟩
theorem OB.step0 (h : OB G B X w b cs ty) (s : Step X w [] X' w') : OB G B X' w' b cs ty := h.step s (Ap.nil_r _)
theorem OB.old (h : OB G B X w b cs ty) : Old [b] w := fun x hx => by simp at hx; subst hx; exact h.2.1.lt
theorem OS.step (h : OS R G B X w ty a n c L) (s : Step X w F X' w') (hp : Ap (blkL a) F) : OS R G B X' w' ty a n c L := ⟨h.1, h.2.1.step s hp, h.2.2⟩
theorem OS.step0 (h : OS R G B X w ty a n c L) (s : Step X w [] X' w') : OS R G B X' w' ty a n c L := h.step s (Ap.nil_r _)
theorem OS.old (h : OS R G B X w ty a n c L) : Old (blkL a) w := fun x hx => (h.2.1.lt x hx).2
theorem OS.nil (X : List Nat) (w : World) (B : Nat) (ty : TypeId) : OS R [] B X w ty none 0 0 ([] : List α) := ⟨rfl, Own.nil (Nat.zero_le _), Wr.nil _ _⟩
/-- .. read for a moment. -/
theorem OS.rd (h : OS R G B X w ty a n c L) : Sl R [] w a c L := h.2.1.sl (Sub.nil _) (fun _ _ hx => by cases hx)
theorem OS.out {X0 : List Nat} (h : OS R [] B X w ty a n c L) (s : Sub X0 X) (h0 : ∀ b ∈ X0, b < B) : Sl R X0 w a c L :=
  h.2.1.sl s fun b hb hx => by have := h0 b hx; rcases h.2.2 b hb with h1 | h1; cases h1; omega
theorem OS.src (h : OS R G B X w ty a n c L) : Src R X w a c L := by
  obtain ⟨_, ⟨_, _, xs, ho, hx⟩, _⟩ := h
  rcases ho.2 with ⟨h1, h2⟩ | ⟨g, cap, cur, hv, hbg, hg, h3⟩
  · injection h1 with e1 e2 e3
    exact .inl ⟨List.eq_nil_of_length_eq_zero h2, fun _ => e3⟩
  · injection hv with e1 e2 e3
    subst e1
    exact .inr ⟨g, 0, xs, rfl, fun j u hj => by
      have := ho.cells (g := g) rfl j u hj
      rwa [Addr_add] at this, hx⟩
theorem OS.len (h : OS R G B X w ty a n c L) : L.length ≤ 9223372036854775807 := h.rd.len
/-- .. given up for reading: its blocks leave X. -/
theorem OS.release (h : OS R G B X w ty a n c L) : ∃ X1, Sub X1 X ∧ Sl R X1 w a c L ∧ (∀ l, Ap l (blkL a) → Sub l X → Sub l X1) := by
  refine ⟨X.filter fun b => decide (b ∉ blkL a), fun b hb => (List.mem_filter.1 hb).1, h.2.1.sl (fun b hb => (List.mem_filter.1 hb).1) fun b hb hx => ?_, fun l hl hs b hb => List.mem_filter.2 ⟨hs b hb, by simpa using hl b hb⟩⟩
  have := (List.mem_filter.1 hx).2
  simp at this
  exact this hb
theorem OB.less {X1 : List Nat} (h : OB G B X w b cs ty) (hs : Sub [b] X1) : OB G B X1 w b cs ty := ⟨hs b (by simp), h.2⟩
theorem OB.mem (h : OB G B X w b cs ty) : Sub [b] X := fun x hx => by simp at hx; subst hx; exact h.1
theorem OS.mem (h : OS R G B X w ty a n c L) : Sub (blkL a) X := h.2.1.mem
theorem OS.less {X1 : List Nat} (h : OS R G B X w ty a n c L) (s : Sub X1 X) (hm : Sub (blkL a) X1) : OS R G B X1 w ty a n c L := ⟨h.1, h.2.1.less s hm, h.2.2⟩
theorem OS.cut (h : OS R G B X w ty a n c L) (m : Nat) (hm : m ≤ L.length) : OS R G B X w ty a m c (L.take m) := by
  obtain ⟨hn, ⟨hb, hmem, xs, ho, hx⟩, hw⟩ := h
  have hl := hx.length
  refine ⟨by simp; omega, ⟨hb, hmem, xs.take (m * R.n), ⟨by simp; rw [hl]; exact Nat.min_eq_left (Nat.mul_le_mul_right _ hm) |>.trans (by rw [Nat.min_eq_left hm]), ?_⟩, hx.take m⟩, hw⟩
  rcases ho.2 with ⟨h1, h2⟩ | ⟨g, cap, cur, hv, hbg, hg, hnc, hcm, hcs, htake⟩
  · injection h1 with e1 e2 e3
    subst e1; subst e3
    have : m = 0 := by omega
    subst this
    exact .inl ⟨by simp, by simp⟩
  · injection hv with e1 e2 e3
    subst e1; subst e3
    have e : (L.take m).length = m := by simp; omega
    refine .inr ⟨g, c, cur, by rw [e], hbg, hg, by omega, hcm, hcs, ?_⟩
    rw [e, ← htake, List.take_take, Nat.min_eq_left (Nat.mul_le_mul_right _ hm)]
theorem Rep.less {α : Type} (R : Rep α) {X X1 : List Nat} {w : World} {cs : List Value} {d : α} (h : R.ok X w cs d) (s : Sub X1 X) : R.ok X1 w cs d := R.sub h fun b hb => .inl (s b hb)
theorem Flat.less {xs : List Value} {X1 : List Nat} (h : Flat R X w xs L) (s : Sub X1 X) : Flat R X1 w xs L := h.sub fun b hb => .inl (s b hb)
/-- An element, by its number as Go has it. -/
theorem Sl.atI [Inhabited α] (h : Sl R X w a c L) (i : Int) (hi : inL L i) : ∃ b o cs, a = some ⟨b, o, none⟩ ∧ b ∉ X ∧ b < w.heap.size ∧ R.ok X w cs (lget L i) ∧ CellsAt w b (o + i.toNat * R.n) cs := by
  have := h.at i.toNat hi.lt
  rwa [lget_eq hi] at this
end

/-! one law an operation, over what is owned -/
section
variable {P : Program} {ops : Array Oper} {Q : Exit → Act → World → Prop} {n : Nat} {f : Nat → Value} {u : List (Nat × Value)} {w : World} {next : Act → World → Prop}
variable {dst : Option Tmp} {ty : TypeId} {pos : String} {aft : Array Edge} {gd : Option (Nat × Bool)}

theorem ob_new {X : List Nat} {B b : Nat} {w w' : World} {cs : List Value} {t : TypeId} (hB : B ≤ w.heap.size) (hb : b = w.heap.size) (he : Evo [] w w') (hk : Blk w' b cs t) : Step X w [] (b :: X) w' ∧ OB [] B (b :: X) w' b cs t ∧ ∀ l, Old l w → Ap l [b] :=
  ⟨Step.fresh X he b (Nat.le_of_eq hb.symm) hk.lt, ⟨List.mem_cons_self, hk, fun x hx => by simp at hx; subst hx; exact Or.inr (by omega)⟩, fun l hl x hx hm => by simp at hm; have := hl x hx; omega⟩

/-- A new block. -/
theorem o_newX {op : Op} (cs : List Value) (t : TypeId) {X : List Nat} {B : Nat} (hB : B ≤ w.heap.size) (hg : Region.wanted ⟨dst, op, ty, pos, aft, gd⟩ (yielded ops (Fr n f u).tmps) = true)
    (hr : (execOp (evf n f u) ⟨dst, op, ty, pos, aft, gd⟩).run P w = .ok (.value (.pointer (some ⟨w.heap.size, 0, none⟩))) (w.alloc (.cells cs.toArray t)))
    (h : ∀ b w' X', Step X w [] X' w' → OB [] B X' w' b cs t → (∀ l, Old l w → Ap l [b]) → next (Fr n f (pusho dst (.pointer (some ⟨b, 0, none⟩)) u)) w') : OpW P ops Q ⟨dst, op, ty, pos, aft, gd⟩ n f u w next :=
  o_new cs t hg hr fun b w' hb he hk => by
    obtain ⟨s, o, p⟩ := ob_new (X := X) hB hb he hk
    exact h b w' _ s o p

/-- A new row of data. -/
theorem o_rowX {α : Type} {R : Rep α} {op : Op} (cs : List Value) (L : List α) (t : TypeId) (m : Nat) {X : List Nat} {B : Nat} (hB : B ≤ w.heap.size) (hg : Region.wanted ⟨dst, op, ty, pos, aft, gd⟩ (yielded ops (Fr n f u).tmps) = true)
    (hr : (execOp (evf n f u) ⟨dst, op, ty, pos, aft, gd⟩).run P w = .ok (.value (.slice (some ⟨w.heap.size, 0, none⟩) m m)) (w.alloc (.cells cs.toArray t)))
    (hf : Flat R X w cs L) (hm : m = L.length) (hmm : m ≤ maxLen)
    (h : ∀ b w' X', Step X w [] X' w' → OS R [] B X' w' t (some ⟨b, 0, none⟩) m m L → (∀ l, Old l w → Ap l (blkL (some ⟨b, 0, none⟩))) → next (Fr n f (pusho dst (.slice (some ⟨b, 0, none⟩) m m) u)) w') : OpW P ops Q ⟨dst, op, ty, pos, aft, gd⟩ n f u w next :=
  o_row cs t m hg hr fun b w' hb he hk => by
    obtain ⟨s, o, p⟩ := ob_new (X := X) hB hb he hk
    refine h b w' _ s ⟨hm, ?_, o.2.2⟩ p
    exact hk.own (X := b :: X) List.mem_cons_self ((hf.sub s.new).evo s.evo (Sub.nil _)) m hm.symm hmm (Nat.zero_le _)

/-- 'append(x, y...)'. -/
theorem o_appX {α : Type} {R : Rep α} {X G : List Nat} {B : Nat} {t t' et bytes : TypeId} {x y : Operand} {a a2 : Option Addr} {n1 c n2 c2 : Nat} {L M : List α}
    (hg : Region.wanted ⟨dst, .call ⟨.builtin .append, #[x, y], #[t, t']⟩, ty, pos, aft, gd⟩ (yielded ops (Fr n f u).tmps) = true)
    (ht : ElemT P t et R.n bytes) (htt : t' = t) (hB : B ≤ w.heap.size)
    (hO : OS R G B X w et a n1 c L) (hS : Src R X w a2 c2 M) (hn2 : n2 = M.length) (hx : evf n f u x = .slice a n1 c) (hy : evf n f u y = .slice a2 n2 c2)
    (hb : (L.length + M.length) * bytes ≤ 140737488355328)
    (h : ∀ a' n' c' w' X', Step X w (blkL a) X' w' → OS R G B X' w' et a' n' c' (L ++ M) → (∀ l, Ap l (blkL a) → Old l w → Ap l (blkL a')) → next (Fr n f (pusho dst (.slice a' n' c') u)) w') :
    OpW P ops Q ⟨dst, .call ⟨.builtin .append, #[x, y], #[t, t']⟩, ty, pos, aft, gd⟩ n f u w next :=
  o_append (base := 0) hg ht htt hO.2.1 hS hx hy hO.1 hn2 hb fun a' c' w' X' s hX hn ho => by
    refine h a' _ c' w' X' s ⟨rfl, ho, fun x hx => ?_⟩ (fun l hl ho x hx hm => ?_)
    · rcases hn x hx with h1 | h1
      · exact hO.2.2 x h1
      · exact Or.inr (by omega)
    · rcases hn x hm with h1 | h1
      · exact hl x hx h1
      · have := ho x hx; omega

/-- 'make([]T, m)'. -/
theorem o_makeX {α : Type} [Inhabited α] {R : Rep α} {X : List Nat} {B : Nat} {t et bytes : TypeId} {l c : Operand} {kl kc : IntKind} (z : Value) (m : Int) (hB : B ≤ w.heap.size)
    (hg : Region.wanted ⟨dst, .makeSlice t l c, ty, pos, aft, gd⟩ (yielded ops (Fr n f u).tmps) = true)
    (hu : P.underlying t = some (.slice et)) (hi : (P.info? et).map (fun i => (i.zero, i.size, i.bytes)) = some (some z, 1, bytes)) (hR : R.n = 1) (hzc : z.cells.toList = [z]) (hd : ∀ X w, R.ok X w [z] default)
    (hl : evf n f u l = .int kl m) (hc : evf n f u c = .int kc m) (hm : 0 ≤ m ∧ (bytes : Int) * m ≤ 281474976710656) (hm2 : inR .i64 m)
    (h : ∀ a' n' w' X', Step X w [] X' w' → OS R [] B X' w' et a' n' n' (List.replicate m.toNat (default : α)) → (∀ l, Old l w → Ap l (blkL a')) → next (Fr n f (pusho dst (.slice a' n' n') u)) w') :
    OpW P ops Q ⟨dst, .makeSlice t l c, ty, pos, aft, gd⟩ n f u w next := by
  have e : m = ((m.toNat : Nat) : Int) := by omega
  have h2 := inR_i64.1 hm2
  refine o_make (X := X) (base := 0) (default : α) z m.toNat _ hg hu hi hR hzc hd (by rw [hl, ← e]) (by rw [hc, ← e]) ?_ (by omega) (Nat.zero_le _) rfl ?_
  · have : ((bytes * m.toNat : Nat) : Int) ≤ 281474976710656 := by rw [Int.natCast_mul, ← e]; exact hm.2
    exact Int.ofNat_le.1 this
  · intro a' w' X' s hX hn ho
    exact h a' _ w' X' s ⟨by simp, ho, fun x hx => Or.inr (by have := hn x hx; omega)⟩ (fun l hl x hx hm => by have := hn x hm; have := hl x hx; omega)

/-- 'x[i] = v', x ours. -/
theorem o_stS {α : Type} {R : Rep α} {X G : List Nat} {B : Nat} {t et : TypeId} {x y : Operand} {a : Option Addr} {m c b o : Nat} {L : List α} {v : Value} (i : Int) (d : α)
    (hg : Region.wanted ⟨dst, .store t x y, ty, pos, aft, gd⟩ (yielded ops (Fr n f u).tmps) = true)
    (hO : OS R G B X w et a m c L) (ha : a = some ⟨b, o, none⟩) (hi : inL L i)
    (hx : evf n f u x = .pointer (some ⟨b, o + i.toNat * R.n, none⟩)) (hy : evf n f u y = v) (hs : ∀ w, (sizeOf t).run P w = .ok R.n w) (hv' : ∀ w, R.ok X w v.cells.toList d)
    (h : ∀ w', Step X w (blkL a) X w' → OS R G B X w' et a m c (lset L i d) → next (Fr n f (pusho dst undef u)) w') : OpW P ops Q ⟨dst, .store t x y, ty, pos, aft, gd⟩ n f u w next :=
  o_storeOwn i.toNat d _ hg hO.2.1 ha hi.lt rfl hx hy hs hv' fun w' s ho => h w' s ⟨by rw [hO.1]; simp [lset], ho, hO.2.2⟩

/-- A store into a block that is ours. -/
theorem o_stB {t bt : TypeId} {x y : Operand} {G X : List Nat} {B b o : Nat} {cs : List Value} {v : Value} (cs' : List Value) (hg : Region.wanted ⟨dst, .store t x y, ty, pos, aft, gd⟩ (yielded ops (Fr n f u).tmps) = true)
    (hO : OB G B X w b cs bt) (hx : evf n f u x = .pointer (some ⟨b, o, none⟩)) (hy : evf n f u y = v) (hs : ∀ w, (sizeOf t).run P w = .ok v.cells.size w)
    (hfit : Nat.ble (o + v.cells.size) cs.length = true) (h1 : v.cells.toList.all Value.oneCell' = true) (hcs : cs.take o ++ v.cells.toList ++ cs.drop (o + v.cells.size) = cs')
    (h : ∀ w', Step X w [b] X w' → OB G B X w' b cs' bt → next (Fr n f (pusho dst undef u)) w') : OpW P ops Q ⟨dst, .store t x y, ty, pos, aft, gd⟩ n f u w next :=
  o_store cs' hg hO.2.1 hx hy hs hfit h1 hcs fun w' he hk => h w' (Step.one he hO.1) ⟨hO.1, hk, hO.2.2⟩

/-- The address of an element. -/
theorem x_ixA {t : TypeId} {x ix : Operand} {b o m c sz : Nat} {k : IntKind} {i : Int} {et : TypeId} (ht : P.underlying t = some (.slice et)) (hs : ∀ w, (sizeOf et).run P w = .ok sz w)
    (hx : evf n f u x = .slice (some ⟨b, o, none⟩) m c) (hi : evf n f u ix = .int k i) (h : 0 ≤ i ∧ i < (m : Int)) :
    (execOp (evf n f u) ⟨dst, .indexAddr t x ix, ty, pos, aft, gd⟩).run P w = .ok (.value (.pointer (some ⟨b, o + i.toNat * sz, none⟩))) w :=
  x_indexAddr ht hs hx hi (by omega) (by omega)
end

/-! data behind a pointer -/
def rPtr {α : Type} (R : Rep α) (ty : TypeId) : Rep α where
  n := 1
  ok X w cs d := ∃ b cs', cs = [.pointer (some ⟨b, 0, none⟩)] ∧ b ∉ X ∧ Blk w b cs' ty ∧ R.ok X w cs' d
  len h := by obtain ⟨b, c, rfl, _⟩ := h; rfl
  evo h e s := by obtain ⟨b, c, rfl, hb, hk, h⟩ := h; exact ⟨b, c, rfl, hb, hk.evo e (fun hm => hb (s b hm)), R.evo h e s⟩
  sub h s := by obtain ⟨b, c, rfl, hb, hk, h⟩ := h; exact ⟨b, c, rfl, (fun hm => by rcases s b hm with h1 | h1; exact hb h1; have := hk.lt; omega), hk, R.sub h s⟩
  one h u hu := by obtain ⟨b, c, rfl, _⟩ := h; simp at hu; subst hu; rfl
def rPtrO {α : Type} (R : Rep α) (ty : TypeId) : Rep (Option α) where
  n := 1
  ok X w cs d := match d with | none => cs = [.pointer none] | some d => (rPtr R ty).ok X w cs d
  len {X w cs d} h := by cases d with | none => simp only at h; subst h; rfl | some d => exact (rPtr R ty).len h
  evo {X w cs d F w'} h e s := by cases d with | none => exact h | some d => exact (rPtr R ty).evo h e s
  sub {X w cs d X'} h s := by cases d with | none => exact h | some d => exact (rPtr R ty).sub h s
  one {X w cs d} h := by cases d with | none => intro u hu; simp only at h; subst h; simp at hu; subst hu; rfl | some d => exact (rPtr R ty).one h
theorem Rep.one1 {α : Type} (R : Rep α) (hn : R.n = 1) {X : List Nat} {w : World} {cs : List Value} {d : α} (h : R.ok X w cs d) : ∃ v, cs = [v] := by
  have := R.len h
  rw [hn] at this
  exact List.length_eq_one_iff.1 this

/-! errors -/
inductive PErr where
  | nil
  | no (n : Int)
  | fault (part : ByteArray) (place : Int) (e : Int)
instance : Inhabited PErr := ⟨.nil⟩
def PErr.isNil : PErr → Bool
  | .nil => true
  | _ => false
def rErr (tE tP tF : TypeId) : Rep PErr where
  n := 1
  ok X w cs e := match e with
    | .nil => cs = [.nilIface]
    | .no n => cs = [.iface tE (.int .i64 n)] ∧ inR .i64 n
    | .fault p a n => ∃ b, cs = [.iface tP (.pointer (some ⟨b, 0, none⟩))] ∧ b ∉ X ∧ Blk w b [.string p, .int .i64 a, .iface tE (.int .i64 n)] tF ∧ p.size ≤ maxLen ∧ inR .i64 a ∧ inR .i64 n
  len {X w cs e} h := by
    cases e with
    | nil => simp only at h; subst h; rfl
    | no n => rw [h.1]; rfl
    | fault p a n => obtain ⟨b, rfl, _⟩ := h; rfl
  evo {X w cs e F w'} h ev s := by
    cases e with
    | nil => exact h
    | no n => exact h
    | fault p a n => obtain ⟨b, h1, hb, hk, h2⟩ := h; exact ⟨b, h1, hb, hk.evo ev (fun hm => hb (s b hm)), h2⟩
  sub {X w cs e X'} h s := by
    cases e with
    | nil => exact h
    | no n => exact h
    | fault p a n => obtain ⟨b, h1, hb, hk, h2⟩ := h; exact ⟨b, h1, (fun hm => by rcases s b hm with h1 | h1; exact hb h1; have := hk.lt; omega), hk, h2⟩
  one {X w cs e} h u hu := by
    cases e with
    | nil => simp only at h; subst h; simp at hu; subst hu; rfl
    | no n => rw [h.1] at hu; simp at hu; subst hu; rfl
    | fault p a n => obtain ⟨b, rfl, _⟩ := h; simp at hu; subst hu; rfl
section
variable {P : Program} {n : Nat} {f : Nat → Value} {u : List (Nat × Value)} {w : World} {dst : Option Tmp} {ty : TypeId} {pos : String} {aft : Array Edge} {gd : Option (Nat × Bool)}
theorem x_err_eq {tE tP tF t t' : TypeId} {x : Operand} {ms : Array (String × TypeId)} {v : Value} {X : List Nat} {w0 : World} (e : PErr) (h : (rErr tE tP tF).ok X w0 [v] e) (ht : P.underlying t = some (.interface ms)) (hx : evf n f u x = v) :
    (execOp (evf n f u) ⟨dst, .binOp .eql t x (.const .nilIface) t', ty, pos, aft, gd⟩).run P w = .ok (.value (.bool e.isNil)) w := by
  have hy : evf n f u (.const .nilIface) = .nilIface := rfl
  cases e with
  | nil => simp only [rErr] at h; injection h with h _; subst h; exact x_nilnil_eq ht hx rfl
  | no k => obtain ⟨h, _⟩ := h; injection h with h _; subst h; exact x_inil_eq ht hx hy
  | fault p a k => obtain ⟨b, h, _⟩ := h; injection h with h _; subst h; exact x_inil_eq ht hx hy
theorem x_err_ne {tE tP tF t t' : TypeId} {x : Operand} {ms : Array (String × TypeId)} {v : Value} {X : List Nat} {w0 : World} (e : PErr) (h : (rErr tE tP tF).ok X w0 [v] e) (ht : P.underlying t = some (.interface ms)) (hx : evf n f u x = v) :
    (execOp (evf n f u) ⟨dst, .binOp .neq t x (.const .nilIface) t', ty, pos, aft, gd⟩).run P w = .ok (.value (.bool (!e.isNil))) w := by
  have hy : evf n f u (.const .nilIface) = .nilIface := rfl
  cases e with
  | nil => simp only [rErr] at h; injection h with h _; subst h; exact x_nilnil_ne ht hx rfl
  | no k => obtain ⟨h, _⟩ := h; injection h with h _; subst h; exact x_inil_ne ht hx hy
  | fault p a k => obtain ⟨b, h, _⟩ := h; injection h with h _; subst h; exact x_inil_ne ht hx hy
end
/-! data put together -/
def rOne {α : Type} (R : Rep α) : Rep α where
  n := 1
  ok X w cs d := ∃ v, cs = [v] ∧ R.ok X w [v] d
  len h := by obtain ⟨v, rfl, _⟩ := h; rfl
  evo h e s := by obtain ⟨v, rfl, h⟩ := h; exact ⟨v, rfl, R.evo h e s⟩
  sub h s := by obtain ⟨v, rfl, h⟩ := h; exact ⟨v, rfl, R.sub h s⟩
  one h u hu := by obtain ⟨v, rfl, h⟩ := h; exact R.one h u hu
section
variable {α β : Type} {R : Rep α} {S : Rep β} {X : List Nat} {w : World}
theorem rMap_mk {cs : List Value} (g : β → α) {x : β} (h : R.ok X w cs (g x)) : (rMap g R).ok X w cs x := h
theorem rPair_mk {c1 c2 : List Value} {x : α} {y : β} (h : R.ok X w c1 x) (k : S.ok X w c2 y) : (rPair R S).ok X w (c1 ++ c2) (x, y) := ⟨c1, c2, rfl, h, k⟩
theorem rInt_mk {k : IntKind} {x : Int} (h : inR k x) : (rInt k).ok X w [.int k x] x := ⟨rfl, h⟩
theorem rStr_mk {x : ByteArray} (h : x.size ≤ maxLen) : rStr.ok X w [.string x] x := ⟨rfl, h⟩
theorem rBool_mk {x : Bool} : rBool.ok X w [.bool x] x := rfl
theorem rBool_mk' {x : Bool} {v : Value} (h : v = .bool x) : rBool.ok X w [v] x := by subst h; rfl
theorem rSl_mk {a : Option Addr} {c : Nat} {L : List α} (h : Sl R X w a c L) : (rSl R).ok X w [.slice a L.length c] L := ⟨a, c, rfl, h⟩
theorem rSl_mk' {a : Option Addr} {n c : Nat} {L : List α} (h : Sl R X w a c L) (hn : n = L.length) : (rSl R).ok X w [.slice a n c] L := by subst hn; exact ⟨a, c, rfl, h⟩
theorem rOne_mk {v : Value} {x : α} (h : R.ok X w [v] x) : (rOne R).ok X w [v] x := ⟨v, rfl, h⟩
theorem rPtrO_some {b : Nat} {ty : TypeId} {cs : List Value} {d : α} (hb : b ∉ X) (hk : Blk w b cs ty) (h : R.ok X w cs d) : (rPtrO R ty).ok X w [.pointer (some ⟨b, 0, none⟩)] (some d) := ⟨b, cs, rfl, hb, hk, h⟩
theorem rPtrO_none {ty : TypeId} : (rPtrO R ty).ok X w [.pointer none] none := rfl
theorem rErr_nil {tE tP tF : TypeId} : (rErr tE tP tF).ok X w [.nilIface] .nil := rfl
theorem rErr_no {tE tP tF : TypeId} {n : Int} (h : inR .i64 n) : (rErr tE tP tF).ok X w [.iface tE (.int .i64 n)] (.no n) := ⟨rfl, h⟩
theorem rErr_fault {tE tP tF : TypeId} {b : Nat} {p : ByteArray} {a n : Int} (hb : b ∉ X) (hk : Blk w b [.string p, .int .i64 a, .iface tE (.int .i64 n)] tF) (h1 : p.size ≤ maxLen) (h2 : inR .i64 a) (h3 : inR .i64 n) :
    (rErr tE tP tF).ok X w [.iface tP (.pointer (some ⟨b, 0, none⟩))] (.fault p a n) := ⟨b, rfl, hb, hk, h1, h2, h3⟩
theorem Blk.cast {b : Nat} {cs cs' : List Value} {ty : TypeId} (h : cs = cs') (k : Blk w b cs ty) : Blk w b cs' ty := h ▸ k
theorem OB.notin {B b : Nat} {X X0 : List Nat} {cs : List Value} {ty : TypeId} (h : OB [] B X w b cs ty) (h0 : ∀ b ∈ X0, b < B) : b ∉ X0 := fun hm => by
  have := h0 b hm
  rcases h.2.2 b (by simp) with h1 | h1
  · cases h1
  · omega
end
/-! handing over -/
section
variable {α : Type} {R : Rep α} {X X' F G : List Nat} {w w' : World} {B b n c : Nat} {cs : List Value} {ty : TypeId} {a : Option Addr} {L : List α}
theorem OS.apold {X0 : List Nat} (h : OS R [] B X w ty a n c L) (h0 : ∀ b ∈ X0, b < B) : Ap X0 (blkL a) := fun b hb hm => by
  have := h0 b hb
  rcases h.2.2 b hm with h1 | h1
  · cases h1
  · omega
theorem OS.give {X0 : List Nat} (h : OS R [] B X w ty a n c L) (s : Sub X0 X) : OS R [] B (blkL a ++ X0) w ty a L.length c L := by
  obtain ⟨_, h2, h3⟩ := h
  exact ⟨rfl, h2.less (fun b hb => by rcases List.mem_append.1 hb with h | h; exact h2.mem b h; exact s b h) (fun _ h => List.mem_append_left _ h), h3⟩
theorem OS.own_in (h : OS R [] w.heap.size (blkL a ++ X) w' ty a n c L) (e : Evo [] w w') (hB : B ≤ w.heap.size) : ∃ X', Step X w [] X' w' ∧ OS R [] B X' w' ty a n c L ∧ ∀ l, Old l w → Ap l (blkL a) := by
  have hge : ∀ x ∈ blkL a, w.heap.size ≤ x := fun x hx => (h.2.2 x hx).elim (fun h => by cases h) id
  refine ⟨blkL a ++ X, Step.app X (blkL a) e (fun b hb => ⟨hge b hb, h.old b hb⟩), ⟨h.1, h.2.1, fun x hx => Or.inr (Nat.le_trans hB (hge x hx))⟩, fun l hl x hx hm => ?_⟩
  have := hl x hx; have := hge x hm; omega
end

/-! numbers, by what is known of them -/
instance {k : IntKind} {x : Int} : Decidable (inR k x) := by unfold inR; infer_instance
theorem inR_def {k : IntKind} {r : Int} (h : inR k r) : k.min ≤ r ∧ r ≤ k.max := h
theorem wrap_inR {k : IntKind} {r : Int} (h : inR k r) : k.wrap r = r := wrap_eq k h.1 h.2
theorem inR_u64 {x : Int} : inR .u64 x ↔ 0 ≤ x ∧ x ≤ 18446744073709551615 := by
  unfold inR; rw [show IntKind.u64.min = 0 from by decide, show IntKind.u64.max = 18446744073709551615 from by decide]
theorem inR_u32 {x : Int} : inR .u32 x ↔ 0 ≤ x ∧ x ≤ 4294967295 := by
  unfold inR; rw [show IntKind.u32.min = 0 from by decide, show IntKind.u32.max = 4294967295 from by decide]
theorem inR_len {n : Nat} (h : n ≤ 9223372036854775807) : inR .i64 (n : Int) := inR_i64.2 ⟨by omega, by omega⟩
theorem inR_size {n : Nat} (h : n ≤ maxLen) : inR .i64 (n : Int) := inR_len h
theorem inR_max {k : IntKind} {a b : Int} (ha : inR k a) (hb : inR k b) : inR k (max a b) := by unfold inR at *; omega
theorem inR_min {k : IntKind} {a b : Int} (ha : inR k a) (hb : inR k b) : inR k (min a b) := by unfold inR at *; omega
theorem inR_up {k k' : IntKind} {a : Int} (h1 : k'.min ≤ k.min) (h2 : k.max ≤ k'.max) (h : inR k a) : inR k' a := by unfold inR at *; omega
theorem kmin_le {k : IntKind} : k.min ≤ 0 := by cases k <;> decide
theorem kmax_ge {k : IntKind} : 0 ≤ k.max := by cases k <;> decide
theorem inR_rem {k : IntKind} {a b : Int} (_ : 0 ≤ a) (hb : 0 < b) (_ : inR k a) (h2 : inR k b) : inR k (a % b) := by
  have := Int.emod_nonneg a (show b ≠ 0 by omega); have := Int.emod_lt_of_pos a hb; have := @kmin_le k; unfold inR at *; omega
theorem inR_quo {k : IntKind} {a b : Int} (h0 : 0 ≤ a) (_ : 0 < b) (h1 : inR k a) (_ : inR k b) : inR k (a / b) := by
  have := Int.ediv_nonneg h0 (show 0 ≤ b by omega); have := Int.ediv_le_self b h0; have := @kmin_le k; unfold inR at *; omega
theorem inR_u8_mod (a : Int) : inR .u8 (a % 256) := inR_u8.2 ⟨Int.emod_nonneg _ (by decide), by have := Int.emod_lt_of_pos a (show (0 : Int) < 256 by decide); omega⟩
theorem inR_u32_mod (a : Int) : inR .u32 (a % 4294967296) := inR_u32.2 ⟨Int.emod_nonneg _ (by decide), by have := Int.emod_lt_of_pos a (show (0 : Int) < 4294967296 by decide); omega⟩
theorem inR_u64_mod (a : Int) : inR .u64 (a % 18446744073709551616) := inR_u64.2 ⟨Int.emod_nonneg _ (by decide), by have := Int.emod_lt_of_pos a (show (0 : Int) < 18446744073709551616 by decide); omega⟩
def iwrap (k : IntKind) (a : Int) : Int := k.wrap a
theorem inR_wrap (k : IntKind) (a : Int) : inR k (k.wrap a) := by
  cases k <;> simp [inR, IntKind.wrap, IntKind.min, IntKind.max, IntKind.signed, IntKind.bits] <;> omega
theorem inR_iwrap (k : IntKind) (a : Int) : inR k (iwrap k a) := inR_wrap k a
theorem inR_nn8 {a : Int} (h : inR .u8 a) : 0 ≤ a := (inR_u8.1 h).1
theorem inR_nn {k : IntKind} {a : Int} (h : inR k a) (hk : k.min = 0 := by decide) : 0 ≤ a := by unfold inR at h; omega
theorem dec_t {p : Prop} [Decidable p] (h : p ↔ True) : Value.bool (decide p) = .bool true := by rw [decide_eq_true (h.2 trivial)]
theorem dec_f {p : Prop} [Decidable p] (h : p ↔ False) : Value.bool (decide p) = .bool false := by rw [decide_eq_false h.1]
theorem dec_d {p q : Prop} [Decidable p] [Decidable q] (h : p ↔ q) : Value.bool (decide p) = .bool (decide q) := by rw [decide_eq_decide.2 h]
theorem dec_n {p q : Prop} [Decidable p] [Decidable q] (h : p ↔ ¬ q) : Value.bool (decide p) = .bool (!decide q) := by rw [decide_eq_decide.2 h, decide_not]
theorem dec_b {p : Prop} [Decidable p] {b : Bool} (h : p ↔ b = true) : Value.bool (decide p) = .bool b := by cases b <;> simp [h]
theorem iff_true_intro' {p : Prop} (h : p) : p ↔ True := iff_true_intro h
theorem take_len {α : Type} (L : List α) : L.take ((L.length : Nat) : Int).toNat = L := by simp
section
variable {P : Program} {ops : Array Oper} {Q : Exit → Act → World → Prop} {n : Nat} {f : Nat → Value} {u : List (Nat × Value)} {w : World} {next : Act → World → Prop}
variable {dst : Option Tmp} {ty : TypeId} {pos : String} {aft : Array Edge} {gd : Option (Nat × Bool)}
theorem x_bt {o : Oper} {b : Bool} (hr : (execOp (evf n f u) o).run P w = .ok (.value (.bool b)) w) (h : b = true) : (execOp (evf n f u) o).run P w = .ok (.value (.bool true)) w := by rw [hr, h]
theorem x_bf {o : Oper} {b : Bool} (hr : (execOp (evf n f u) o).run P w = .ok (.value (.bool b)) w) (h : ¬ b = true) : (execOp (evf n f u) o).run P w = .ok (.value (.bool false)) w := by rw [hr, Bool.not_eq_true b |>.mp h]
theorem x_add2 {t t' : TypeId} {x y : Operand} {k : IntKind} {a b : Int} (r : Int) (hx : evf n f u x = .int k a) (hy : evf n f u y = .int k b) (hw : k.wrap (a + b) = r) :
    (execOp (evf n f u) ⟨dst, .binOp .add t x y t', ty, pos, aft, gd⟩).run P w = .ok (.value (.int k r)) w := by
  subst hw; simp [execOp, hx, hy, eqGuard, binOp, Op.intArith]
theorem x_sub2 {t t' : TypeId} {x y : Operand} {k : IntKind} {a b : Int} (r : Int) (hx : evf n f u x = .int k a) (hy : evf n f u y = .int k b) (hw : k.wrap (a - b) = r) :
    (execOp (evf n f u) ⟨dst, .binOp .sub t x y t', ty, pos, aft, gd⟩).run P w = .ok (.value (.int k r)) w := by
  subst hw; simp [execOp, hx, hy, eqGuard, binOp, Op.intArith]
theorem x_mul2 {t t' : TypeId} {x y : Operand} {k : IntKind} {a b : Int} (r : Int) (hx : evf n f u x = .int k a) (hy : evf n f u y = .int k b) (hw : k.wrap (a * b) = r) :
    (execOp (evf n f u) ⟨dst, .binOp .mul t x y t', ty, pos, aft, gd⟩).run P w = .ok (.value (.int k r)) w := by
  subst hw; simp [execOp, hx, hy, eqGuard, binOp, Op.intArith]
theorem x_rem2 {t t' : TypeId} {x y : Operand} {k : IntKind} {a b : Int} (r : Int) (hx : evf n f u x = .int k a) (hy : evf n f u y = .int k b) (h0 : 0 ≤ a) (hb : 0 < b) (he : a % b = r) (_ : k.wrap r = r) :
    (execOp (evf n f u) ⟨dst, .binOp .rem t x y t', ty, pos, aft, gd⟩).run P w = .ok (.value (.int k r)) w := x_rem r hx hy h0 hb he
theorem x_quo2 {t t' : TypeId} {x y : Operand} {k : IntKind} {a b : Int} (r : Int) (hx : evf n f u x = .int k a) (hy : evf n f u y = .int k b) (h0 : 0 ≤ a) (hb : 0 < b) (he : a / b = r) (hw : k.wrap r = r) :
    (execOp (evf n f u) ⟨dst, .binOp .quo t x y t', ty, pos, aft, gd⟩).run P w = .ok (.value (.int k r)) w := x_quo r hx hy h0 hb he hw
/-- 'x[:hi:hi]'. -/
theorem o_slice3I {α : Type} {R : Rep α} {X : List Nat} {t : TypeId} {x hx mx : Operand} {et : TypeId} {a : Option Addr} {m c : Nat} {L : List α} {k k' : IntKind} (hi : Int)
    (ht : P.underlying t = some (.slice et)) (hs : ∀ w, (sizeOf et).run P w = .ok R.n w) (hS : Sl R X w a c L) (hxx : evf n f u x = .slice a m c) (hm : m = L.length)
    (hg : Region.wanted ⟨dst, .slice t x none (some hx) (some mx), ty, pos, aft, gd⟩ (yielded ops (Fr n f u).tmps) = true)
    (hh : evf n f u hx = .int k hi) (hmx : evf n f u mx = .int k' hi) (h1 : 0 ≤ hi ∧ hi ≤ (L.length : Int))
    (h : ∀ a' c', Sl R X w a' c' (L.take hi.toNat) → next (Fr n f (pusho dst (.slice a' (L.take hi.toNat).length c') u)) w) : OpW P ops Q ⟨dst, .slice t x none (some hx) (some mx), ty, pos, aft, gd⟩ n f u w next := by
  have e : hi = ((hi.toNat : Nat) : Int) := by omega
  have hc := hS.1
  exact o_slice3 hi.toNat hi.toNat _ ht hs hS hxx hm hg (.inr ⟨k, by show some (evf n f u hx) = _; rw [hh, ← e]⟩) (.inr ⟨k', by show some (evf n f u mx) = _; rw [hmx, ← e]⟩) ⟨Nat.le_refl _, by omega, by omega⟩ rfl fun a' hs' => h a' _ hs'
end
/-- A block that is only read. -/
def RO (X : List Nat) (w : World) (b : Nat) (cs : List Value) (ty : TypeId) : Prop := b ∉ X ∧ Blk w b cs ty
section
variable {X X' F : List Nat} {w w' : World} {b : Nat} {cs cs' : List Value} {ty : TypeId}
theorem RO.step (h : RO X w b cs ty) (s : Step X w F X' w') : RO X' w' b cs ty :=
  ⟨fun hm => by rcases s.new b hm with h1 | h1; exact h.1 h1; have := h.2.lt; omega, h.2.evo s.evo fun hm => h.1 (s.sub b hm)⟩
theorem RO.less (h : RO X w b cs ty) (s : Sub X' X) : RO X' w b cs ty := ⟨fun hm => h.1 (s b hm), h.2⟩
theorem RO.evo0 (h : RO X w b cs ty) (e : Evo [] w w') : RO X w' b cs ty := ⟨h.1, h.2.evo0 e⟩
theorem RO.cast (h : cs = cs') (k : RO X w b cs ty) : RO X w b cs' ty := h ▸ k
end
section
variable {P : Program} {ops : Array Oper} {Q : Exit → Act → World → Prop} {n : Nat} {f : Nat → Value} {u : List (Nat × Value)} {w : World} {next : Act → World → Prop}
variable {dst : Option Tmp} {ty : TypeId} {pos : String} {aft : Array Edge} {gd : Option (Nat × Bool)}
/-- A store into a part of an element of a slice that is ours. -/
theorem o_stPr {α : Type} {R : Rep α} {X G : List Nat} {B : Nat} {t et : TypeId} {x y : Operand} {a : Option Addr} {m c b o : Nat} {L : List α} {v : Value} {cs : List Value} (i : Int) (j : Nat) (cs' : List Value) (d : α)
    (hg : Region.wanted ⟨dst, .store t x y, ty, pos, aft, gd⟩ (yielded ops (Fr n f u).tmps) = true)
    (hO : OS R G B X w et a m c L) (ha : a = some ⟨b, o, none⟩) (hi : inL L i) (hc : CellsAt w b (o + i.toNat * R.n) cs) (hcl : cs.length = R.n)
    (hx : evf n f u x = .pointer (some ⟨b, o + i.toNat * R.n + j, none⟩)) (hy : evf n f u y = v) (hs : ∀ w, (sizeOf t).run P w = .ok v.cells.size w)
    (hfit : Nat.ble (j + v.cells.size) cs.length = true) (h1 : v.cells.toList.all Value.oneCell' = true) (hcs : cs.take j ++ v.cells.toList ++ cs.drop (j + v.cells.size) = cs') (hv : R.ok X w cs' d)
    (h : ∀ w', Step X w (blkL a) X w' → OS R G B X w' et a m c (lset L i d) → next (Fr n f (pusho dst undef u)) w') : OpW P ops Q ⟨dst, .store t x y, ty, pos, aft, gd⟩ n f u w next := by
  subst ha
  obtain ⟨hm, ⟨hbase, hmem, xs, ho, hf⟩, hwr⟩ := hO
  have hxl := hf.length
  rcases ho.2 with ⟨h2, _⟩ | ⟨g, cap, cur, hsl, hbg, hgg, hnc, hcm, hcz, htake⟩
  · cases h2
  injection hsl with e1 e2 e3
  injection e1 with e1
  injection e1 with e4 e5 _
  subst e4; subst e5; subst e3
  have hfit' : j + v.cells.size ≤ R.n := by have := ble_le hfit; omega
  have hlt : i.toNat * R.n + R.n ≤ L.length * R.n := by
    have : (i.toNat + 1) * R.n ≤ L.length * R.n := Nat.mul_le_mul_right _ hi.lt
    rwa [Nat.add_mul, Nat.one_mul] at this
  have hle : L.length * R.n ≤ c * R.n := Nat.mul_le_mul_right _ hnc
  have hcl2 : cur.toList.length = c * R.n := by simpa using hcz
  -- what the element's cells are
  have hel : (cur.toList.drop (i.toNat * R.n)).take R.n = cs := by
    apply List.ext_getElem?
    intro q
    rw [List.getElem?_take]
    by_cases hq : q < R.n
    · rw [if_pos hq, List.getElem?_drop]
      have h3 := hc q cs[q] (by simp [show q < cs.length from by omega])
      rw [Nat.zero_add] at h3
      rw [cell_of_row w b (i.toNat * R.n + q) cur et _ hgg] at h3
      rw [List.getElem?_eq_getElem (show q < cs.length by omega), ← h3]
      simp
    · rw [if_neg hq, List.getElem?_eq_none (by omega)]
  have hvl : v.cells.toList.length = v.cells.size := by simp
  have hst := run_storeCells_at (P := P) b (i.toNat * R.n + j) et v.cells.toList 0 cur w hgg (by rw [hvl, hcz]; omega) (fun u hu => List.all_eq_true.1 h1 u hu)
  rw [hvl] at hst
  have hrow : cur.toList.take (i.toNat * R.n + j + 0) ++ v.cells.toList ++ cur.toList.drop (i.toNat * R.n + j + 0 + v.cells.size) = cur.toList.take (i.toNat * R.n) ++ cs' ++ cur.toList.drop (i.toNat * R.n + R.n) := by
    rw [← hcs, ← hel, Nat.add_zero, List.take_add, List.take_take, Nat.min_eq_left (by omega), List.drop_take, List.drop_drop]
    simp only [List.append_assoc]
    congr 3
    have : cur.toList.drop (i.toNat * R.n + j + v.cells.size) = (cur.toList.drop (i.toNat * R.n + (j + v.cells.size))).take (R.n - (j + v.cells.size)) ++ cur.toList.drop (i.toNat * R.n + R.n) := by
      have h4 := (List.take_append_drop (R.n - (j + v.cells.size)) (cur.toList.drop (i.toNat * R.n + (j + v.cells.size)))).symm
      rw [List.drop_drop, show i.toNat * R.n + (j + v.cells.size) + (R.n - (j + v.cells.size)) = i.toNat * R.n + R.n from by omega] at h4
      rw [← h4, Nat.add_assoc]
    rw [this]
  rw [hrow] at hst
  have hev : Evo (blkL (some ⟨b, 0, none⟩)) w (w.setRow b (cur.toList.take (i.toNat * R.n) ++ cs' ++ cur.toList.drop (i.toNat * R.n + R.n)).toArray) :=
    ⟨rfl, rfl, rfl, by simp, fun k _ hk => setRow_other w b k _ (fun e => hk (by simp [blkL, e]))⟩
  have hstep : Step X w (blkL (some ⟨b, 0, none⟩)) X (w.setRow b (cur.toList.take (i.toNat * R.n) ++ cs' ++ cur.toList.drop (i.toNat * R.n + R.n)).toArray) := ⟨hev, hmem, Sub.refl _, fun _ h => .inl h⟩
  have hsz : cs'.length = R.n := R.len hv
  refine o_skip hg (w' := w.setRow b (cur.toList.take (i.toNat * R.n) ++ cs' ++ cur.toList.drop (i.toNat * R.n + R.n)).toArray) ?_ (h _ hstep ⟨by rw [hm]; simp [lset], ?_, hwr⟩)
  · have hx' : evf n f u x = .pointer (some ⟨b, i.toNat * R.n + j, none⟩) := by rw [hx]; simp
    simp [execOp, Instr.storeAt, Instr.sureAddr, hx', hy, storeVar, hs, hst]
  · refine ⟨Nat.le_trans hbase hev.size, hmem, xs.take (i.toNat * R.n) ++ cs' ++ xs.drop (i.toNat * R.n + R.n), ⟨?_, .inr ⟨b, c, _, ?_, hbg, setRow_heap w b _ _ _ _ hgg, ?_, hcm, ?_, ?_⟩⟩, (Flat.set hf i.toNat hi.lt hv).evo hev hmem⟩
    · rw [List.length_append, List.length_append, List.length_take, List.length_drop, hsz, hxl, lset, List.length_set, Nat.min_eq_left (by omega)]; omega
    · rw [lset, List.length_set]
    · rw [lset, List.length_set]; exact hnc
    · rw [List.size_toArray, List.length_append, List.length_append, List.length_take, List.length_drop, hsz, hcl2, Nat.min_eq_left (by omega)]; omega
    · rw [lset, List.length_set]
      have e1 : xs.take (i.toNat * R.n) = cur.toList.take (i.toNat * R.n) := by rw [← htake, List.take_take, Nat.min_eq_left (by omega)]
      have e2 : xs.drop (i.toNat * R.n + R.n) = (cur.toList.drop (i.toNat * R.n + R.n)).take (L.length * R.n - (i.toNat * R.n + R.n)) := by rw [← htake, List.drop_take]
      rw [e1, e2, List.toList_toArray]
      have hl2 : (cur.toList.take (i.toNat * R.n) ++ cs').length = i.toNat * R.n + R.n := by rw [List.length_append, List.length_take, hsz, hcl2, Nat.min_eq_left (by omega)]
      rw [List.take_append, List.take_of_length_le (by rw [hl2]; omega), hl2]
theorem o_stP {α : Type} {R : Rep α} {X G : List Nat} {B : Nat} {t et : TypeId} {x y : Operand} {a : Option Addr} {m c b o : Nat} {L : List α} {v : Value} {cs : List Value} (i : Int) (j : Nat) (cs' : List Value) (d : α)
    (hg : Region.wanted ⟨dst, .store t x y, ty, pos, aft, gd⟩ (yielded ops (Fr n f u).tmps) = true)
    (hO : OS R G B X w et a m c L) (ha : a = some ⟨b, o, none⟩) (hi : inL L i) (hc : CellsAt w b (o + i.toNat * R.n) cs) (hcl : cs.length = R.n)
    (hx : evf n f u x = .pointer (some ⟨b, o + i.toNat * R.n + j, none⟩)) (hy : evf n f u y = v) (hs : ∀ w, (sizeOf t).run P w = .ok v.cells.size w)
    (hfit : Nat.ble (j + v.cells.size) cs.length = true) (h1 : v.cells.toList.all Value.oneCell' = true) (hcs : cs.take j ++ v.cells.toList ++ cs.drop (j + v.cells.size) = cs') (hv : ∀ w, R.ok X w cs' d)
    (h : ∀ w', Step X w (blkL a) X w' → OS R G B X w' et a m c (lset L i d) → next (Fr n f (pusho dst undef u)) w') : OpW P ops Q ⟨dst, .store t x y, ty, pos, aft, gd⟩ n f u w next :=
  o_stPr i j cs' d hg hO ha hi hc hcl hx hy hs hfit h1 hcs (hv w) h
end
/-! bits, shifts, texts put together -/
def iand (k : IntKind) (x y : Int) : Int := k.wrap (BitVec.ofInt k.bits x &&& BitVec.ofInt k.bits y).toNat
def ior (k : IntKind) (x y : Int) : Int := k.wrap (BitVec.ofInt k.bits x ||| BitVec.ofInt k.bits y).toNat
def ixor (k : IntKind) (x y : Int) : Int := k.wrap (BitVec.ofInt k.bits x ^^^ BitVec.ofInt k.bits y).toNat
def ishl (k : IntKind) (x y : Int) : Int := k.wrap (x * 2 ^ (min y.toNat k.bits))
def ishr (k : IntKind) (x y : Int) : Int := x.fdiv (2 ^ (min y.toNat k.bits))
def inot (k : IntKind) (x : Int) : Int := k.wrap (BitVec.ofInt k.bits (if k.signed then -1 else k.max) ^^^ BitVec.ofInt k.bits x).toNat
theorem inR_iand (k : IntKind) (x y : Int) : inR k (iand k x y) := inR_wrap k _
theorem inR_ior (k : IntKind) (x y : Int) : inR k (ior k x y) := inR_wrap k _
theorem inR_ixor (k : IntKind) (x y : Int) : inR k (ixor k x y) := inR_wrap k _
theorem inR_ishl (k : IntKind) (x y : Int) : inR k (ishl k x y) := inR_wrap k _
theorem inR_inot (k : IntKind) (x : Int) : inR k (inot k x) := inR_wrap k _
theorem inR_ishr {k : IntKind} {x : Int} (y : Int) (h : inR k x) : inR k (ishr k x y) := by
  unfold ishr
  have hp : (0 : Int) < 2 ^ (min y.toNat k.bits) := Int.pow_pos (by decide)
  rw [Int.fdiv_eq_ediv_of_nonneg _ (Int.le_of_lt hp)]
  have hl := @kmin_le k; have hu := @kmax_ge k
  unfold inR at *
  rcases Int.lt_or_le x 0 with h0 | h0
  · have h1 : x ≤ x / 2 ^ (min y.toNat k.bits) := Int.le_ediv_of_mul_le hp (by
      have : (1 : Int) ≤ 2 ^ (min y.toNat k.bits) := hp
      have := Int.mul_le_mul_of_nonneg_left this (show 0 ≤ -x by omega)
      rw [Int.neg_mul, Int.neg_mul] at this
      omega)
    have h2 : x / 2 ^ (min y.toNat k.bits) < 0 := Int.ediv_neg_of_neg_of_pos h0 hp
    omega
  · have h1 := Int.ediv_nonneg h0 (Int.le_of_lt hp)
    have h2 := Int.ediv_le_self (2 ^ (min y.toNat k.bits)) h0
    omega
section
variable {P : Program} {n : Nat} {f : Nat → Value} {u : List (Nat × Value)} {w : World} {dst : Option Tmp} {ty : TypeId} {pos : String} {aft : Array Edge} {gd : Option (Nat × Bool)}
theorem x_and {t t' : TypeId} {x y : Operand} {k : IntKind} {a b : Int} (hx : evf n f u x = .int k a) (hy : evf n f u y = .int k b) :
    (execOp (evf n f u) ⟨dst, .binOp .and t x y t', ty, pos, aft, gd⟩).run P w = .ok (.value (.int k (iand k a b))) w := by
  simp [execOp, hx, hy, eqGuard, binOp, Op.intBits, iand]
theorem x_or {t t' : TypeId} {x y : Operand} {k : IntKind} {a b : Int} (hx : evf n f u x = .int k a) (hy : evf n f u y = .int k b) :
    (execOp (evf n f u) ⟨dst, .binOp .or t x y t', ty, pos, aft, gd⟩).run P w = .ok (.value (.int k (ior k a b))) w := by
  simp [execOp, hx, hy, eqGuard, binOp, Op.intBits, ior]
theorem x_xor {t t' : TypeId} {x y : Operand} {k : IntKind} {a b : Int} (hx : evf n f u x = .int k a) (hy : evf n f u y = .int k b) :
    (execOp (evf n f u) ⟨dst, .binOp .xor t x y t', ty, pos, aft, gd⟩).run P w = .ok (.value (.int k (ixor k a b))) w := by
  simp [execOp, hx, hy, eqGuard, binOp, Op.intBits, ixor]
theorem x_shl {t t' : TypeId} {x y : Operand} {k k' : IntKind} {a b : Int} (hx : evf n f u x = .int k a) (hy : evf n f u y = .int k' b) (h0 : 0 ≤ b) :
    (execOp (evf n f u) ⟨dst, .binOp .shl t x y t', ty, pos, aft, gd⟩).run P w = .ok (.value (.int k (ishl k a b))) w := by
  simp [execOp, hx, hy, eqGuard, binOp, Op.shift, ishl, show ¬ b < 0 by omega]
theorem x_shr {t t' : TypeId} {x y : Operand} {k k' : IntKind} {a b : Int} (hx : evf n f u x = .int k a) (hy : evf n f u y = .int k' b) (h0 : 0 ≤ b) :
    (execOp (evf n f u) ⟨dst, .binOp .shr t x y t', ty, pos, aft, gd⟩).run P w = .ok (.value (.int k (ishr k a b))) w := by
  simp [execOp, hx, hy, eqGuard, binOp, Op.shift, ishr, show ¬ b < 0 by omega]
theorem x_bnot {t : TypeId} {x : Operand} {k : IntKind} {a : Int} (hx : evf n f u x = .int k a) :
    (execOp (evf n f u) ⟨dst, .unOp .xor t x, ty, pos, aft, gd⟩).run P w = .ok (.value (.int k (inot k a))) w := by
  simp [execOp, hx, Op.unary, Op.intBits, inot]
theorem x_neg {t : TypeId} {x : Operand} {k : IntKind} {a : Int} (r : Int) (hx : evf n f u x = .int k a) (hw : k.wrap (-a) = r) :
    (execOp (evf n f u) ⟨dst, .unOp .neg t x, ty, pos, aft, gd⟩).run P w = .ok (.value (.int k r)) w := by
  subst hw; simp [execOp, hx, Op.unary, Op.intArith]
theorem x_convw {s d : TypeId} {x : Operand} {k k' : IntKind} {a : Int} {sd : TypeDesc} (hs : P.underlying s = some sd) (hd : P.underlying d = some (.int k')) (hx : evf n f u x = .int k a) :
    (execOp (evf n f u) ⟨dst, .convert s d x, ty, pos, aft, gd⟩).run P w = .ok (.value (.int k' (iwrap k' a))) w := by
  simp [execOp, convert, run_underlying hs, run_underlying hd, hx, Conv.intToInt, iwrap]
theorem x_cat {t t' : TypeId} {x y : Operand} {a b : ByteArray} (hx : evf n f u x = .string a) (hy : evf n f u y = .string b) (h : (a ++ b).size ≤ maxLen) :
    (execOp (evf n f u) ⟨dst, .binOp .add t x y t', ty, pos, aft, gd⟩).run P w = .ok (.value (.string (a ++ b))) w := by
  have h1 : ¬ ((a.size + b.size : Nat) : Int) > IntKind.i64.max := by
    rw [ByteArray.size_append] at h
    rw [show IntKind.i64.max = 9223372036854775807 from by decide]
    unfold maxLen at h; omega
  simp only [execOp, hx, hy, eqGuard, binOp, Op.stringOp, if_neg h1]
  simp
theorem equal_bool {t : TypeId} (a b : Bool) (ht : P.underlying t = some .bool) : (Op.equal t (.bool a) (.bool b)).run P w = .ok (a == b) w := by
  have h : ∀ d : Nat, (Op.equalIn (d + 1) t (.bool a) (.bool b)).run P w = .ok (a == b) w := fun d => by simp [Op.equalIn, run_underlying ht]
  simp only [Op.equal, Op.maxDepth]
  exact h 9999
theorem beq_dec (a b : Bool) : (a == b) = decide (a = b) := by cases a <;> cases b <;> rfl
theorem x_booleq {t t' : TypeId} {x y : Operand} {a b : Bool} (ht : P.underlying t = some .bool) (hx : evf n f u x = .bool a) (hy : evf n f u y = .bool b) :
    (execOp (evf n f u) ⟨dst, .binOp .eql t x y t', ty, pos, aft, gd⟩).run P w = .ok (.value (.bool (decide (a = b)))) w := by
  simp [execOp, hx, hy, eqGuard, binOp, equal_bool a b ht, beq_dec]
theorem x_boolne {t t' : TypeId} {x y : Operand} {a b : Bool} (ht : P.underlying t = some .bool) (hx : evf n f u x = .bool a) (hy : evf n f u y = .bool b) :
    (execOp (evf n f u) ⟨dst, .binOp .neq t x y t', ty, pos, aft, gd⟩).run P w = .ok (.value (.bool (!decide (a = b)))) w := by
  simp [execOp, hx, hy, eqGuard, binOp, equal_bool a b ht, beq_dec]
end
theorem strOfNums_size (L : List Int) : (strOfNums L).size = L.length := by unfold strOfNums; simp [ByteArray.size]
theorem strOfNums_le {L : List Int} (h : L.length ≤ 9223372036854775807) : (strOfNums L).size ≤ maxLen := by rw [strOfNums_size]; exact h
section
variable {P : Program} {n : Nat} {f : Nat → Value} {u : List (Nat × Value)} {w : World} {dst : Option Tmp} {ty : TypeId} {pos : String} {aft : Array Edge} {gd : Option (Nat × Bool)}
/-- The run of a call of a function value. -/
theorem x_callc {fid : FuncId} {y : Operand} {xs : Array Operand} {tys : Array TypeId} {args first cap : Array Value} (hv : evf n f u y = .func (.func fid) first cap)
    (hc : ∀ (args : Array Value) (w : World), (callFunc fid args).run P w = .ok (.enter fid args) w) (hargs : first ++ xs.map (evf n f u) ++ cap = args) :
    (execOp (evf n f u) ⟨dst, .call ⟨.value y, xs, tys⟩, ty, pos, aft, gd⟩).run P w = .ok (.enter fid args) w := by
  subst hargs
  have h := hc (first ++ xs.map (evf n f u) ++ cap) w
  simp only [execOp, resolve, hv, Deferred.ofValue]
  simpa [invoke] using h
end
section
variable {P : Program} {n : Nat} {f : Nat → Value} {u : List (Nat × Value)} {w : World} {dst : Option Tmp} {ty : TypeId} {pos : String} {aft : Array Edge} {gd : Option (Nat × Bool)}
theorem a_add0 (a : Option Addr) (c k : Nat) : (if c = 0 then a else a.map (·.add (0 * k))) = a := by
  split
  · rfl
  · cases a with
    | none => rfl
    | some ad => simp [Addr.add]
/-- 'x[:i]' of what is ours. -/
theorem x_cut {α : Type} {R : Rep α} {X G : List Nat} {B m1 c sz : Nat} {t et ty' : TypeId} {x hx : Operand} {a : Option Addr} {L : List α} {k : IntKind} {i : Int}
    (ht : P.underlying t = some (.slice et)) (hs : ∀ w, (sizeOf et).run P w = .ok sz w) (hxx : evf n f u x = .slice a m1 c) (hhx : evf n f u hx = .int k i) (h : 0 ≤ i ∧ i ≤ (L.length : Int)) (hO : OS R G B X w ty' a m1 c L) :
    (execOp (evf n f u) ⟨dst, .slice t x none (some hx) none, ty, pos, aft, gd⟩).run P w = .ok (.value (.slice a i.toNat c)) w := by
  have hcap := hO.2.1.cap
  have hn := hO.1
  have e : i = ((i.toNat : Nat) : Int) := by omega
  have := x_slice (P := P) (w := w) (n := n) (f := f) (u := u) (dst := dst) (ty := ty) (pos := pos) (aft := aft) (gd := gd) (lx := none) (hx := some hx) (mxx := none) (lo := 0) (hi := i.toNat) (mx := c) ht hs hxx (.inl ⟨rfl, rfl⟩) (.inr ⟨k, by show some (evf n f u hx) = _; rw [hhx, ← e]⟩) (.inl ⟨rfl, rfl⟩) (by omega) (Nat.zero_le _) (by omega) (Nat.le_refl _)
  rw [a_add0] at this
  simpa using this
end
/-! texts: a part, a byte -/
def bsub (s : ByteArray) (l h : Int) : ByteArray := s.extract l.toNat h.toNat
def bget (s : ByteArray) (i : Int) : Int := ((s.data.getD i.toNat 0).toNat : Int)
theorem bsub_le {s : ByteArray} {l h : Int} (hs : s.size ≤ maxLen) (_h : 0 ≤ l ∧ l ≤ h ∧ h ≤ (s.size : Int)) : (bsub s l h).size ≤ maxLen := by
  unfold bsub; rw [ByteArray.size_extract]; omega
theorem bget_u8 (s : ByteArray) (i : Int) : inR .u8 (bget s i) := by
  unfold bget; rw [inR_u8]; have := (s.data.getD i.toNat 0).toNat_lt; omega
section
variable {P : Program} {n : Nat} {f : Nat → Value} {u : List (Nat × Value)} {w : World} {dst : Option Tmp} {ty : TypeId} {pos : String} {aft : Array Edge} {gd : Option (Nat × Bool)}
theorem x_ssub {t : TypeId} {x : Operand} {lx hx : Option Operand} {s : ByteArray} (lo hi : Int) (hxx : evf n f u x = .string s)
    (hl : (lx.map (evf n f u) = none ∧ lo = 0) ∨ ∃ k, lx.map (evf n f u) = some (.int k lo))
    (hh : (hx.map (evf n f u) = none ∧ hi = s.size) ∨ ∃ k, hx.map (evf n f u) = some (.int k hi)) (ht : P.underlying t = some .string)
    (h : 0 ≤ lo ∧ lo ≤ hi ∧ hi ≤ (s.size : Int)) :
    (execOp (evf n f u) ⟨dst, .slice t x lx hx none, ty, pos, aft, gd⟩).run P w = .ok (.value (.string (bsub s lo hi))) w := by
  obtain ⟨h1, h2, h3⟩ := h
  have e2 : 0 ≤ hi := by omega
  have e3 : lo ≤ (hi.toNat : Int) := by omega
  have hb : (Instr.sliceBounds false s.size s.size (lx.map (evf n f u)) (hx.map (evf n f u)) none).run P w = .ok (lo.toNat, hi.toNat, s.size) w := by
    rcases hh with ⟨hh, rfl⟩ | ⟨k2, hk2⟩
    · rcases hl with ⟨hl, rfl⟩ | ⟨k1, hk1⟩
      · rw [hl, hh]; simp [Instr.sliceBounds]
      · rw [hk1, hh]; simp [Instr.sliceBounds, run_sliceBound, h1, h2]
    · rcases hl with ⟨hl, rfl⟩ | ⟨k1, hk1⟩
      · rw [hl, hk2]; simp [Instr.sliceBounds, run_sliceBound, e2, h3]
      · have q1 := run_sliceBound (P := P) (w := w) (k := k1) (i := lo) (y := hi.toNat) (code := .sliceB) h1 e3
        rw [hk1, hk2]; simp [Instr.sliceBounds, run_sliceBound, e2, h3, q1]
  simp [execOp, Instr.sliceAt, Instr.slice, run_underlying ht, hxx, hb, bsub]
theorem x_sub00 {t : TypeId} {x : Operand} {s : ByteArray} (hxx : evf n f u x = .string s) (ht : P.underlying t = some .string) (h : 0 ≤ (0 : Int) ∧ (0 : Int) ≤ (s.size : Int) ∧ (s.size : Int) ≤ (s.size : Int)) :
    (execOp (evf n f u) ⟨dst, .slice t x none none none, ty, pos, aft, gd⟩).run P w = .ok (.value (.string (bsub s 0 s.size))) w :=
  x_ssub 0 s.size hxx (.inl ⟨rfl, rfl⟩) (.inl ⟨rfl, rfl⟩) ht h
theorem x_sub10 {t : TypeId} {x lx : Operand} {s : ByteArray} {k : IntKind} {lo : Int} (hxx : evf n f u x = .string s) (hl : evf n f u lx = .int k lo) (ht : P.underlying t = some .string) (h : 0 ≤ lo ∧ lo ≤ (s.size : Int) ∧ (s.size : Int) ≤ (s.size : Int)) :
    (execOp (evf n f u) ⟨dst, .slice t x (some lx) none none, ty, pos, aft, gd⟩).run P w = .ok (.value (.string (bsub s lo s.size))) w :=
  x_ssub lo s.size hxx (.inr ⟨k, by rw [← hl]; rfl⟩) (.inl ⟨rfl, rfl⟩) ht h
theorem x_sub01 {t : TypeId} {x hx : Operand} {s : ByteArray} {k : IntKind} {hi : Int} (hxx : evf n f u x = .string s) (hh : evf n f u hx = .int k hi) (ht : P.underlying t = some .string) (h : 0 ≤ (0 : Int) ∧ (0 : Int) ≤ hi ∧ hi ≤ (s.size : Int)) :
    (execOp (evf n f u) ⟨dst, .slice t x none (some hx) none, ty, pos, aft, gd⟩).run P w = .ok (.value (.string (bsub s 0 hi))) w :=
  x_ssub 0 hi hxx (.inl ⟨rfl, rfl⟩) (.inr ⟨k, by rw [← hh]; rfl⟩) ht h
theorem x_sub11 {t : TypeId} {x lx hx : Operand} {s : ByteArray} {k k' : IntKind} {lo hi : Int} (hxx : evf n f u x = .string s) (hl : evf n f u lx = .int k lo) (hh : evf n f u hx = .int k' hi) (ht : P.underlying t = some .string) (h : 0 ≤ lo ∧ lo ≤ hi ∧ hi ≤ (s.size : Int)) :
    (execOp (evf n f u) ⟨dst, .slice t x (some lx) (some hx) none, ty, pos, aft, gd⟩).run P w = .ok (.value (.string (bsub s lo hi))) w :=
  x_ssub lo hi hxx (.inr ⟨k, by rw [← hl]; rfl⟩) (.inr ⟨k', by rw [← hh]; rfl⟩) ht h
/-- A byte of a text. -/
theorem x_bget {t : TypeId} {x ix : Operand} {s : ByteArray} {k : IntKind} {i : Int} (hxx : evf n f u x = .string s) (hi : evf n f u ix = .int k i) (ht : P.underlying t = some .string) (h : 0 ≤ i ∧ i < (s.size : Int)) :
    (execOp (evf n f u) ⟨dst, .index t x ix, ty, pos, aft, gd⟩).run P w = .ok (.value (.int .u8 (bget s i))) w := by
  have hlt : i.toNat < s.size := by omega
  have e : s[i.toNat]? = some (s[i.toNat]'hlt) := getElem?_pos s i.toNat hlt
  have e2 : s.data.getD i.toNat 0 = s[i.toNat]'hlt := by
    rw [Array.getD_eq_getD_getElem?, Array.getElem?_eq_getElem (by exact hlt)]; rfl
  simp [execOp, Instr.index, asIntOf, run_underlying ht, hxx, hi, h.1, e, bget, e2]
end
/-! texts: which comes first; a text's bytes as a row -/
def sless (a b : ByteArray) : Bool := Op.bytesLess a.toList b.toList
def bytesL (s : ByteArray) : List Int := s.data.toList.map fun b => (b.toNat : Int)
theorem bytesL_len (s : ByteArray) : (bytesL s).length = s.size := by unfold bytesL; rw [List.length_map]; rfl
section
variable {P : Program} {n : Nat} {f : Nat → Value} {u : List (Nat × Value)} {w : World} {dst : Option Tmp} {ty : TypeId} {pos : String} {aft : Array Edge} {gd : Option (Nat × Bool)}
theorem x_strlss {t t' : TypeId} {x y : Operand} {a b : ByteArray} (hx : evf n f u x = .string a) (hy : evf n f u y = .string b) :
    (execOp (evf n f u) ⟨dst, .binOp .lss t x y t', ty, pos, aft, gd⟩).run P w = .ok (.value (.bool (sless a b))) w := by
  simp [execOp, hx, hy, eqGuard, binOp, Op.stringOp, sless]
theorem x_strleq {t t' : TypeId} {x y : Operand} {a b : ByteArray} (hx : evf n f u x = .string a) (hy : evf n f u y = .string b) :
    (execOp (evf n f u) ⟨dst, .binOp .leq t x y t', ty, pos, aft, gd⟩).run P w = .ok (.value (.bool (sless a b || decide (a = b)))) w := by
  simp [execOp, hx, hy, eqGuard, binOp, Op.stringOp, sless, toList_beq]
theorem x_strgtr {t t' : TypeId} {x y : Operand} {a b : ByteArray} (hx : evf n f u x = .string a) (hy : evf n f u y = .string b) :
    (execOp (evf n f u) ⟨dst, .binOp .gtr t x y t', ty, pos, aft, gd⟩).run P w = .ok (.value (.bool (!(sless a b || decide (a = b))))) w := by
  simp [execOp, hx, hy, eqGuard, binOp, Op.stringOp, sless, toList_beq]
theorem x_strgeq {t t' : TypeId} {x y : Operand} {a b : ByteArray} (hx : evf n f u x = .string a) (hy : evf n f u y = .string b) :
    (execOp (evf n f u) ⟨dst, .binOp .geq t x y t', ty, pos, aft, gd⟩).run P w = .ok (.value (.bool (!(sless a b)))) w := by
  simp [execOp, hx, hy, eqGuard, binOp, Op.stringOp, sless]
end
theorem flat_ints {k : IntKind} {X : List Nat} {w : World} : ∀ (L : List Int), (∀ x ∈ L, inR k x) → Flat (rInt k) X w (L.map (Value.int k)) L
  | [], _ => rfl
  | x :: L, h => Flat.cons1 (rInt_mk (h x (by simp))) (flat_ints L fun y hy => h y (by simp [hy]))
theorem bytesL_u8 (s : ByteArray) : ∀ x ∈ bytesL s, inR .u8 x := fun x hx => by
  unfold bytesL at hx
  obtain ⟨b, _, rfl⟩ := List.mem_map.1 hx
  rw [inR_u8]; have := b.toNat_lt; omega
section
variable {P : Program} {ops : Array Oper} {Q : Exit → Act → World → Prop} {n : Nat} {f : Nat → Value} {u : List (Nat × Value)} {w : World} {next : Act → World → Prop}
variable {dst : Option Tmp} {ty : TypeId} {pos : String} {aft : Array Edge} {gd : Option (Nat × Bool)}
/-- '[]byte(s)': a row that is read. -/
theorem o_s2b {X : List Nat} {s d et : TypeId} {x : Operand} {sv : ByteArray} (hX : Old X w) (hg : Region.wanted ⟨dst, .convert s d x, ty, pos, aft, gd⟩ (yielded ops (Fr n f u).tmps) = true)
    (hs : P.underlying s = some .string) (hd : P.underlying d = some (.slice et)) (he : P.underlying et = some (.int .u8)) (hx : evf n f u x = .string sv) (hm : sv.size ≤ maxLen)
    (h : ∀ a c w', Step X w [] X w' → Sl (rInt .u8) X w' a c (bytesL sv) → next (Fr n f (pusho dst (.slice a (bytesL sv).length c) u)) w') :
    OpW P ops Q ⟨dst, .convert s d x, ty, pos, aft, gd⟩ n f u w next := by
  have hr : (execOp (evf n f u) ⟨dst, .convert s d x, ty, pos, aft, gd⟩).run P w = .ok (.value (.slice (some ⟨w.heap.size, 0, none⟩) sv.size (grownCap w sv.size 0 et)))
      (w.drew.alloc (.cells (bytesRow sv (grownCap w sv.size 0 et)) et ((bytesRow sv (grownCap w sv.size 0 et)).size, (bytesRow sv (grownCap w sv.size 0 et)).size + 1))) := by
    simp [execOp, hx, run_bytes_of_string w s d et sv hs hd he]
  have hE : Evo [] w (w.drew.alloc (.cells (bytesRow sv (grownCap w sv.size 0 et)) et ((bytesRow sv (grownCap w sv.size 0 et)).size, (bytesRow sv (grownCap w sv.size 0 et)).size + 1))) :=
    (RB.drew w.heap.size [] w).trans (Evo.alloc w.drew _)
  refine o_val _ hg hr ?_
  have := h (some ⟨w.heap.size, 0, none⟩) (grownCap w sv.size 0 et) _ (Step.of0 X hE) ?_
  · rwa [bytesL_len] at this
  · refine ⟨by rw [bytesL_len]; exact grownCap_ge _ _ _ _, grownCap_le_maxLen _ _ _ _ hm, .inr ⟨w.heap.size, 0, (bytesL sv).map (Value.int .u8), rfl, fun hb => absurd (hX _ hb) (Nat.lt_irrefl _), ?_, ?_, flat_ints _ (bytesL_u8 sv)⟩⟩
    · have := heap_alloc_new w.drew (.cells (bytesRow sv (grownCap w sv.size 0 et)) et ((bytesRow sv (grownCap w sv.size 0 et)).size, (bytesRow sv (grownCap w sv.size 0 et)).size + 1))
      exact (Array.getElem?_eq_some_iff.1 this).1
    · intro j v hj
      have h1 := heap_alloc_new w.drew (.cells (bytesRow sv (grownCap w sv.size 0 et)) et ((bytesRow sv (grownCap w sv.size 0 et)).size, (bytesRow sv (grownCap w sv.size 0 et)).size + 1))
      have h2 : (w.drew).heap.size = w.heap.size := rfl
      rw [h2] at h1
      have hjl : j < sv.size := by
        have := (List.getElem?_eq_some_iff.1 hj).1; rwa [List.length_map, bytesL_len] at this
      unfold World.cell?
      simp only [h1, Nat.zero_add]
      have h3 : (bytesRow sv (grownCap w sv.size 0 et))[j]? = some v := by
        unfold bytesRow
        rw [Array.getElem?_append_left (by simpa using hjl)]
        rw [← hj]; unfold bytesL
        simp
        rfl
      simpa using h3
end
end Go.Proofs.YtdnahdcjnahfkaaGreatDoor
namespace Go.Proofs.YtdnahdcjnahfkaaGreatDoor
open Go
theorem lget_nat {α : Type} [Inhabited α] (L : List α) (k : Nat) : lget L (k : Int) = L.getD k default := by unfold lget; simp
theorem lget_lt {α : Type} [Inhabited α] {L : List α} {k : Nat} (h : k < L.length) : lget L (k : Int) = L[k] := by rw [lget_nat]; simp [List.getD, List.getElem?_eq_getElem h]
theorem lget_zero {α : Type} [Inhabited α] (x : α) (L : List α) : lget (x :: L) 0 = x := rfl
theorem lget_one {α : Type} [Inhabited α] (x y : α) (L : List α) : lget (x :: y :: L) 1 = y := rfl
theorem lget_two {α : Type} [Inhabited α] (x y z : α) (L : List α) : lget (x :: y :: z :: L) 2 = z := rfl
theorem lset_nat {α : Type} (L : List α) (k : Nat) (v : α) : lset L (k : Int) v = L.set k v := by unfold lset; simp
theorem inL_nat {α : Type} {L : List α} {k : Nat} : inL L (k : Int) ↔ k < L.length := by unfold inL; omega
theorem take_lget {α : Type} [Inhabited α] {L : List α} {k : Nat} (h : k < L.length) : L.take (k + 1) = L.take k ++ [lget L (k : Int)] := by rw [lget_lt h, List.take_succ_eq_append_getElem h]
theorem lget_map {α β : Type} [Inhabited α] (f : β → α) {L : List β} {k : Nat} (h : k < L.length) : lget (L.map f) (k : Int) = f L[k] := by rw [lget_lt (by simpa using h)]; simp
theorem len_lset {α : Type} (L : List α) (i : Int) (v : α) : (lset L i v).length = L.length := by simp [lset]
instance {α : Type} {L : List α} {i : Int} : Decidable (inL L i) := by unfold inL; infer_instance
theorem lget_mem {α : Type} [Inhabited α] {L : List α} {i : Int} (h : inL L i) : lget L i ∈ L := by rw [← lget_eq h]; exact List.getElem_mem _
theorem last_in {α : Type} {L : List α} (h : L ≠ []) : inL L ((L.length : Int) - 1) := by
  have := List.length_pos_iff.2 h; unfold inL; omega
theorem S1 (k : Nat) : (k : Int) + 1 = ((k + 1 : Nat) : Int) := rfl
theorem nat_of {i : Int} (h : 0 ≤ i) : ∃ k : Nat, i = k := ⟨i.toNat, by omega⟩
end Go.Proofs.YtdnahdcjnahfkaaGreatDoor
namespace Go.Proofs.YtdnahdcjnahfkaaGreatDoor
open Go
theorem Ap.l {F G H : List Nat} (h : Ap F (G ++ H)) : Ap F G := fun b hb hm => h b hb (List.mem_append_left _ hm)
theorem Ap.r {F G H : List Nat} (h : Ap F (G ++ H)) : Ap F H := fun b hb hm => h b hb (List.mem_append_right _ hm)
theorem Ap.app {F G H : List Nat} (h : Ap F G) (k : Ap F H) : Ap F (G ++ H) := fun b hb hm => by
  rcases List.mem_append.1 hm with h1 | h1
  · exact h b hb h1
  · exact k b hb h1
theorem Ap.apl {F G H : List Nat} (h : Ap F H) (k : Ap G H) : Ap (F ++ G) H := (Ap.app h.symm k.symm).symm
theorem Ap.subr {F G H : List Nat} (h : Ap F G) (s : Sub H G) : Ap F H := fun b hb hm => h b hb (s b hm)
theorem Ap.cons {F G : List Nat} {b : Nat} (h : Ap F [b]) (k : Ap F G) : Ap F (b :: G) := Ap.app (G := [b]) h k
theorem Ap.grow {B : Nat} {G F F' : List Nat} {w : World} (h : Wr F B F') (k : Ap G F) (o : Old G w) (hB : w.heap.size ≤ B) : Ap G F' := fun b hb hm =>
  (h b hm).elim (k b hb) fun h1 => absurd (o b hb) (Nat.not_lt.2 (Nat.le_trans hB h1))
theorem Sub.appl {F G H : List Nat} (h : Sub (F ++ G) H) : Sub F H := fun b hb => h b (List.mem_append_left _ hb)
theorem Sub.appr {F G H : List Nat} (h : Sub (F ++ G) H) : Sub G H := fun b hb => h b (List.mem_append_right _ hb)
theorem Sub.app {F G H : List Nat} (h : Sub F H) (k : Sub G H) : Sub (F ++ G) H := fun b hb => by
  rcases List.mem_append.1 hb with h1 | h1
  · exact h b h1
  · exact k b h1
theorem Sub.inl (F G : List Nat) : Sub F (F ++ G) := fun _ hb => List.mem_append_left _ hb
theorem Sub.inr (F G : List Nat) : Sub G (F ++ G) := fun _ hb => List.mem_append_right _ hb
theorem Sub.hd (b : Nat) (F : List Nat) : Sub [b] (b :: F) := fun x hx => by simp at hx; subst hx; simp
theorem Sub.tl (b : Nat) (F : List Nat) : Sub F (b :: F) := fun _ hx => List.mem_cons_of_mem _ hx
theorem Wr.sub {F G H : List Nat} {B : Nat} (h : Wr F B G) (s : Sub H G) : Wr F B H := fun x hx => h x (s x hx)
theorem Wr.app {F G H : List Nat} {B : Nat} (h : Wr F B G) (k : Wr F B H) : Wr F B (G ++ H) := fun x hx => by
  rcases List.mem_append.1 hx with h1 | h1
  · exact h x h1
  · exact k x h1
theorem Wr.cons {F G : List Nat} {B b : Nat} (h : Wr F B [b]) (k : Wr F B G) : Wr F B (b :: G) := Wr.app (G := [b]) h k
theorem Wr.self (F : List Nat) (B : Nat) {G : List Nat} (s : Sub G F) : Wr F B G := fun x hx => .inl (s x hx)
theorem Wr.trans {F0 F F' : List Nat} {B0 B : Nat} (h : Wr F B F') (k : Wr F0 B0 F) (hB : B0 ≤ B) : Wr F0 B0 F' := fun x hx => (h x hx).elim (fun h1 => k x h1) fun h1 => .inr (Nat.le_trans hB h1)
theorem Wr.up {F G H : List Nat} {B : Nat} (h : Wr F B H) (s : Sub F G) : Wr G B H := fun x hx => (h x hx).imp (s x) id
theorem Old.app {F G : List Nat} {w : World} (h : Old F w) (k : Old G w) : Old (F ++ G) w := Old.two h k
theorem Old.sub {F G : List Nat} {w : World} (h : Old G w) (s : Sub F G) : Old F w := fun b hb => h b (s b hb)
/-- What we may write now and might not before is new. -/
def News (X : List Nat) (w : World) (X1 : List Nat) (w1 : World) : Prop := w.heap.size ≤ w1.heap.size ∧ ∀ b ∈ X1, b ∈ X ∨ (w.heap.size ≤ b ∧ b < w1.heap.size)
theorem News.refl (X : List Nat) (w : World) : News X w X w := ⟨Nat.le_refl _, fun _ h => .inl h⟩
theorem News.step {X X1 X2 F : List Nat} {w w1 w2 : World} (h : News X w X1 w1) (s : Step X1 w1 F X2 w2) : News X w X2 w2 := ⟨Nat.le_trans h.1 s.evo.size, fun b hb => by
  rcases s.news b hb with h1 | h1
  · exact (h.2 b h1).imp id fun h2 => ⟨h2.1, Nat.lt_of_lt_of_le h2.2 s.evo.size⟩
  · exact .inr ⟨Nat.le_trans h.1 h1.1, h1.2⟩⟩
theorem News.less {X X1 X2 : List Nat} {w w1 : World} (h : News X w X1 w1) (s : Sub X2 X1) : News X w X2 w1 := ⟨h.1, fun b hb => h.2 b (s b hb)⟩
theorem step_of {X X' F : List Nat} {w w' : World} (e : Evo F w w') (hF : Sub F X) (u : Sub X X') (n : News X w X' w') : Step X w F X' w' := ⟨e, hF, u, n.2⟩

/-- .. of what a drawn region may have done so far. -/
theorem stepR {B : Nat} {F X : List Nat} {w w' : World} (r : RB B F w w') (hB : w.heap.size = B) (hF : Sub F X) : Step X w F X w' := ⟨r.mono (Nat.le_of_eq hB) (fun _ h => .inl h), hF, Sub.refl _, fun _ h => .inl h⟩

/-- How data that is ours lies in memory: F: the blocks that it has; X: the blocks that we may write. -/
structure Obj (α : Type) where
  ok : List Nat → List Nat → World → List Value → α → Prop
  step : ∀ {F X w cs d G X' w'}, ok F X w cs d → Step X w G X' w' → Ap F G → ok F X' w' cs d
  mem : ∀ {F X w cs d}, ok F X w cs d → Sub F X
  old : ∀ {F X w cs d}, ok F X w cs d → Old F w
  less : ∀ {F X w cs d X'}, ok F X w cs d → Sub X' X → Sub F X' → ok F X' w cs d
/-- read only -/
def oRd {α : Type} (R : Rep α) : Obj α where
  ok F X w cs d := F = [] ∧ R.ok X w cs d
  step h s _ := ⟨h.1, R.step h.2 s⟩
  mem h := by rw [h.1]; exact Sub.nil _
  old h := by rw [h.1]; exact Old.nil _
  less h s _ := ⟨h.1, R.less h.2 s⟩
/-- a slice of our own -/
def oOwn {α : Type} (R : Rep α) (ty : TypeId) : Obj (List α) where
  ok F X w cs d := ∃ a c, cs = [.slice a d.length c] ∧ F = blkL a ∧ Own R X w 0 ty a c d
  step := by rintro F X w cs d G X' w' ⟨a, c, rfl, rfl, h⟩ s p; exact ⟨a, c, rfl, rfl, h.step s p⟩
  mem := by rintro F X w cs d ⟨a, c, rfl, rfl, h⟩; exact h.mem
  old := by rintro F X w cs d ⟨a, c, rfl, rfl, h⟩; exact fun b hb => (h.lt b hb).2
  less := by rintro F X w cs d X' ⟨a, c, rfl, rfl, h⟩ s m; exact ⟨a, c, rfl, rfl, h.less s m⟩
def oPair {α β : Type} (O : Obj α) (S : Obj β) : Obj (α × β) where
  ok F X w cs d := ∃ F1 F2 c1 c2, F = F1 ++ F2 ∧ cs = c1 ++ c2 ∧ Ap F1 F2 ∧ O.ok F1 X w c1 d.1 ∧ S.ok F2 X w c2 d.2
  step := by
    rintro F X w cs d G X' w' ⟨F1, F2, c1, c2, rfl, rfl, a, h1, h2⟩ s p
    exact ⟨F1, F2, c1, c2, rfl, rfl, a, O.step h1 s p.symm.l.symm, S.step h2 s p.symm.r.symm⟩
  mem := by rintro F X w cs d ⟨F1, F2, c1, c2, rfl, rfl, a, h1, h2⟩; exact (O.mem h1).app (S.mem h2)
  old := by rintro F X w cs d ⟨F1, F2, c1, c2, rfl, rfl, a, h1, h2⟩; exact (O.old h1).app (S.old h2)
  less := by rintro F X w cs d X' ⟨F1, F2, c1, c2, rfl, rfl, a, h1, h2⟩ s m; exact ⟨F1, F2, c1, c2, rfl, rfl, a, O.less h1 s m.appl, S.less h2 s m.appr⟩
def oMap {α β : Type} (g : β → α) (O : Obj α) : Obj β where
  ok F X w cs d := O.ok F X w cs (g d)
  step h s p := O.step h s p
  mem h := O.mem h
  old h := O.old h
  less h s m := O.less h s m

/-- An object of ours, behind a pointer to its block. -/
def MO {α : Type} (O : Obj α) (ty : TypeId) (G : List Nat) (B : Nat) (X : List Nat) (w : World) (F : List Nat) (b : Nat) (d : α) : Prop :=
  (∃ cs F', F = b :: F' ∧ b ∈ X ∧ b ∉ F' ∧ Blk w b cs ty ∧ O.ok F' X w cs d) ∧ Wr G B F
section
variable {α : Type} {O : Obj α} {X X' F G H : List Nat} {w w' : World} {B B' b : Nat} {ty : TypeId} {d : α}
theorem MO.step (h : MO O ty G B X w F b d) (s : Step X w H X' w') (p : Ap F H) : MO O ty G B X' w' F b d := by
  obtain ⟨⟨cs, F', rfl, hb, hn, hk, ho⟩, hw⟩ := h
  exact ⟨⟨cs, F', rfl, s.up b hb, hn, hk.evo s.evo (p b (by simp)), O.step ho s fun x hx => p x (List.mem_cons_of_mem _ hx)⟩, hw⟩
theorem MO.step0 (h : MO O ty G B X w F b d) (s : Step X w [] X' w') : MO O ty G B X' w' F b d := h.step s (Ap.nil_r _)
theorem MO.mem (h : MO O ty G B X w F b d) : Sub F X := by
  obtain ⟨⟨cs, F', rfl, hb, hn, hk, ho⟩, hw⟩ := h
  exact Sub.of_cons hb (O.mem ho)
theorem MO.old (h : MO O ty G B X w F b d) : Old F w := by
  obtain ⟨⟨cs, F', rfl, hb, hn, hk, ho⟩, hw⟩ := h
  intro x hx
  cases hx with
  | head => exact hk.lt
  | tail _ h1 => exact O.old ho x h1
theorem MO.less (h : MO O ty G B X w F b d) (s : Sub X' X) (m : Sub F X') : MO O ty G B X' w F b d := by
  obtain ⟨⟨cs, F', rfl, hb, hn, hk, ho⟩, hw⟩ := h
  exact ⟨⟨cs, F', rfl, m b (by simp), hn, hk, O.less ho s fun x hx => m x (List.mem_cons_of_mem _ hx)⟩, hw⟩
theorem MO.wr (h : MO O ty G B X w F b d) : Wr G B F := h.2
theorem MO.re (h : MO O ty G B X w F b d) (k : Wr H B' F) : MO O ty H B' X w F b d := ⟨h.1, k⟩
theorem MO.pack (h : MO O ty G B X w F b d) : ∃ F', MO O ty G B X w F' b d ∧ ∀ l, Ap l F → Ap l F' := ⟨F, h, fun _ h => h⟩
theorem MO.in (h : MO O ty G B X w F b d) : b ∈ F := by
  obtain ⟨⟨cs, F', rfl, hb, hn, hk, ho⟩, hw⟩ := h; simp
theorem OB.re {cs : List Value} (h : OB G B X w b cs ty) (k : Wr H B' [b]) : OB H B' X w b cs ty := ⟨h.1, h.2.1, k⟩
theorem OB.wr {cs : List Value} (h : OB G B X w b cs ty) : Wr G B [b] := h.2.2
theorem OB.cast {cs cs' : List Value} (h : cs = cs') (k : OB G B X w b cs ty) : OB G B X w b cs' ty := h ▸ k
/-- A block that is given up for reading. -/
theorem OB.release {cs : List Value} (h : OB G B X w b cs ty) : ∃ X1, Sub X1 X ∧ RO X1 w b cs ty ∧ (∀ l, Ap l [b] → Sub l X → Sub l X1) := by
  refine ⟨X.filter fun x => decide (x ≠ b), fun b hb => (List.mem_filter.1 hb).1, ⟨fun hm => ?_, h.2.1⟩, fun l hl hs x hx => List.mem_filter.2 ⟨hs x hx, ?_⟩⟩
  · have := (List.mem_filter.1 hm).2; simp at this
  · have := hl x hx; simp at this; simpa using this
theorem OB.apold {X0 : List Nat} {cs : List Value} (h : OB [] B X w b cs ty) (h0 : ∀ b ∈ X0, b < B) : Ap X0 [b] := fun x hx hm => by
  simp at hm; subst hm
  rcases h.2.2 x (by simp) with h1 | h1
  · cases h1
  · have := h0 x hx; omega
theorem notin_of {F : List Nat} (h : Ap [b] F) : b ∉ F := h b (by simp)
theorem of_notin {F : List Nat} (h : b ∉ F) : Ap [b] F := fun x hx => by simp at hx; subst hx; exact h
end
section
variable {α : Type} {R : Rep α} {X X' F G H : List Nat} {w w' : World} {B B' n c : Nat} {ty : TypeId} {a : Option Addr} {L : List α}
theorem OS.re (h : OS R G B X w ty a n c L) (k : Wr H B' (blkL a)) : OS R H B' X w ty a n c L := ⟨h.1, h.2.1, k⟩
theorem OS.wr (h : OS R G B X w ty a n c L) : Wr G B (blkL a) := h.2.2
theorem OS.nil2 (X : List Nat) (w : World) (G : List Nat) (B : Nat) (ty : TypeId) : OS R G B X w ty none 0 0 ([] : List α) := ⟨rfl, Own.nil (Nat.zero_le _), Wr.nil _ _⟩
theorem OS.len_ (h : OS R G B X w ty a n c L) : OS R G B X w ty a L.length c L := by obtain ⟨rfl, h⟩ := h; exact ⟨rfl, h⟩
theorem oOwn_mk (h : OS R G B X w ty a n c L) : (oOwn R ty).ok (blkL a) X w [.slice a n c] L := by
  obtain ⟨rfl, h1, _⟩ := h; exact ⟨a, c, rfl, rfl, h1⟩
theorem oOwn_nil {X : List Nat} {w : World} {ty : TypeId} : (oOwn R ty).ok [] X w [.slice none 0 0] ([] : List α) := ⟨none, 0, rfl, rfl, Own.nil (Nat.zero_le _)⟩
theorem oRd_mk {cs : List Value} {d : α} (h : R.ok X w cs d) : (oRd R).ok [] X w cs d := ⟨rfl, h⟩
theorem oPair_mk {β : Type} {O : Obj α} {S : Obj β} {F1 F2 : List Nat} {c1 c2 : List Value} {x : α} {y : β} (p : Ap F1 F2) (h : O.ok F1 X w c1 x) (k : S.ok F2 X w c2 y) : (oPair O S).ok (F1 ++ F2) X w (c1 ++ c2) (x, y) := ⟨F1, F2, c1, c2, rfl, rfl, p, h, k⟩
theorem MO.mk {O : Obj α} {b : Nat} {cs : List Value} {d : α} (hb : OB G B X w b cs ty) (hn : Ap [b] F) (ho : O.ok F X w cs d) (hw : Wr G B F) : MO O ty G B X w (b :: F) b d :=
  ⟨⟨cs, F, rfl, hb.1, notin_of hn, hb.2.1, ho⟩, Wr.cons hb.2.2 hw⟩
end
section
variable {α : Type} {R : Rep α} {X X' G : List Nat} {w w' : World} {B n c : Nat} {ty : TypeId} {a : Option Addr} {L : List α}
/-- A slice that is read at once, whoever may write it. -/
def Sq {α : Type} (R : Rep α) (X : List Nat) (w : World) (a : Option Addr) (c : Nat) (L : List α) : Prop := L.length ≤ 9223372036854775807 ∧ Src R X w a c L
theorem Sq.len (h : Sq R X w a c L) : L.length ≤ 9223372036854775807 := h.1
theorem Sq.src (h : Sq R X w a c L) : Src R X w a c L := h.2
theorem Sq.step (h : Sq R X w a c L) (s : Step X w [] X' w') : Sq R X' w' a c L := ⟨h.1, h.2.imp id fun ⟨b, o, xs, h1, h2, h3⟩ => ⟨b, o, xs, h1, h2.evo s.evo (fun h => by cases h), (h3.sub s.new).evo s.evo (s.sub.trans s.up)⟩⟩
theorem Sq.less (h : Sq R X w a c L) (s : Sub X' X) : Sq R X' w a c L := ⟨h.1, h.2.imp id fun ⟨b, o, xs, h1, h2, h3⟩ => ⟨b, o, xs, h1, h2, h3.less s⟩⟩
theorem Sl.sq (h : Sl R X w a c L) : Sq R X w a c L := ⟨h.len, h.src⟩
theorem OS.sq (h : OS R G B X w ty a n c L) : Sq R X w a c L := ⟨h.len, h.src⟩
theorem Sq.nil : Sq R X w none 0 ([] : List α) := Sl.nil.sq
end
end Go.Proofs.YtdnahdcjnahfkaaGreatDoor
namespace Go.Proofs.YtdnahdcjnahfkaaGreatDoor
open Go
theorem strCells_bytesL (s : ByteArray) : Lib.strCells s = (bytesL s).map (Value.int .u8) := by unfold Lib.strCells bytesL; rw [List.map_map]; rfl
section
variable {P : Program} {w : World}
theorem run_appS (base : Nat) (t u ty e : TypeId) (i : TypeInfo) (ht : P.underlying t = some (.slice e)) (hu : P.underlying u = some .string) (hi : P.info? e = some i) (hz : i.zero = some (.int .u8 0))
    (hsize : i.size = 1) (hby : i.bytes = 1) {a0 : Option Addr} {c0 : Nat} (n : Nat) (xs : List Value) (hown : w.ownsRow base e 1 (.slice a0 n c0) n xs) (s : ByteArray)
    (h63 : n + s.size ≤ maxLen) (hbytes : n + s.size ≤ 140737488355328) (hbase : base ≤ w.heap.size) :
    ∃ a' c' w', (Builtin.append_ #[t, u] ty #[.slice a0 n c0, .string s]).run P w = .ok (.slice a' (n + s.size) c') w' ∧ w'.ownsRow base e 1 (.slice a' (n + s.size) c') (n + s.size) (xs ++ Lib.strCells s) ∧
      w.grownBy w' (Value.ownBlock (.slice a0 n c0)) ∧ (∀ b ∈ blkL a', b ∈ blkL a0 ∨ w.heap.size ≤ b) := by
  obtain ⟨v', w', hr, hown', hgr, _⟩ := Lib.run_append_own_string (P := P) w base t u ty e i ht hu hi hz hsize hby (.slice a0 n c0) n xs hown s h63 hbytes hbase
  have hform : ∃ a' c', v' = .slice a' (n + s.size) c' := by
    rcases hown'.2 with ⟨rfl, h0⟩ | ⟨g, cap, cur, rfl, _⟩
    · exact ⟨none, 0, by rw [h0]⟩
    · exact ⟨_, _, rfl⟩
  obtain ⟨a', c', rfl⟩ := hform
  refine ⟨a', c', w', hr, hown', hgr, ?_⟩
  have hxl : xs.length = n := by simpa using hown.1
  have hsmall : n + s.size ≤ 9223372036854775807 := by simp only [maxLen] at h63; omega
  rcases hown.2 with ⟨hv, h0⟩ | ⟨g, cap, cur, hv, hbg, hg, hnc, hcm, hcs, htake⟩
  · injection hv with e1 e2 e3
    subst e1; subst e3; subst h0
    have hx : xs = [] := List.eq_nil_of_length_eq_zero hxl
    subst hx
    obtain ⟨v2, w2, hr2, hown2, _, _⟩ := Lib.run_append_own_string (P := P) w w.heap.size t u ty e i ht hu hi hz hsize hby (.slice none 0 0) 0 [] (World.ownsRow_nil w w.heap.size e 1) s h63 hbytes (Nat.le_refl _)
    rw [hr2] at hr
    injection hr with e1 e2
    subst e1
    intro b hb
    refine .inr ?_
    have := hown2.lt b ((ownBlock_blkL _ _ _ _).2 hb)
    exact this.1
  · injection hv with e1 e2 e3
    subst e1; subst e3
    have hcs' : cur.size = c0 := by simpa using hcs
    by_cases hroom : n + s.size ≤ c0
    · have hr2 := Lib.run_append_room_string (P := P) w t u ty e i ht hu hi hsize g n c0 cur hg s hroom (by omega)
      rw [hr2] at hr
      injection hr with e1 _
      injection e1 with e2 _ _
      subst e2; intro b hb; exact .inl hb
    · have holds : ∀ j u, xs[j]? = some u → w.cell? ((⟨g, 0, none⟩ : Addr).add j) = some u := hown.cells (g := g) rfl
      have hr2 := Lib.run_append_grow_string (P := P) w t u ty e i (.int .u8 0) ht hu hi hz ⟨g, 0, none⟩ n c0 xs (by rw [hsize]; simpa using hxl) holds s (by omega) (by omega) (by rw [hby]; exact growslice_fits (by omega) (by omega))
      rw [hr2] at hr
      injection hr with e1 _
      injection e1 with e2 _ _
      subst e2; intro b hb; simp [blkL] at hb; exact .inr (by omega)
end
section
variable {P : Program} {ops : Array Oper} {Q : Exit → Act → World → Prop} {n : Nat} {f : Nat → Value} {u : List (Nat × Value)} {w : World} {next : Act → World → Prop}
variable {dst : Option Tmp} {ty : TypeId} {pos : String} {aft : Array Edge} {gd : Option (Nat × Bool)}
/-- 'append(x, s...)', s a text. -/
theorem o_appS {X G : List Nat} {B : Nat} {t t' et : TypeId} {x y : Operand} {a : Option Addr} {n1 c : Nat} {L : List Int} {sv : ByteArray}
    (hg : Region.wanted ⟨dst, .call ⟨.builtin .append, #[x, y], #[t, t']⟩, ty, pos, aft, gd⟩ (yielded ops (Fr n f u).tmps) = true)
    (hu : P.underlying t = some (.slice et)) (ht' : P.underlying t' = some .string) (hi : (P.info? et).map (fun i => (i.zero, i.size, i.bytes)) = some (some (.int .u8 0), 1, 1)) (hB : B ≤ w.heap.size)
    (hO : OS (rInt .u8) G B X w et a n1 c L) (hx : evf n f u x = .slice a n1 c) (hy : evf n f u y = .string sv)
    (hb : L.length + sv.size ≤ 140737488355328)
    (h : ∀ a' n' c' w' X', Step X w (blkL a) X' w' → OS (rInt .u8) G B X' w' et a' n' c' (L ++ bytesL sv) → (∀ l, Ap l (blkL a) → Old l w → Ap l (blkL a')) → next (Fr n f (pusho dst (.slice a' n' c') u)) w') :
    OpW P ops Q ⟨dst, .call ⟨.builtin .append, #[x, y], #[t, t']⟩, ty, pos, aft, gd⟩ n f u w next := by
  obtain ⟨i, hi1, hi2, hi3, hi4⟩ := info_parts hi
  obtain ⟨rfl, ⟨hbase, hmem, xs, ho, hf⟩, hW⟩ := hO
  have hm : L.length + sv.size ≤ maxLen := by unfold maxLen; omega
  obtain ⟨a', c', w', hr, hown, hgr, hnew⟩ := run_appS (P := P) 0 t t' ty et i hu ht' hi1 hi2 hi3 hi4 L.length xs ho sv hm hb (Nat.zero_le _)
  have hev : Evo (blkL a) w w' := ⟨hgr.os, hgr.tape, hgr.output, hgr.size, fun b hb hn => hgr.block b hb (fun e => hn ((ownBlock_blkL _ _ _ _).1 e.symm))⟩
  have hst : Step X w (blkL a) (blkL a' ++ X) w' := by
    refine ⟨hev, hmem, fun b hb => List.mem_append_right _ hb, fun b hb => ?_⟩
    rcases List.mem_append.1 hb with h | h
    · rcases hnew b h with h1 | h1
      · exact .inl (hmem b h1)
      · exact .inr ⟨h1, (hown.lt b ((ownBlock_blkL _ _ _ _).2 h)).2⟩
    · exact .inl h
  have hlen : (L ++ bytesL sv).length = L.length + sv.size := by rw [List.length_append, bytesL_len]
  refine o_val (w' := w') (.slice a' (L.length + sv.size) c') hg ?_ (h a' _ c' w' _ hst ⟨hlen.symm, ?_, fun x hx => ?_⟩ fun l hl ho x hx hm => ?_)
  · have hex : (execOp (evf n f u) ⟨dst, .call ⟨.builtin .append, #[x, y], #[t, t']⟩, ty, pos, aft, gd⟩).run P w = ((Builtin.append_ #[t, t'] ty #[.slice a L.length c, .string sv]).run P w).andThen fun v w' => .ok (.value v) w' := by
      unfold execOp
      simp only [resolve, invoke, builtin, Sem.run_bind, Sem.run_pure, Result.andThen_ok, List.map_toArray, List.map_cons, List.map_nil, hx, hy]
    rw [hex, hr]; rfl
  · refine ⟨Nat.zero_le _, fun b hb => List.mem_append_left _ hb, xs ++ Lib.strCells sv, by rw [hlen]; exact hown, ?_⟩
    rw [strCells_bytesL]
    exact ((hf.append (flat_ints _ (bytesL_u8 sv))).sub hst.new).evo hst.evo (hst.sub.trans hst.up)
  · rcases hnew x hx with h1 | h1
    · exact hW x h1
    · exact Or.inr (by omega)
  · rcases hnew x hm with h1 | h1
    · exact hl x hx h1
    · have := ho x hx; omega
end
/-! a pointer held against nil -/
section
variable {P : Program} {n : Nat} {f : Nat → Value} {u : List (Nat × Value)} {w : World} {dst : Option Tmp} {ty : TypeId} {pos : String} {aft : Array Edge} {gd : Option (Nat × Bool)}
theorem equal_ptr_nil {t e : TypeId} (a : Addr) (ht : P.underlying t = some (.pointer e)) : (Op.equal t (.pointer (some a)) (.pointer none)).run P w = .ok false w := by
  have h : ∀ d : Nat, (Op.equalIn (d + 1) t (.pointer (some a)) (.pointer none)).run P w = .ok false w := fun d => by simp [Op.equalIn, run_underlying ht]
  simp only [Op.equal, Op.maxDepth]
  exact h 9999
theorem x_pnil_eq {t t' : TypeId} {x y : Operand} {e : TypeId} {a : Addr} (ht : P.underlying t = some (.pointer e)) (hx : evf n f u x = .pointer (some a)) (hy : evf n f u y = .pointer none) :
    (execOp (evf n f u) ⟨dst, .binOp .eql t x y t', ty, pos, aft, gd⟩).run P w = .ok (.value (.bool false)) w := by
  simp [execOp, hx, hy, eqGuard, binOp, equal_ptr_nil a ht]
theorem x_pnil_ne {t t' : TypeId} {x y : Operand} {e : TypeId} {a : Addr} (ht : P.underlying t = some (.pointer e)) (hx : evf n f u x = .pointer (some a)) (hy : evf n f u y = .pointer none) :
    (execOp (evf n f u) ⟨dst, .binOp .neq t x y t', ty, pos, aft, gd⟩).run P w = .ok (.value (.bool true)) w := by
  simp [execOp, hx, hy, eqGuard, binOp, equal_ptr_nil a ht]
end
end Go.Proofs.YtdnahdcjnahfkaaGreatDoor
