/- The core of the walk: frames as functions of the slot, one law an operation, a law for a region that draws its order, a law for a loop. It speaks of any program; nothing of the claim's own program stands here. -/
import Derived.Tactics2
import Derived.OrdersHeld
import Derived.KernelRfl
import Derived.Deep.LoopGhost
namespace Go.Proofs.YtlkfoebophjhfaaGreatDoor
open Go
theorem blt_lt {a b : Nat} (h : Nat.blt a b = true) : a < b := by rwa [Nat.blt_eq] at h
/-! ### Frames -/
/-- What a slot holds: the first that the list says of it, else what f says. -/
noncomputable def look (f : Nat → Value) (u : List (Nat × Value)) (j : Nat) : Value := @List.rec (Nat × Value) (fun _ => Value) (f j) (fun p _ ih => cond (Nat.beq j p.1) p.2 ih) u
theorem look_nil (f : Nat → Value) (j : Nat) : look f [] j = f j := rfl
theorem look_cons (f : Nat → Value) (p : Nat × Value) (u : List (Nat × Value)) (j : Nat) : look f (p :: u) j = cond (Nat.beq j p.1) p.2 (look f u j) := rfl
def pusho (d : Option Tmp) (v : Value) (u : List (Nat × Value)) : List (Nat × Value) := match d with | some i => (i, v) :: u | none => u
noncomputable def Fr (n : Nat) (f : Nat → Value) (u : List (Nat × Value)) : Act := ⟨((List.range n).map (look f u)).toArray, []⟩
noncomputable def evf (n : Nat) (f : Nat → Value) (u : List (Nat × Value)) : Operand → Value
  | .tmp t => cond (Nat.blt t n) (look f u t) undef
  | .const v => v
  | .global g => .pointer (some ⟨g, 0, none⟩)
  | .func f => .func (.func f) #[] #[]
theorem Fr_eval (n : Nat) (f : Nat → Value) (u : List (Nat × Value)) : (Fr n f u).eval = evf n f u := by
  funext x
  cases x with
  | tmp t =>
    simp only [Act.eval, Fr, evf]
    by_cases h : t < n
    · have hb : Nat.blt t n = true := by rw [Nat.blt_eq]; exact h
      simp [hb, h]
    · have hb : Nat.blt t n = false := by
        cases hh : Nat.blt t n
        · rfl
        · exact absurd (blt_lt hh) h
      simp [hb, h]
  | _ => rfl
theorem Fr_put (n : Nat) (f : Nat → Value) (u : List (Nat × Value)) (d : Option Tmp) (v : Value) : (Fr n f u).put d v = Fr n f (pusho d v u) := by
  cases d with
  | none => rfl
  | some d =>
    simp only [Act.put, Fr, pusho]
    congr 1
    apply Array.ext
    · simp
    · intro i h1 h2
      simp only [List.size_toArray, List.length_map, List.length_range, Array.size_setIfInBounds] at h1 h2
      rw [Array.getElem_setIfInBounds (by simpa using h1)]
      simp only [List.getElem_toArray, List.getElem_map, List.getElem_range, look_cons]
      by_cases hd : d = i
      · subst hd
        simp
      · have : Nat.beq i d = false := by
          cases hh : Nat.beq i d
          · rfl
          · exact absurd (Nat.eq_of_beq_eq_true hh).symm hd
        simp [this, hd]
theorem Fr_ext {n : Nat} {f g : Nat → Value} {u v : List (Nat × Value)} (h : ∀ j, look f u j = look g v j) : Fr n f u = Fr n g v := by
  unfold Fr; rw [show look f u = look g v from funext h]
/-! ### One operation -/
section
variable {P : Program} {ops : Array Oper} {Q : Exit → Act → World → Prop} {n : Nat} {f : Nat → Value} {u : List (Nat × Value)} {w : World} {rest : List Oper} {o : Oper} {next : Act → World → Prop}
/-- One operation carried out at a frame. (A structure, so that nobody looks into it unasked.) -/
structure OpW (P : Program) (ops : Array Oper) (Q : Exit → Act → World → Prop) (o : Oper) (n : Nat) (f : Nat → Value) (u : List (Nat × Value)) (w : World) (next : Act → World → Prop) : Prop where
  ok : if Region.wanted o (yielded ops (Fr n f u).tmps) then o.wp P (Fr n f u) w next Q ∨ (o.asks P (Fr n f u) w ∧ LetsOut Q) else next ((Fr n f u).put o.dst undef) w
/-- A row of operations, likewise. -/
structure GL (P : Program) (ops : Array Oper) (Q : Exit → Act → World → Prop) (l : List Oper) (a : Act) (w : World) : Prop where
  go : wpList P ops Q l a w
theorem OpW_mono {next' : Act → World → Prop} (h : OpW P ops Q o n f u w next) (hn : ∀ a w, next a w → next' a w) : OpW P ops Q o n f u w next' := by
  refine ⟨?_⟩
  have h := h.ok
  split
  · rename_i hw
    rw [if_pos hw] at h
    exact h.imp (Oper.wp_mono hn) id
  · rename_i hw
    rw [if_neg hw] at h
    exact hn _ _ h
theorem sq (h : OpW P ops Q o n f u w (GL P ops Q rest)) : GL P ops Q (o :: rest) (Fr n f u) w :=
  ⟨(OpW_mono (next' := wpList P ops Q rest) h fun _ _ h => h.go).ok⟩
/-- It yields a value, and a world. -/
theorem o_val {dst : Option Tmp} {op : Op} {ty : TypeId} {pos : String} {aft : Array Edge} {gd : Option (Nat × Bool)} {w' : World} (v : Value)
    (hg : Region.wanted ⟨dst, op, ty, pos, aft, gd⟩ (yielded ops (Fr n f u).tmps) = true)
    (hr : (execOp (evf n f u) ⟨dst, op, ty, pos, aft, gd⟩).run P w = .ok (.value v) w') (h : next (Fr n f (pusho dst v u)) w') :
    OpW P ops Q ⟨dst, op, ty, pos, aft, gd⟩ n f u w next := by
  refine ⟨?_⟩
  rw [if_pos hg]
  refine .inl ?_
  unfold Oper.wp
  rw [Fr_eval, hr]
  show next ((Fr n f u).put dst v) w'
  rw [Fr_put]
  exact h
/-- It yields a value, and leaves the world alone. -/
theorem o_pv {dst : Option Tmp} {op : Op} {ty : TypeId} {pos : String} {aft : Array Edge} {gd : Option (Nat × Bool)} (v : Value)
    (hg : Region.wanted ⟨dst, op, ty, pos, aft, gd⟩ (yielded ops (Fr n f u).tmps) = true)
    (hr : (execOp (evf n f u) ⟨dst, op, ty, pos, aft, gd⟩).run P w = .ok (.value v) w) (h : next (Fr n f (pusho dst v u)) w) :
    OpW P ops Q ⟨dst, op, ty, pos, aft, gd⟩ n f u w next := o_val v hg hr h
/-- It does something to the world, and yields nothing. -/
theorem o_skip {dst : Option Tmp} {op : Op} {ty : TypeId} {pos : String} {aft : Array Edge} {gd : Option (Nat × Bool)} {w' : World}
    (hg : Region.wanted ⟨dst, op, ty, pos, aft, gd⟩ (yielded ops (Fr n f u).tmps) = true)
    (hr : (execOp (evf n f u) ⟨dst, op, ty, pos, aft, gd⟩).run P w = .ok .skip w') (h : next (Fr n f (pusho dst undef u)) w') :
    OpW P ops Q ⟨dst, op, ty, pos, aft, gd⟩ n f u w next := by
  refine ⟨?_⟩
  rw [if_pos hg]
  refine .inl ?_
  unfold Oper.wp
  rw [Fr_eval, hr]
  show next ((Fr n f u).put dst undef) w'
  rw [Fr_put]
  exact h
/-- Its guard says no. -/
theorem o_not {dst : Option Tmp} {op : Op} {ty : TypeId} {pos : String} {aft : Array Edge} {gd : Option (Nat × Bool)}
    (hg : Region.wanted ⟨dst, op, ty, pos, aft, gd⟩ (yielded ops (Fr n f u).tmps) = false) (h : next (Fr n f (pusho dst undef u)) w) :
    OpW P ops Q ⟨dst, op, ty, pos, aft, gd⟩ n f u w next := by
  refine ⟨?_⟩
  rw [if_neg (by simp [hg])]
  show next ((Fr n f u).put dst undef) w
  rw [Fr_put]
  exact h
/-- What a contract says: it returns, a value and a world of which this holds. -/
def Ret (Φ : Value → World → Prop) : Ending → World → Prop := fun e w' => ∃ v, e = .returned v ∧ Φ v w'
/-- A call, by its contract. -/
theorem o_call {dst : Option Tmp} {op : Op} {ty : TypeId} {pos : String} {aft : Array Edge} {gd : Option (Nat × Bool)} {Φ : Value → World → Prop} (fid : FuncId) (args : Array Value)
    (hg : Region.wanted ⟨dst, op, ty, pos, aft, gd⟩ (yielded ops (Fr n f u).tmps) = true)
    (hr : (execOp (evf n f u) ⟨dst, op, ty, pos, aft, gd⟩).run P w = .ok (.enter fid args) w)
    (hc : Calls P fid args w (Ret Φ)) (h : ∀ v w', Φ v w' → next (Fr n f (pusho dst v u)) w') :
    OpW P ops Q ⟨dst, op, ty, pos, aft, gd⟩ n f u w next := by
  refine ⟨?_⟩
  rw [if_pos hg]
  refine .inl ?_
  unfold Oper.wp
  rw [Fr_eval, hr]
  refine hc.mono ?_
  rintro e w' ⟨v, rfl, hv⟩
  show next ((Fr n f u).put dst v) w'
  rw [Fr_put]
  exact h v w' hv
/-- The run of a call of a function by its number. -/
theorem x_call {dst : Option Tmp} {ty : TypeId} {pos : String} {aft : Array Edge} {gd : Option (Nat × Bool)} {fid : FuncId} {xs : Array Operand} {tys : Array TypeId} {args : Array Value}
    (hc : ∀ (args : Array Value) (w : World), (callFunc fid args).run P w = .ok (.enter fid args) w) (hargs : xs.map (evf n f u) = args) :
    (execOp (evf n f u) ⟨dst, .call ⟨.value (.func fid), xs, tys⟩, ty, pos, aft, gd⟩).run P w = .ok (.enter fid args) w := by
  subst hargs
  have h := hc (xs.map (evf n f u)) w
  simp only [execOp, resolve, evf, Deferred.ofValue]
  simpa [invoke] using h
/-! ### Code -/
variable {a : Act} {c : Code} {fn : Func} {R : Ending → World → Prop}
theorem nil_ (h : Q .normal (Fr n f u) w) : GL P ops Q [] (Fr n f u) w := ⟨h⟩
theorem reg_ {id : Nat} {l : List Oper} (h : GL P l.toArray Q l (Fr n f u) w) : (Code.region id l.toArray false).wp P Q (Fr n f u) w := wp_region_lit h.go
/-- One piece of code ahead of another: what follows stands behind a variable. -/
theorem seq_ {x y : Code} (h : ∀ K : Act → World → Prop, (∀ n f u w, y.wp P Q (Fr n f u) w → K (Fr n f u) w) → x.wp P (Exit.then K Q) a w) : (Code.seq x y).wp P Q a w :=
  wp_seq (h (y.wp P Q) fun _ _ _ _ h => h)
theorem then_normal {K : Act → World → Prop} (h : K a w) : Exit.then K Q .normal a w := h
theorem then_exit {K : Act → World → Prop} {i : Nat} (h : Q (.exit i) a w) : Exit.then K Q (.exit i) a w := h
theorem then_ret {K : Act → World → Prop} (h : Q .ret a w) : Exit.then K Q .ret a w := h
theorem blk_normal {i : Nat} (h : Q .normal a w) : Exit.inBlock i Q .normal a w := h
theorem blk_ret {i : Nat} (h : Q .ret a w) : Exit.inBlock i Q .ret a w := h
theorem blk_exit {i : Nat} (h : Q .normal a w) : Exit.inBlock i Q (.exit i) a w := by simpa [Exit.inBlock] using h
theorem blk_exit_ne {i j : Nat} (hij : Nat.beq j i = false) (h : Q (.exit j) a w) : Exit.inBlock i Q (.exit j) a w := by
  have : j ≠ i := fun e => by subst e; rw [Nat.beq_refl] at hij; cases hij
  simpa [Exit.inBlock, this] using h
theorem cond_t {cx : Operand} {x y : Code} (hc : evf n f u cx = .bool true) (h : x.wp P Q (Fr n f u) w) : (Code.cond cx x y).wp P Q (Fr n f u) w := wp_cond_true (by rw [Fr_eval]; exact hc) h
theorem cond_f {cx : Operand} {x y : Code} (hc : evf n f u cx = .bool false) (h : y.wp P Q (Fr n f u) w) : (Code.cond cx x y).wp P Q (Fr n f u) w := wp_cond_false (by rw [Fr_eval]; exact hc) h
theorem cond_d {cx : Operand} {x y : Code} (p : Prop) [Decidable p] (hc : evf n f u cx = .bool (decide p)) (ht : p → x.wp P Q (Fr n f u) w) (hf : ¬ p → y.wp P Q (Fr n f u) w) : (Code.cond cx x y).wp P Q (Fr n f u) w := by
  by_cases hp : p
  · exact cond_t (by rw [hc, decide_eq_true hp]) (ht hp)
  · exact cond_f (by rw [hc, decide_eq_false hp]) (hf hp)
theorem cond_b {cx : Operand} {x y : Code} (b : Bool) (hc : evf n f u cx = .bool b) (ht : b = true → x.wp P Q (Fr n f u) w) (hf : b = false → y.wp P Q (Fr n f u) w) : (Code.cond cx x y).wp P Q (Fr n f u) w := by
  cases b
  · exact cond_f hc (hf rfl)
  · exact cond_t hc (ht rfl)
/-- The end of a function, behind a variable: what is asked of it. -/
structure EndQ (P : Program) (fn : Func) (R : Ending → World → Prop) (n : Nat) (Q : Exit → Act → World → Prop) : Prop where
  ret : ∀ f u w v, (results fn (Fr n f u).tmps).run P w = .ok v w → R (.returned v) w → Q .ret (Fr n f u) w
  normal : ∀ f u w v, (results fn (Fr n f u).tmps).run P w = .ok v w → R (.returned v) w → Q .normal (Fr n f u) w
  panic : ∀ c a d v w, Q (.panic c) (a.put d v) w → Q (.panic c) a w
theorem enter_ {fid : FuncId} {args : Array Value} (hf : P.funcs[fid]? = some fn) (hb : fn.body = some c) (n : Nat) (u : List (Nat × Value))
    (hfr : args.toList ++ List.replicate (fn.ntmps - args.size) undef = (List.range n).map (look (fun _ => undef) u))
    (h : ∀ Q, EndQ P fn R n Q → c.wp P Q (Fr n (fun _ => undef) u) w) : Calls P fid args w R := by
  refine calls_of_wp hf hb ?_
  have : (⟨args ++ Array.replicate (fn.ntmps - args.size) undef, []⟩ : Act) = Fr n (fun _ => undef) u := by
    unfold Fr
    rw [← hfr]
    congr 1
    apply Array.ext'
    simp
  rw [this]
  exact h _ ⟨fun _ _ _ v h1 h2 => ⟨rfl, v, h1, h2⟩, fun _ _ _ v h1 h2 => ⟨rfl, v, h1, h2⟩, fun c a d v w h => by cases d <;> exact h⟩
theorem end_ret {Φ : Value → World → Prop} (he : EndQ P fn (Ret Φ) n Q) (v : Value) (hr : (results fn (Fr n f u).tmps).run P w = .ok v w) (hR : Φ v w) : Q .ret (Fr n f u) w := he.ret _ _ _ v hr ⟨v, rfl, hR⟩
theorem end_normal {Φ : Value → World → Prop} (he : EndQ P fn (Ret Φ) n Q) (v : Value) (hr : (results fn (Fr n f u).tmps).run P w = .ok v w) (hR : Φ v w) : Q .normal (Fr n f u) w := he.normal _ _ _ v hr ⟨v, rfl, hR⟩
/-- g at the slots of the mask, f at all others. -/
def mixf (m : Nat) (f g : Nat → Value) : Nat → Value := fun j => cond (Nat.testBit m j) (g j) (f j)
/-- Outside the mask the one is as the other. -/
def AgB (m : Nat) (F fb : Nat → Value) : Prop := ∀ j, Nat.testBit m j = false → fb j = F j
theorem AgB.mix (m : Nat) (F g : Nat → Value) : AgB m F (mixf m F g) := fun j hj => by simp [mixf, hj]
theorem AgB.look {m : Nat} {F fb : Nat → Value} {u : List (Nat × Value)} (h : AgB m F fb) (hu : (u.all fun p => Nat.testBit m p.1) = true) : AgB m F (look fb u) := fun j hj => by
  induction u with
  | nil => exact h j hj
  | cons p u ih =>
    simp only [List.all_cons, Bool.and_eq_true] at hu
    rw [look_cons]
    have : Nat.beq j p.1 = false := by
      cases hh : Nat.beq j p.1
      · rfl
      · rw [Nat.eq_of_beq_eq_true hh, hu.1] at hj; cases hj
    rw [this]
    exact ih hu.2
theorem AgB.nest {m m2 : Nat} {F fb g : Nat → Value} {u : List (Nat × Value)} (h : AgB m F fb) (hu : (u.all fun p => Nat.testBit m p.1) = true) (hm : Nat.land m2 m = m2) : AgB m F (mixf m2 (Go.Proofs.YtlkfoebophjhfaaGreatDoor.look fb u) g) := fun j hj => by
  have : Nat.testBit m2 j = false := by
    have e : (m2 &&& m) = m2 := hm
    rw [← e, Nat.testBit_and, hj, Bool.and_false]
  simp only [mixf, this, cond_false]
  exact h.look hu j hj
/-- The frame at hand is one that a relation at F, with the mask m, describes by l. -/
def FitF (m : Nat) (F fb : Nat → Value) (u l : List (Nat × Value)) : Prop := AgB m F fb ∧ (u.all fun p => Nat.testBit m p.1) = true ∧ ∀ p ∈ l, look fb u p.1 = p.2
theorem FitF.eq {m : Nat} {F fb : Nat → Value} {u l : List (Nat × Value)} (h : FitF m F fb u l) : Fr n fb u = Fr n (mixf m F (look fb u)) l := by
  obtain ⟨h1, h2, h3⟩ := h
  refine Fr_ext fun j => ?_
  have key : ∀ l : List (Nat × Value), (∀ p ∈ l, look fb u p.1 = p.2) → look (mixf m F (look fb u)) l j = look fb u j := by
    intro l
    induction l with
    | nil =>
      intro _
      rw [look_nil]
      cases hb : Nat.testBit m j
      · simp only [mixf, hb, cond_false]; exact (h1.look h2 j hb).symm
      · simp [mixf, hb]
    | cons p l ih =>
      intro hp
      rw [look_cons]
      cases hh : Nat.beq j p.1
      · exact ih fun q hq => hp q (List.mem_cons_of_mem _ hq)
      · rw [Nat.eq_of_beq_eq_true hh]; exact (hp p List.mem_cons_self).symm
  exact (key l h3).symm
theorem vs_nil {p : Nat × Value → Prop} : ∀ x ∈ ([] : List (Nat × Value)), p x := fun _ h => by cases h
theorem vs_cons {p : Nat × Value → Prop} {x : Nat × Value} {l : List (Nat × Value)} (h : p x) (hl : ∀ y ∈ l, p y) : ∀ y ∈ x :: l, p y := fun y hy => by
  cases hy with
  | head => exact h
  | tail _ hm => exact hl y hm
theorem fit_mk {m : Nat} {F fb : Nat → Value} {u l : List (Nat × Value)} (h1 : AgB m F fb) (h2 : (u.all fun p => Nat.testBit m p.1) = true) (h3 : ∀ p ∈ l, look fb u p.1 = p.2) : FitF m F fb u l := ⟨h1, h2, h3⟩
/-- A loop: what holds at its head, with a number that goes down; the frame is the one at the loop's beginning but for some slots, which are told, and those of a mask, of which nothing is told. -/
theorem loop_ {c : Code} (m : Nat) (J : Nat → List (Nat × Value) → World → Prop) (k0 : Nat) (l0 : List (Nat × Value)) (hl : ∀ p ∈ l0, look f u p.1 = p.2) (h0 : J k0 l0 w)
    (round : ∀ k l w g, J k l w → ∀ K : Act → World → Prop, (∀ fb u' w', (∃ k' l', k' < k ∧ FitF m (look f u) fb u' l' ∧ J k' l' w') → K (Fr n fb u') w') → c.wp P (Exit.then K Q) (Fr n (mixf m (look f u) g) l) w) : (Code.loop c).wp P Q (Fr n f u) w := by
  have key : ∀ k l w g, J k l w → (Code.loop c).wp P Q (Fr n (mixf m (look f u) g) l) w := by
    intro k0 l0 w0 g0 h0
    intro b kk cs
    have : ∀ k l w g, J k l w → ∃ e a' w', Q e a' w' ∧ Arrives P (lone (b.at (Fr n (mixf m (look f u) g) l) (.code c :: .inLoop c :: kk)) cs w) b kk cs e a' w' := by
      intro k
      induction k using Nat.strongRecOn with
      | _ k ih =>
        intro l w g hJ
        obtain ⟨e, a₁, w₁, hq, harr⟩ := round k l w g hJ (fun a' w' => ∃ k' l' g', k' < k ∧ a' = Fr n (mixf m (look f u) g') l' ∧ J k' l' w') (fun fb u' w' ⟨k', l', hk, hfit, hJ'⟩ => ⟨k', l', look fb u', hk, hfit.eq, hJ'⟩) b (.inLoop c :: kk) cs
        cases e with
        | normal =>
          obtain ⟨k', l', g', hlt, rfl, hJ'⟩ := hq
          obtain ⟨e₂, a₂, w₂, hq₂, harr₂⟩ := ih k' hlt l' w₁ g' hJ'
          exact ⟨e₂, a₂, w₂, hq₂, .of_steps (Steps.trans harr (.one step_inLoop)) harr₂⟩
        | exit id => exact ⟨_, a₁, w₁, hq, .pass (x := .inLoop c) rfl (fun _ _ => .inl (by simp)) harr⟩
        | goto l => exact ⟨_, a₁, w₁, hq, .pass (x := .inLoop c) rfl (fun _ _ => .inl (by simp)) harr⟩
        | ret => exact ⟨_, a₁, w₁, hq, .pass (x := .inLoop c) rfl (fun _ _ => .inl (by simp)) harr⟩
        | panic ch => exact ⟨_, a₁, w₁, hq, .pass (x := .inLoop c) rfl (fun _ _ => .inl (by simp)) harr⟩
        | outgrown => exact ⟨_, a₁, w₁, hq, .pass (x := .inLoop c) rfl (fun _ _ => .inl (by simp)) harr⟩
    obtain ⟨e, a', w', hq, harr⟩ := this k0 l0 w0 g0 h0
    exact ⟨e, a', w', hq, .of_steps (.one step_loop) harr⟩
  have e : Fr n f u = Fr n (mixf m (look f u) (look f u)) l0 := by
    refine Fr_ext fun j => ?_
    have k2 : ∀ l : List (Nat × Value), (∀ p ∈ l, look f u p.1 = p.2) → look (mixf m (look f u) (look f u)) l j = look f u j := by
      intro l
      induction l with
      | nil => intro _; rw [look_nil]; cases hb : Nat.testBit m j <;> simp [mixf, hb]
      | cons p l ih =>
        intro hp
        rw [look_cons]
        cases hh : Nat.beq j p.1
        · exact ih fun q hq => hp q (List.mem_cons_of_mem _ hq)
        · rw [Nat.eq_of_beq_eq_true hh]; exact (hp p List.mem_cons_self).symm
    exact (k2 l0 hl).symm
  rw [e]
  exact key k0 l0 w (look f u) h0
/-- At a place where ways meet (or to forget slots): go on from all that J describes. -/
theorem join_ {c : Code} (m : Nat) (J : List (Nat × Value) → World → Prop)
    (h : ∀ K : Act → World → Prop, (∀ fb u' w', (∃ l', FitF m (look f u) fb u' l' ∧ J l' w') → K (Fr n fb u') w') → c.wp P (Exit.then K Q) (Fr n f u) w)
    (hn : ∀ l' w' g, J l' w' → Q .normal (Fr n (mixf m (look f u) g) l') w') : c.wp P Q (Fr n f u) w :=
  wp_mono (h (fun a' w' => ∃ l' g', a' = Fr n (mixf m (look f u) g') l' ∧ J l' w') (fun fb u' w' ⟨l', hfit, hJ⟩ => ⟨l', look fb u', hfit.eq, hJ⟩)) fun e a' w' hq => by
    cases e with
    | normal => obtain ⟨l', g', ha, hJ⟩ := hq; subst ha; exact hn l' w' g' hJ
    | _ => exact hq
/-- Where the frame's own list may be taken for a relation at itself. -/
theorem AgB.self (m : Nat) (f : Nat → Value) (u : List (Nat × Value)) : AgB m (Go.Proofs.YtlkfoebophjhfaaGreatDoor.look f u) (Go.Proofs.YtlkfoebophjhfaaGreatDoor.look f u) := fun _ _ => rfl
/-- A frame is the same when its list is taken into its ground. -/
theorem ground_ {c : Code} (h : c.wp P Q (Fr n (look f u) []) w) : c.wp P Q (Fr n f u) w := by
  have : Fr n f u = Fr n (look f u) [] := Fr_ext fun j => rfl
  rw [this]; exact h
theorem cond_nd {cx : Operand} {x y : Code} (p : Prop) [Decidable p] (hc : evf n f u cx = .bool (!decide p)) (ht : ¬ p → x.wp P Q (Fr n f u) w) (hf : p → y.wp P Q (Fr n f u) w) : (Code.cond cx x y).wp P Q (Fr n f u) w := by
  by_cases hp : p
  · exact cond_f (by rw [hc, decide_eq_true hp]; rfl) (hf hp)
  · exact cond_t (by rw [hc, decide_eq_false hp]; rfl) (ht hp)
/-- The run of a test whose outcome is known. -/
theorem x_dt {o : Oper} {p : Prop} [Decidable p] (hr : (execOp (evf n f u) o).run P w = .ok (.value (.bool (decide p))) w) (hp : p) : (execOp (evf n f u) o).run P w = .ok (.value (.bool true)) w := by rw [hr, decide_eq_true hp]
theorem x_df {o : Oper} {p : Prop} [Decidable p] (hr : (execOp (evf n f u) o).run P w = .ok (.value (.bool (decide p))) w) (hp : ¬ p) : (execOp (evf n f u) o).run P w = .ok (.value (.bool false)) w := by rw [hr, decide_eq_false hp]
theorem x_ndt {o : Oper} {p : Prop} [Decidable p] (hr : (execOp (evf n f u) o).run P w = .ok (.value (.bool (!decide p))) w) (hp : ¬ p) : (execOp (evf n f u) o).run P w = .ok (.value (.bool true)) w := by rw [hr, decide_eq_false hp]; rfl
theorem x_ndf {o : Oper} {p : Prop} [Decidable p] (hr : (execOp (evf n f u) o).run P w = .ok (.value (.bool (!decide p))) w) (hp : p) : (execOp (evf n f u) o).run P w = .ok (.value (.bool false)) w := by rw [hr, decide_eq_true hp]; rfl
end
/-! ### A region that draws its order -/
section
variable {P : Program} {ops : Array Oper} {Q : Exit → Act → World → Prop} {m : Nat} {R : World → World → Prop}
/-- Whatever order is picked from here on; each operation ahead of number m moves the world along R. -/
def AnyR (P : Program) (ops : Array Oper) (Q : Exit → Act → World → Prop) (R : World → World → Prop) (m : Nat) : Nat → Array Bool → Act → World → Prop
  | 0, listed, a, w => Region.ready .any ops listed = [] ∧ Q .normal a w
  | fuel + 1, listed, a, w =>
    (Region.ready .any ops listed = [] → Q .normal a w) ∧
    ∀ i ∈ Region.ready .any ops listed, wpOp P ops Q i (fun a' w' => (i < m → R w w') ∧ AnyR P ops Q R m fuel (listed.setIfInBounds i true) a' w') a w
theorem wpAny_of_AnyR : ∀ (fuel : Nat) (listed : Array Bool) (a : Act) (w : World), AnyR P ops Q R m fuel listed a w → wpAny P .any ops Q fuel listed a w
  | 0, _, _, _, h => h
  | fuel + 1, _, _, _, h => ⟨h.1, fun i hi => wpOp_mono (fun a' w' h' => wpAny_of_AnyR fuel _ a' w' h'.2) (h.2 i hi)⟩
/-- Does number t wait for number i, perhaps through others? -/
def waitsOn (ops : Array Oper) : Nat → Nat → Nat → Bool
  | 0, _, _ => false
  | k + 1, t, i => match ops[t]? with
    | some o => o.after.any (fun e => Region.binds .any e && Nat.beq e.on i) || o.after.any (fun e => Region.binds .any e && waitsOn ops k e.on i)
    | none => false
def closedL (ops : Array Oper) (listed : Array Bool) : Prop := ∀ j oj, ops[j]? = some oj → listed.getD j false = true → ∀ e ∈ oj.after, Region.binds .any e = true → listed.getD e.on false = true
theorem waitsOn_listed {listed : Array Bool} (hcl : closedL ops listed) {i : Nat} : ∀ (k t : Nat) (ot : Oper), ops[t]? = some ot →
    (∀ e ∈ ot.after, Region.binds .any e = true → listed.getD e.on false = true) → waitsOn ops k t i = true → listed.getD i false = true := by
  intro k
  induction k with
  | zero => intro t ot _ _ h; cases h
  | succ k ih =>
    intro t ot ht hdeps h
    simp only [waitsOn, ht, Bool.or_eq_true] at h
    rcases h with h | h
    · obtain ⟨e, he, hb⟩ := Array.any_eq_true'.1 h
      simp only [Bool.and_eq_true] at hb
      have := Nat.eq_of_beq_eq_true hb.2
      rw [← this]
      exact hdeps e he hb.1
    · obtain ⟨e, he, hb⟩ := Array.any_eq_true'.1 h
      simp only [Bool.and_eq_true] at hb
      have hl := hdeps e he hb.1
      cases ho : ops[e.on]? with
      | none => rw [waitsOn.eq_def] at hb; cases k <;> simp [ho] at hb
      | some oe => exact ih e.on oe ho (fun e' he' hb' => hcl e.on oe ho hl e' he' hb') hb.2
theorem closedL_set {listed : Array Bool} (hcl : closedL ops listed) {i : Nat} (hi : i ∈ Region.ready .any ops listed) : closedL ops (listed.setIfInBounds i true) := by
  obtain ⟨_, oi, hoi, hall⟩ := mem_ready.1 hi
  intro j oj hj hl e he hb
  by_cases hij : i = j
  · subst hij
    have : oj = oi := Option.some.inj (hj.symm.trans hoi)
    subst this
    exact getD_set_true (hall e he hb)
  · rw [getD_set_ne false hij] at hl
    exact getD_set_true (hcl j oj hj hl e he hb)
theorem getD_false_of_true {listed : Array Bool} {i : Nat} (h : listed.getD i true = false) : listed.getD i false = false := by
  rcases Nat.lt_or_ge i listed.size with h' | h'
  · simp [h'] at h ⊢; exact h
  · simp [Array.getElem?_eq_none h'] at h
theorem AnyR_first (htr : ∀ a b c : World, R a b → R b c → R a c) (hrf : ∀ a : World, R a a) {i : Nat} {oi : Oper} {v : Value} (hi : ops[i]? = some oi) (him : i < m)
    (hsel : ∀ (j : Nat) (o : Oper) cs b, ops[j]? = some o → o.op ≠ .select cs b) (htail : ∀ t, m ≤ t → t < ops.size → waitsOn ops ops.size t i = true)
    (hQ : ∀ c a w, Q (.panic c) (a.put oi.dst v) w → Q (.panic c) a w) :
    ∀ (fuel : Nat) (listed : Array Bool) (a : Act) (w : World), closedL ops listed →
      (∀ j oj, ops[j]? = some oj → j ≠ i → listed.getD j true = false → (∀ e ∈ oj.after, Region.binds .any e = true → e.on ≠ i) → oi.apart ops oj = true) →
      i ∈ Region.ready .any ops listed → YieldsIf P ops (R w) oi v a →
      AnyR P ops Q R m fuel (listed.setIfInBounds i true) (a.put oi.dst v) w → AnyR P ops Q R m (fuel + 1) listed a w := by
  intro fuel
  induction fuel with
  | zero =>
    intro listed a w _ _ hr hy H
    refine ⟨fun h => (by rw [h] at hr; cases hr), fun j hj => ?_⟩
    by_cases hji : j = i
    · subst hji; exact hy.wpOp hi (hrf w) ⟨fun _ => hrf w, H⟩
    · have := ready_mono hj hji
      rw [H.1] at this
      cases this
  | succ fuel ih =>
    intro listed a w hcl hfree hr hy H
    refine ⟨fun h => (by rw [h] at hr; cases hr), fun j hj => ?_⟩
    by_cases hji : j = i
    · subst hji; exact hy.wpOp hi (hrf w) ⟨fun _ => hrf w, H⟩
    · have h1 := H.2 j (ready_mono hj hji)
      obtain ⟨hjun, oj, hoj, hall⟩ := mem_ready.1 hj
      have hnot : ∀ e ∈ oj.after, Region.binds .any e = true → e.on ≠ i := fun e he hb heq => by
        have h1 := hall e he hb
        have h0 := (mem_ready.1 hr).1
        rw [heq] at h1
        rw [getD_false_of_true h0] at h1
        cases h1
      have hjm : j < m := by
        rcases Nat.lt_or_ge j m with h | h
        · exact h
        · have hjs : j < ops.size := (Array.getElem?_eq_some_iff.1 hoj).1
          have := waitsOn_listed hcl ops.size j oj hoj hall (htail j h hjs)
          rw [getD_false_of_true (mem_ready.1 hr).1] at this
          cases this
      have h2 := wpOp_putIf hoj (hfree j oj hoj hji hjun hnot) (fun cs b => hsel i oi cs b hi) (fun cs b => hsel j oj cs b hoj) hQ hy h1
      have hfree' : ∀ k ok, ops[k]? = some ok → k ≠ i → (listed.setIfInBounds j true).getD k true = false →
          (∀ e ∈ ok.after, Region.binds .any e = true → e.on ≠ i) → oi.apart ops ok = true := fun k ok hk hki hun hno => by
        refine hfree k ok hk hki ?_ hno
        by_cases hjk : j = k
        · subst hjk; exact hjun
        · rw [getD_set_ne true hjk] at hun; exact hun
      refine wpOp_mono (fun a' w' h3 => ?_) h2
      have hR := h3.2.1 hjm
      refine ⟨fun _ => hR, ih (listed.setIfInBounds j true) a' w' (closedL_set hcl hj) hfree' (ready_mono hr (Ne.symm hji)) ?_ ?_⟩
      · exact h3.1.imp (fun ⟨x, y⟩ => ⟨x, fun w'' hw'' => y w'' (htr _ _ _ hR hw'')⟩) id
      · rw [Array.setIfInBounds_comm _ _ hji]
        exact h3.2.2
/-! the moves -/
variable {n : Nat} {f : Nat → Value} {u : List (Nat × Value)} {w : World}
/-- Where a region stands: what has been done so far is kept as a list of numbers. -/
def marksOf (k : Nat) : List Nat → Array Bool
  | [] => Array.replicate k false
  | i :: r => (marksOf k r).setIfInBounds i true
/-- The state of a walk through a region: 'done' is what has been carried out, the latest first; all of it in an order that the edges allow. -/
structure AtR (P : Program) (ops : Array Oper) (Q : Exit → Act → World → Prop) (R : World → World → Prop) (m : Nat) (done : List Nat) (a : Act) (w : World) : Prop where
  go : closedL ops (marksOf ops.size done) → AnyR P ops Q R m (ops.size - done.length) (marksOf ops.size done) a w
theorem closedL_nil : closedL ops (marksOf ops.size []) := fun j oj hj hl => by
  have : j < ops.size := (Array.getElem?_eq_some_iff.1 hj).1
  simp [marksOf, this] at hl
structure PreR (R : World → World → Prop) : Prop where
  refl : ∀ a, R a a
  trans : ∀ a b c, R a b → R b c → R a c
theorem reg_drawn {id : Nat} {l : List Oper} (R : World → World → Prop) (m : Nat) (hm : P.follows .mixedOrders = true)
    (h : ∀ w', w' = { w with drawn := w.drawn + 1 } → AtR P l.toArray Q R m [] (Fr n f u) w') : (Code.region id l.toArray true).wp P Q (Fr n f u) w :=
  wp_region_any hm (wpAny_of_AnyR _ _ _ _ (by simpa [marksOf] using (h _ rfl).go closedL_nil))
/-- The end. -/
theorem r_done {done : List Nat} (hr : Region.ready .any ops (marksOf ops.size done) = []) (h : Q .normal (Fr n f u) w) : AtR P ops Q R m done (Fr n f u) w := ⟨fun _ => by
  cases hk : ops.size - done.length with
  | zero => exact ⟨hr, h⟩
  | succ k => exact ⟨fun _ => h, by rw [hr]; simp⟩⟩
def tailB (ops : Array Oper) (m i : Nat) : Bool := (List.range ops.size).all fun t => Nat.blt t m || waitsOn ops ops.size t i
/-- An operation that yields the same value in all worlds along R is taken first. -/
theorem r_take {done : List Nat} {dst : Option Tmp} {op : Op} {ty : TypeId} {pos : String} {aft : Array Edge} {gd : Option (Nat × Bool)} (i : Nat) (v : Value) (hp : PreR R) (hi : ops[i]? = some ⟨dst, op, ty, pos, aft, gd⟩)
    (hB : (Nat.blt i m && tailB ops m i && Region.noSelect ops && Region.free .any ops (marksOf ops.size done) i && (Region.ready .any ops (marksOf ops.size done)).contains i && Nat.blt done.length ops.size) = true)
    (hQ : ∀ c a w, Q (.panic c) (a.put dst v) w → Q (.panic c) a w)
    (hy : (Region.wanted ⟨dst, op, ty, pos, aft, gd⟩ (yielded ops (Fr n f u).tmps) = true ∧ ∀ w', R w w' → (execOp (evf n f u) ⟨dst, op, ty, pos, aft, gd⟩).run P w' = .ok (.value v) w') ∨ (Region.wanted ⟨dst, op, ty, pos, aft, gd⟩ (yielded ops (Fr n f u).tmps) = false ∧ v = undef))
    (h : AtR P ops Q R m (i :: done) (Fr n f (pusho dst v u)) w) : AtR P ops Q R m done (Fr n f u) w := ⟨fun hcl => by
  simp only [Bool.and_eq_true] at hB
  obtain ⟨⟨⟨⟨⟨h1, h2⟩, h3⟩, h4⟩, h5⟩, h6⟩ := hB
  have hlt : done.length < ops.size := blt_lt h6
  have him : i < m := blt_lt h1
  obtain ⟨k, hk⟩ : ∃ k, ops.size - done.length = k + 1 := ⟨ops.size - done.length - 1, by omega⟩
  have hk' : ops.size - (i :: done).length = k := by simp only [List.length_cons]; omega
  have hri : i ∈ Region.ready .any ops (marksOf ops.size done) := by simpa using h5
  rw [hk]
  refine AnyR_first hp.trans hp.refl hi him (Region.noSelect_spec h3) ?_ hQ k _ _ _ hcl (Region.free_spec hi h4) hri ?_ ?_
  · intro t ht hts
    have := List.all_eq_true.1 h2 t (List.mem_range.2 hts)
    simp only [Bool.or_eq_true] at this
    rcases this with h | h
    · have := blt_lt h; omega
    · exact h
  · unfold YieldsIf
    rw [Fr_eval]
    exact hy
  · have := h.go (by simpa [marksOf] using closedL_set hcl hri)
    rw [hk'] at this
    rw [Fr_put]
    simpa [marksOf] using this⟩
/-- The law for what is carried out where it stands: whichever of those that may come up. -/
theorem r_ready {done : List Nat} (rs : List Nat) (hr : Region.ready .any ops (marksOf ops.size done) = rs) (hne : (!rs.isEmpty && Nat.blt done.length ops.size) = true)
    (h : ∀ i ∈ rs, ∃ dst op ty pos aft gd, ops[i]? = some ⟨dst, op, ty, pos, aft, gd⟩ ∧ OpW P ops Q ⟨dst, op, ty, pos, aft, gd⟩ n f u w (fun a' w' => (i < m → R w w') ∧ AtR P ops Q R m (i :: done) a' w')) : AtR P ops Q R m done (Fr n f u) w := ⟨fun hcl => by
  simp only [Bool.and_eq_true] at hne
  have hlt : done.length < ops.size := blt_lt hne.2
  obtain ⟨k, hk⟩ : ∃ k, ops.size - done.length = k + 1 := ⟨ops.size - done.length - 1, by omega⟩
  rw [hk]
  refine ⟨fun h0 => ?_, fun i hi => ?_⟩
  · rw [hr] at h0; subst h0; simp at hne
  · have hri := hi
    rw [hr] at hi
    obtain ⟨dst, op, ty, pos, aft, gd, ho, hop⟩ := h i hi
    unfold wpOp
    simp only [ho]
    have hk' : ops.size - (i :: done).length = k := by simp only [List.length_cons]; omega
    refine (OpW_mono (next' := fun a' w' => (i < m → R w w') ∧ AnyR P ops Q R m k ((marksOf ops.size done).setIfInBounds i true) a' w') hop ?_).ok
    rintro a' w' ⟨hR, hA⟩
    refine ⟨hR, ?_⟩
    have := hA.go (by simpa [marksOf] using closedL_set hcl hri)
    rw [hk'] at this
    simpa [marksOf] using this⟩
theorem all_nil {p : Nat → Prop} : ∀ i ∈ ([] : List Nat), p i := fun _ h => by cases h
theorem all_cons {p : Nat → Prop} {i : Nat} {r : List Nat} (h : p i) (hr : ∀ j ∈ r, p j) : ∀ j ∈ i :: r, p j := fun j hj => by
  cases hj with
  | head => exact h
  | tail _ hm => exact hr j hm
end
end Go.Proofs.YtlkfoebophjhfaaGreatDoor
