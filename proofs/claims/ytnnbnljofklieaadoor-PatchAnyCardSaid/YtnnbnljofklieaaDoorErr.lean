/- Errors by what they are; methods by an interface; types that are asked for; variables of a package that are only read. It speaks of any program; nothing of the claim's own program stands here. -/
import Derived.Test.YtnnbnljofklieaaDoorFull
import Derived.Laws.Externs
import Derived.Stop.Asserts
import Derived.LaidEql
namespace Go.Proofs.YtnnbnljofklieaaDoor
open Go
def PErr.isNo : PErr → Bool
  | .no _ => true
  | _ => false
theorem isNil_eq {e : PErr} (h : e.isNil = true) : e = .nil := by
  cases e with
  | nil => rfl
  | no n => cases h
  | fault p a n => cases h
theorem isNo_eq {e : PErr} (h : e.isNo = true) : ∃ n, e = .no n := by
  cases e with
  | nil => cases h
  | no n => exact ⟨n, rfl⟩
  | fault p a n => cases h
theorem isFault_eq {e : PErr} (h1 : ¬ e.isNil = true) (h2 : ¬ e.isNo = true) : ∃ p a n, e = .fault p a n := by
  cases e with
  | nil => exact absurd rfl h1
  | no n => exact absurd rfl h2
  | fault p a n => exact ⟨p, a, n, rfl⟩
section
variable {tE tP tF : TypeId} {X : List Nat} {w : World} {v : Value}
theorem rErr_inv_nil (h : (rErr tE tP tF).ok X w [v] .nil) : v = .nilIface := by simp only [rErr] at h; injection h
theorem rErr_inv_no {n : Int} (h : (rErr tE tP tF).ok X w [v] (.no n)) : v = .iface tE (.int .i64 n) ∧ inR .i64 n := by obtain ⟨h, hr⟩ := h; injection h with h _; exact ⟨h, hr⟩
theorem rErr_inv_fault {p : ByteArray} {a n : Int} (h : (rErr tE tP tF).ok X w [v] (.fault p a n)) : ∃ b, v = .iface tP (.pointer (some ⟨b, 0, none⟩)) ∧ RO X w b [.string p, .int .i64 a, .iface tE (.int .i64 n)] tF ∧ p.size ≤ maxLen ∧ inR .i64 a ∧ inR .i64 n := by
  obtain ⟨b, h, h1, h2, h3, h4, h5⟩ := h; injection h with h _; exact ⟨b, h, ⟨h1, h2⟩, h3, h4, h5⟩
end
section
variable {P : Program} {ops : Array Oper} {Q : Exit → Act → World → Prop} {n : Nat} {f : Nat → Value} {u : List (Nat × Value)} {w : World} {next : Act → World → Prop}
variable {dst : Option Tmp} {ty : TypeId} {pos : String} {aft : Array Edge} {gd : Option (Nat × Bool)}
/-- A method by its interface: the method of the type that lies behind it is entered. -/
theorem x_invoke {x : Operand} {nm : String} {xs : Array Operand} {tys : Array TypeId} {t : TypeId} {v r : Value} {fid : FuncId} {args : Array Value} (hx : evf n f u x = .iface t v) (hm : ∀ w, (method (P.types.size + Made.depth) t v nm).run P w = .ok (fid, r) w)
    (hc : ∀ (args : Array Value) (w : World), (callFunc fid args).run P w = .ok (.enter fid args) w) (hargs : #[r] ++ xs.map (evf n f u) = args) :
    (execOp (evf n f u) ⟨dst, .call ⟨.invoke x nm, xs, tys⟩, ty, pos, aft, gd⟩).run P w = .ok (.enter fid args) w := by
  subst hargs
  have h1 : (#[Value.iface t v] ++ xs.map (evf n f u)).extract 1 (#[Value.iface t v] ++ xs.map (evf n f u)).size = xs.map (evf n f u) := by
    apply Array.ext'; simp
    exact List.take_of_length_le (by simp)
  simp only [execOp, resolve, hx, invoke, Sem.run_bind, Sem.run_pure, Result.andThen_ok]
  have h0 : (#[Value.iface t v] ++ xs.map (evf n f u))[0]? = some (Value.iface t v) := by rw [Array.getElem?_append_left (by simp)]; rfl
  simp only [h0, h1, callMethod, Sem.run_bind, run_program, Result.andThen_ok, hm, hc]
/-- .. whose text the model holds. -/
theorem x_invext {x : Operand} {nm : String} {xs : Array Operand} {tys : Array TypeId} {t : TypeId} {v r res : Value} {fid : FuncId} {fn : Func} {e : Array Value → Sem Value} (hx : evf n f u x = .iface t v) (hm : ∀ w, (method (P.types.size + Made.depth) t v nm).run P w = .ok (fid, r) w)
    (hf : P.funcs[fid]? = some fn) (h1 : (fn.name == "runtime.NumGoroutine") = false) (h2 : fn.body.isNone = true) (h3 : Extern.findNext fn = none) (h4 : Extern.find fn = some e) (args : Array Value) (hargs : #[r] ++ xs.map (evf n f u) = args) (hr : (e args).run P w = .ok res w) :
    (execOp (evf n f u) ⟨dst, .call ⟨.invoke x nm, xs, tys⟩, ty, pos, aft, gd⟩).run P w = .ok (.value res) w := by
  subst hargs
  have h5 : (#[Value.iface t v] ++ xs.map (evf n f u)).extract 1 (#[Value.iface t v] ++ xs.map (evf n f u)).size = xs.map (evf n f u) := by
    apply Array.ext'; simp
    exact List.take_of_length_le (by simp)
  simp only [execOp, resolve, hx, invoke, Sem.run_bind, Sem.run_pure, Result.andThen_ok]
  have h0 : (#[Value.iface t v] ++ xs.map (evf n f u))[0]? = some (Value.iface t v) := by rw [Array.getElem?_append_left (by simp)]; rfl
  have hcall := run_callFunc_extern hf h1 h2 h3 h4 (#[r] ++ xs.map (evf n f u)) w
  simp only [h0, h5, callMethod, Sem.run_bind, run_program, Result.andThen_ok, hm, hcall, hr]
/-- A call of a function whose text the model holds. -/
theorem x_ext {fid : FuncId} {xs : Array Operand} {tys : Array TypeId} {fn : Func} {e : Array Value → Sem Value} {res : Value} {w' : World} (hf : P.funcs[fid]? = some fn) (h1 : (fn.name == "runtime.NumGoroutine") = false) (h2 : fn.body.isNone = true) (h3 : Extern.findNext fn = none) (h4 : Extern.find fn = some e)
    (args : Array Value) (hargs : xs.map (evf n f u) = args) (hr : (e args).run P w = .ok res w') :
    (execOp (evf n f u) ⟨dst, .call ⟨.value (.func fid), xs, tys⟩, ty, pos, aft, gd⟩).run P w = .ok (.value res) w' := by
  subst hargs
  have hcall := run_callFunc_extern hf h1 h2 h3 h4 (xs.map (evf n f u)) w
  rw [hr] at hcall
  simp only [execOp, resolve, evf, Deferred.ofValue]
  simpa [invoke] using hcall
theorem x_tassert {x : Operand} {xT I t : TypeId} {v r : Value} (hx : evf n f u x = .iface t v) (h : ∀ (v : Value) (xT : TypeId) (w : World), (Instr.typeAssert (.iface t v) xT I true).run P w = .ok (.tuple #[r, .bool false]) w) :
    (execOp (evf n f u) ⟨dst, .typeAssert x xT I true, ty, pos, aft, gd⟩).run P w = .ok (.value (.tuple #[r, .bool false])) w := by
  have := h v xT w
  simp [execOp, hx, this]
theorem x_tasserts {x : Operand} {xT I t : TypeId} {v : Value} (hx : evf n f u x = .iface t v) (h : ∀ (v : Value) (xT : TypeId) (w : World), (Instr.typeAssert (.iface t v) xT I true).run P w = .ok (.tuple #[.iface t v, .bool true]) w) :
    (execOp (evf n f u) ⟨dst, .typeAssert x xT I true, ty, pos, aft, gd⟩).run P w = .ok (.value (.tuple #[.iface t v, .bool true])) w := by
  have := h v xT w
  simp [execOp, hx, this]
theorem x_tassertn {x : Operand} {xT I : TypeId} (hx : evf n f u x = .nilIface) (h : ∀ (w : World), (Instr.typeAssert .nilIface xT I true).run P w = .ok (.tuple #[.nilIface, .bool false]) w) :
    (execOp (evf n f u) ⟨dst, .typeAssert x xT I true, ty, pos, aft, gd⟩).run P w = .ok (.value (.tuple #[.nilIface, .bool false])) w := by
  have := h w
  simp [execOp, hx, this]
/-- Two errors held against each other: of other types; of one type of numbers. -/
theorem x_if_ne {ti t' : TypeId} {ms : Array (String × TypeId)} {x y : Operand} {tx ty' : TypeId} {vx vy : Value} (hi : P.underlying ti = some (.interface ms)) (hx : evf n f u x = .iface tx vx) (hy : evf n f u y = .iface ty' vy) (hne : Nat.beq tx ty' = false) :
    (execOp (evf n f u) ⟨dst, .binOp .eql ti x y t', ty, pos, aft, gd⟩).run P w = .ok (.value (.bool false)) w := by
  have hne' : tx ≠ ty' := fun e => by rw [e, Nat.beq_refl] at hne; cases hne
  simp [execOp, hx, hy, eqGuard, run_eql_iface_types tx ty' vx vy hi hne' w]
theorem x_if_nil {ti t' : TypeId} {ms : Array (String × TypeId)} {x y : Operand} {t : TypeId} {v : Value} (hi : P.underlying ti = some (.interface ms)) (hx : evf n f u x = .nilIface) (hy : evf n f u y = .iface t v) :
    (execOp (evf n f u) ⟨dst, .binOp .eql ti x y t', ty, pos, aft, gd⟩).run P w = .ok (.value (.bool false)) w := by
  have h : ∀ d : Nat, (Op.equalIn (d + 1) ti .nilIface (.iface t v)).run P w = .ok false w := fun d => by simp [Op.equalIn, run_underlying hi]
  have h2 : (Op.equal ti .nilIface (.iface t v)).run P w = .ok false w := by simp only [Op.equal, Op.maxDepth]; exact h 9999
  simp [execOp, hx, hy, eqGuard, binOp, h2]
theorem x_if_num {ti t' tE : TypeId} {ms : Array (String × TypeId)} {x y : Operand} {k : IntKind} {a b : Int} {i : TypeInfo} (hi : P.underlying ti = some (.interface ms)) (hE : P.underlying tE = some (.int k)) (hI : P.info? tE = some i) (hcmp : i.comparable = true)
    (hx : evf n f u x = .iface tE (.int k a)) (hy : evf n f u y = .iface tE (.int k b)) :
    (execOp (evf n f u) ⟨dst, .binOp .eql ti x y t', ty, pos, aft, gd⟩).run P w = .ok (.value (.bool (decide (a = b)))) w := by
  have h : ∀ d : Nat, (Op.equalIn (d + 1 + 1) ti (.iface tE (.int k a)) (.iface tE (.int k b))).run P w = .ok (decide (a = b)) w := fun d => by
    rw [Op.equalIn]
    simp only [Sem.run_bind, run_underlying hi, Result.andThen_ok]
    simp [typeInfo, hI, hcmp, Op.equalIn, run_underlying hE]; rfl
  have h2 : (Op.equal ti (.iface tE (.int k a)) (.iface tE (.int k b))).run P w = .ok (decide (a = b)) w := by simp only [Op.equal, Op.maxDepth]; exact h 9998
  simp [execOp, hx, hy, eqGuard, binOp, h2]
end
/-! a variable of a package, that is only read -/
def GV (X : List Nat) (w : World) (g : Nat) (cs : List Value) : Prop := g ∉ X ∧ ∃ t fr, w.heap[g]? = some (.cells cs.toArray t fr)
section
variable {X X' F : List Nat} {w w' : World} {g : Nat} {cs : List Value}
theorem GV.lt (h : GV X w g cs) : g < w.heap.size := by obtain ⟨_, t, fr, h⟩ := h; exact (Array.getElem?_eq_some_iff.1 h).1
theorem GV.step (h : GV X w g cs) (s : Step X w F X' w') : GV X' w' g cs := by
  have hl := h.lt
  obtain ⟨h1, t, fr, h2⟩ := h
  exact ⟨fun hm => by rcases s.new g hm with h3 | h3; exact h1 h3; omega, t, fr, (s.evo.keep g hl (fun hm => h1 (s.sub g hm))).trans h2⟩
theorem GV.less (h : GV X w g cs) (s : Sub X' X) : GV X' w g cs := ⟨fun hm => h.1 (s g hm), h.2⟩
theorem GV.evo0 (h : GV X w g cs) (e : Evo [] w w') : GV X w' g cs := by
  have hl := h.lt
  obtain ⟨h1, t, fr, h2⟩ := h
  exact ⟨h1, t, fr, (e.keep g hl (fun hm => by cases hm)).trans h2⟩
theorem GV.cell (h : GV X w g cs) (o : Nat) {v : Value} (hv : cs[o]? = some v) : w.cell? ⟨g, o, none⟩ = some v := by
  obtain ⟨_, t, fr, h⟩ := h; simp [World.cell?, h, hv]
theorem GV.of_var {P : Program} {nm : String} {cs : List Value} (hg : P.globalNamed nm = some g) (h : w.var? P nm = some cs.toArray) : GV [] w g cs := by
  unfold World.var? at h
  rw [hg] at h
  simp only [Option.bind_some] at h
  split at h
  · rename_i c t fr hk
    injection h with h
    exact ⟨fun h => (by cases h), t, fr, by rw [← h]; exact hk⟩
  · cases h
theorem GV.var {P : Program} {nm : String} (hg : P.globalNamed nm = some g) (h : GV X w g cs) : w.var? P nm = some cs.toArray := by
  obtain ⟨_, t, fr, h⟩ := h
  unfold World.var?
  rw [hg]
  simp only [Option.bind_some]
  rw [h]
end
end Go.Proofs.YtnnbnljofklieaaDoor
