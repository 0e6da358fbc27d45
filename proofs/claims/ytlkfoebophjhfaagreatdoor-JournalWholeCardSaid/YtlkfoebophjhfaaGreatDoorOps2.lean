/- More laws of operations: rows that are made, elements that are stored, an error held against nil. It speaks of any program; nothing of the claim's own program stands here. -/
import Derived.Test.YtlkfoebophjhfaaGreatDoorOps
import Derived.OwnWalk
namespace Go.Proofs.YtlkfoebophjhfaaGreatDoor
open Go
section
variable {P : Program} {ops : Array Oper} {Q : Exit → Act → World → Prop} {n : Nat} {f : Nat → Value} {u : List (Nat × Value)} {w : World} {next : Act → World → Prop}
variable {dst : Option Tmp} {ty : TypeId} {pos : String} {aft : Array Edge} {gd : Option (Nat × Bool)}
theorem Flat.set {α : Type} {R : Rep α} {X : List Nat} {L : List α} {xs cs : List Value} {d : α} (h : Flat R X w xs L) (i : Nat) (hi : i < L.length) (hd : R.ok X w cs d) :
    Flat R X w (xs.take (i * R.n) ++ cs ++ xs.drop (i * R.n + R.n)) (L.set i d) := by
  have e : L.set i d = L.take i ++ (d :: L.drop (i + 1)) := List.set_eq_take_append_cons_drop .. |>.trans (by rw [if_pos hi])
  rw [e, List.append_assoc]
  refine (h.take i).append ⟨cs, _, rfl, hd, ?_⟩
  have := h.drop (i + 1)
  rwa [Nat.add_mul, Nat.one_mul] at this
/-! an error held against nil -/
theorem equal_iface_nil {t : TypeId} {ms : Array (String × TypeId)} (tp : TypeId) (v : Value) (ht : P.underlying t = some (.interface ms)) : (Op.equal t (.iface tp v) .nilIface).run P w = .ok false w := by
  have h : ∀ d : Nat, (Op.equalIn (d + 1) t (.iface tp v) .nilIface).run P w = .ok false w := fun d => by simp [Op.equalIn, run_underlying ht]
  simp only [Op.equal, Op.maxDepth]
  exact h 9999
theorem equal_nil_nil {t : TypeId} {ms : Array (String × TypeId)} (ht : P.underlying t = some (.interface ms)) : (Op.equal t .nilIface .nilIface).run P w = .ok true w := by
  have h : ∀ d : Nat, (Op.equalIn (d + 1) t .nilIface .nilIface).run P w = .ok true w := fun d => by simp [Op.equalIn, run_underlying ht]
  simp only [Op.equal, Op.maxDepth]
  exact h 9999
theorem x_inil_eq {t t' : TypeId} {x y : Operand} {ms : Array (String × TypeId)} {tp : TypeId} {v : Value} (ht : P.underlying t = some (.interface ms)) (hx : evf n f u x = .iface tp v) (hy : evf n f u y = .nilIface) :
    (execOp (evf n f u) ⟨dst, .binOp .eql t x y t', ty, pos, aft, gd⟩).run P w = .ok (.value (.bool false)) w := by
  simp [execOp, hx, hy, eqGuard, binOp, equal_iface_nil tp v ht]
theorem x_inil_ne {t t' : TypeId} {x y : Operand} {ms : Array (String × TypeId)} {tp : TypeId} {v : Value} (ht : P.underlying t = some (.interface ms)) (hx : evf n f u x = .iface tp v) (hy : evf n f u y = .nilIface) :
    (execOp (evf n f u) ⟨dst, .binOp .neq t x y t', ty, pos, aft, gd⟩).run P w = .ok (.value (.bool true)) w := by
  simp [execOp, hx, hy, eqGuard, binOp, equal_iface_nil tp v ht]
theorem x_nilnil_eq {t t' : TypeId} {x : Operand} {c : Value} {ms : Array (String × TypeId)} (ht : P.underlying t = some (.interface ms)) (hx : evf n f u x = .nilIface) (hy : evf n f u (.const c) = .nilIface) :
    (execOp (evf n f u) ⟨dst, .binOp .eql t x (.const c) t', ty, pos, aft, gd⟩).run P w = .ok (.value (.bool true)) w := by
  simp [execOp, hx, hy, eqGuard, binOp, equal_nil_nil ht]
theorem x_nilnil_ne {t t' : TypeId} {x : Operand} {c : Value} {ms : Array (String × TypeId)} (ht : P.underlying t = some (.interface ms)) (hx : evf n f u x = .nilIface) (hy : evf n f u (.const c) = .nilIface) :
    (execOp (evf n f u) ⟨dst, .binOp .neq t x (.const c) t', ty, pos, aft, gd⟩).run P w = .ok (.value (.bool false)) w := by
  simp [execOp, hx, hy, eqGuard, binOp, equal_nil_nil ht]
end
end Go.Proofs.YtlkfoebophjhfaaGreatDoor
