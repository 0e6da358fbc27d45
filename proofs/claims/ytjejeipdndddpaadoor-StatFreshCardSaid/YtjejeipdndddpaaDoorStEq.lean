/- Structs held against each other. It speaks of any program; nothing of the claim's own program stands here. -/
import Derived.Test.YtjejeipdndddpaaDoorMapR
import Derived.Laws.StructEq
namespace Go.Proofs.YtjejeipdndddpaaDoor
open Go
section
variable {P : Program} {w : World} {d : Nat} {xs ys : Array Value} {f : Field} {fs : List Field} {q : Prop} [Decidable q]
theorem eqF_nil : (Op.eqFields d xs ys []).run P w = .ok (decide True) w := by simp [Op.eqFields]
theorem eqF_int {k k' : IntKind} {a b : Int} (hn : (f.name == "_") = false) (h1 : (part f.type xs f.offset).run P w = .ok (.int k a) w) (h2 : (part f.type ys f.offset).run P w = .ok (.int k b) w) (hu : P.underlying f.type = some (.int k'))
    (h : (Op.eqFields (d + 1) xs ys fs).run P w = .ok (decide q) w) : (Op.eqFields (d + 1) xs ys (f :: fs)).run P w = .ok (decide (a = b ∧ q)) w := by
  have hn : f.name ≠ "_" := by simpa using hn
  simp only [Op.eqFields, if_pos hn, Sem.run_bind, h1, h2, Result.andThen_ok, run_equalIn_int w d f.type k k' a b hu]
  by_cases e : a = b
  · subst e; simp [h]
  · have : (a == b) = false := by simpa using e
    simp [this, e]
theorem eqF_str {a b : ByteArray} (hn : (f.name == "_") = false) (h1 : (part f.type xs f.offset).run P w = .ok (.string a) w) (h2 : (part f.type ys f.offset).run P w = .ok (.string b) w) (hu : P.underlying f.type = some .string)
    (h : (Op.eqFields (d + 1) xs ys fs).run P w = .ok (decide q) w) : (Op.eqFields (d + 1) xs ys (f :: fs)).run P w = .ok (decide (a = b ∧ q)) w := by
  have hn : f.name ≠ "_" := by simpa using hn
  simp only [Op.eqFields, if_pos hn, Sem.run_bind, h1, h2, Result.andThen_ok, run_equalIn_string w d f.type a b hu, ← beq_toListBytes]
  by_cases e : a = b
  · subst e; simp [h, ba_beq]
  · have : (a == b) = false := by rw [ba_beq]; exact decide_eq_false e
    simp [this, e]
end
section
variable {P : Program} {n : Nat} {f : Nat → Value} {u : List (Nat × Value)} {w : World}
variable {dst : Option Tmp} {ty : TypeId} {pos : String} {aft : Array Edge} {gd : Option (Nat × Bool)}
theorem x_steq {t t' : TypeId} {x y : Operand} {xs ys : Array Value} {q : Prop} [Decidable q] (fs : List Field) (hx : evf n f u x = .agg xs) (hy : evf n f u y = .agg ys) (ht : P.underlying t = some (.struct (P.fieldsOf t))) (hp : P.stoodInHeld t = false) (hm : P.eqGuardType P.depth t = false) (hfs : (P.fieldsOf t).toList = fs)
    (h : (Op.eqFields 9999 xs ys fs).run P w = .ok (decide q) w) : (execOp (evf n f u) ⟨dst, .binOp .eql t x y t', ty, pos, aft, gd⟩).run P w = .ok (.value (.bool (decide q))) w := by
  subst hfs
  have h1 : (Op.equalIn 10000 t (.agg xs) (.agg ys)).run P w = .ok (decide q) w := (run_equalIn_struct w 9999 t xs ys ht hp).trans h
  simp [execOp, hx, hy, run_eqGuard_agg w .eql t x y xs ys hm, run_eql_struct, h1, Result.andThen]
end
end Go.Proofs.YtjejeipdndddpaaDoor
