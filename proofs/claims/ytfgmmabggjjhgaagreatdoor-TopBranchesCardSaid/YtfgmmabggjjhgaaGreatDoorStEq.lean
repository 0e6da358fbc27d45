/- Structs held against each other. It speaks of any program; nothing of the claim's own program stands here. -/
import Derived.Test.YtfgmmabggjjhgaaGreatDoorMapR
import Derived.Laws.StructEq
namespace Go.Proofs.YtfgmmabggjjhgaaGreatDoor
open Go
section
variable {P : Program} {w : World} {d : Nat} {xs ys : Array Value} {f : Field} {fs : List Field} {q : Prop} [Decidable q]
theorem eqF_nil : (Op.eqFields d xs ys []).run P w = .ok (decide True) w := by simp [Op.eqFields]
theorem eqF_int {k k' : IntKind} {a b : Int} (hn : (f.name == "_") = false) (h1 : (part f.type xs f.offset).run P w = .ok (.int k a) w) (h2 : (part f.type ys f.offset).run P w = .ok (.int k b) w) (hu : P.underlying f.type = some (.int k'))
    (h : (Op.eqFields (d + 1) xs ys fs).run P w = .ok (decide q) w) : (Op.eqFields (d + 1) xs ys (f :: fs)).run P w = .ok (decide (a = b ∧ q)) w := by
  have hn : f.name ≠ "_" := by simpa using hn
  simp only [Op.eqFields, if_pos hn, Sem.run_bind, h1, h2, Result.andThen_ok, run_equalIn_int w d f.type k k' a b hu]
  by_cases e : a = b
  · subst e; simp [h]
  · have : (a == b) = false := by simpa using e
    simp [this, e]
theorem eqF_str {a b : ByteArray} (hn : (f.name == "_") = false) (h1 : (part f.type xs f.offset).run P w = .ok (.string a) w) (h2 : (part f.type ys f.offset).run P w = .ok (.string b) w) (hu : P.underlying f.type = some .string)
    (h : (Op.eqFields (d + 1) xs ys fs).run P w = .ok (decide q) w) : (Op.eqFields (d + 1) xs ys (f :: fs)).run P w = .ok (decide (a = b ∧ q)) w := by
  have hn : f.name ≠ "_" := by simpa using hn
  simp only [Op.eqFields, if_pos hn, Sem.run_bind, h1, h2, Result.andThen_ok, run_equalIn_string w d f.type a b hu, ← beq_toListBytes]
  by_cases e : a = b
  · subst e; simp [h, ba_beq]
  · have : (a == b) = false := by rw [ba_beq]; exact decide_eq_false e
    simp [this, e]
end
section
variable {P : Program} {n : Nat} {f : Nat → Value} {u : List (Nat × Value)} {w : World}
variable {dst : Option Tmp} {ty : TypeId} {pos : String} {aft : Array Edge} {gd : Option (Nat × Bool)}
theorem x_steq {t t' : TypeId} {x y : Operand} {xs ys : Array Value} {q : Prop} [Decidable q] (fs : List Field) (hx : evf n f u x = .agg xs) (hy : evf n f u y = .agg ys) (ht : P.underlying t = some (.struct (P.fieldsOf t))) (hp : P.stoodInHeld t = false) (hm : P.eqGuardType P.depth t = false) (hfs : (P.fieldsOf t).toList = fs)
    (h : (Op.eqFields 9999 xs ys fs).run P w = .ok (decide q) w) : (execOp (evf n f u) ⟨dst, .binOp .eql t x y t', ty, pos, aft, gd⟩).run P w = .ok (.value (.bool (decide q))) w := by
  subst hfs
  have h1 : (Op.equalIn 10000 t (.agg xs) (.agg ys)).run P w = .ok (decide q) w := (run_equalIn_struct w 9999 t xs ys ht hp).trans h
  simp [execOp, hx, hy, run_eqGuard_agg w .eql t x y xs ys hm, run_eql_struct, h1, Result.andThen]
theorem x_stne {t t' : TypeId} {x y : Operand} {xs ys : Array Value} {q : Prop} [Decidable q] (fs : List Field) (hx : evf n f u x = .agg xs) (hy : evf n f u y = .agg ys) (ht : P.underlying t = some (.struct (P.fieldsOf t))) (hp : P.stoodInHeld t = false) (hm : P.eqGuardType P.depth t = false) (hfs : (P.fieldsOf t).toList = fs)
    (h : (Op.eqFields 9999 xs ys fs).run P w = .ok (decide q) w) : (execOp (evf n f u) ⟨dst, .binOp .neq t x y t', ty, pos, aft, gd⟩).run P w = .ok (.value (.bool (!decide q))) w := by
  subst hfs
  have h1 : (Op.equalIn 10000 t (.agg xs) (.agg ys)).run P w = .ok (decide q) w := (run_equalIn_struct w 9999 t xs ys ht hp).trans h
  simp [execOp, hx, hy, run_eqGuard_agg w .neq t x y xs ys hm, run_neq_struct, h1, Result.andThen]
end
/-- An element of a slice that is ours: what it points to is read only. -/
theorem OS.atX {α : Type} [Inhabited α] {R : Rep α} {X G : List Nat} {w : World} {B n c : Nat} {ty : TypeId} {a : Option Addr} {L : List α} (h : OS R G B X w ty a n c L) (i : Int) (hi : inL L i) :
    ∃ b o cs, a = some ⟨b, o, none⟩ ∧ b ∉ ([] : List Nat) ∧ b < w.heap.size ∧ R.ok X w cs (lget L i) ∧ CellsAt w b (o + i.toNat * R.n) cs := by
  have hlt := hi.lt
  obtain ⟨_, ⟨_, _, xs, ho, hx⟩, _⟩ := h
  rcases ho.2 with ⟨_, h2⟩ | ⟨g, cap, cur, hv, _, hg, _, _, _, _⟩
  · omega
  · injection hv with e1 e2 e3; subst e1
    obtain ⟨cs, h1, h2⟩ := hx.get i.toNat hlt
    rw [lget_eq hi] at h1
    refine ⟨g, 0, cs, rfl, (fun h => by cases h), (Array.getElem?_eq_some_iff.1 hg).1, h1, fun j u hj => ?_⟩
    have := ho.cells (g := g) rfl _ u (h2 j u hj)
    have hadd : (⟨g, 0, none⟩ : Addr).add (i.toNat * R.n + j) = ⟨g, 0 + i.toNat * R.n + j, none⟩ := by unfold Addr.add; split <;> simp_all
    rwa [hadd] at this
theorem new_of {B : Nat} {w : World} {m : List Nat} (hw : B ≤ w.heap.size) (n : ∀ l, Old l w → Ap l m) : ∀ x ∈ m, B ≤ x := fun x hx => by
  rcases Nat.lt_or_ge x B with h | h
  · exact absurd hx (n [x] (fun b hb => by simp at hb; subst hb; omega) x (by simp))
  · exact h
theorem new_app {B : Nat} {w : World} {m m' : List Nat} (hw : B ≤ w.heap.size) (hm : ∀ x ∈ m, B ≤ x) (n : ∀ l, Ap l m → Old l w → Ap l m') : ∀ x ∈ m', B ≤ x := fun x hx => by
  rcases Nat.lt_or_ge x B with h | h
  · exact absurd hx (n [x] (fun b hb hb2 => by simp at hb; subst hb; have := hm b hb2; omega) (fun b hb => by simp at hb; subst hb; omega) x (by simp))
  · exact h
end Go.Proofs.YtfgmmabggjjhgaaGreatDoor
