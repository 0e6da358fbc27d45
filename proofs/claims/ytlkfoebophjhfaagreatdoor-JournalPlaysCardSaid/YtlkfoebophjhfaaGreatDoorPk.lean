/- The laws of the walk in short forms: what is checked by the kernel alone is checked without being asked for. They speak of any program; nothing of the claim's own program stands here. -/
import Derived.Test.YtlkfoebophjhfaaGreatDoorMem
namespace Go.Proofs.YtlkfoebophjhfaaGreatDoor
open Go
section
variable {P : Program} {ops : Array Oper} {Q : Exit → Act → World → Prop} {n : Nat} {f : Nat → Value} {u : List (Nat × Value)} {w : World} {rest : List Oper} {dst : Option Tmp} {op : Op} {ty : TypeId} {pos : String} {aft : Array Edge} {gd : Option (Nat × Bool)}
abbrev vI (x : Int) : Value := .int .i64 x
abbrev vP (b : Nat) : Value := .pointer (some ⟨b, 0, none⟩)
abbrev vT : Value := .bool true
abbrev vF : Value := .bool false
abbrev vD (p : Prop) [Decidable p] : Value := .bool (decide p)
/-- A value that the frame tells. -/
theorem pv (v : Value) (h : GL P ops Q rest (Fr n f (pusho dst v u)) w)
    (hg : Region.wanted ⟨dst, op, ty, pos, aft, gd⟩ (yielded ops (Fr n f u).tmps) = true := by kernel_rfl)
    (hr : (execOp (evf n f u) ⟨dst, op, ty, pos, aft, gd⟩).run P w = .ok (.value v) w := by kernel_rfl) :
    GL P ops Q (⟨dst, op, ty, pos, aft, gd⟩ :: rest) (Fr n f u) w := sq (o_pv v hg hr h)
/-- A value by a law. -/
theorem pw (v : Value) (hr : (execOp (evf n f u) ⟨dst, op, ty, pos, aft, gd⟩).run P w = .ok (.value v) w) (h : GL P ops Q rest (Fr n f (pusho dst v u)) w)
    (hg : Region.wanted ⟨dst, op, ty, pos, aft, gd⟩ (yielded ops (Fr n f u).tmps) = true := by kernel_rfl) :
    GL P ops Q (⟨dst, op, ty, pos, aft, gd⟩ :: rest) (Fr n f u) w := sq (o_pv v hg hr h)
/-- Its guard says no. -/
theorem no (h : GL P ops Q rest (Fr n f (pusho dst undef u)) w)
    (hg : Region.wanted ⟨dst, op, ty, pos, aft, gd⟩ (yielded ops (Fr n f u).tmps) = false := by kernel_rfl) :
    GL P ops Q (⟨dst, op, ty, pos, aft, gd⟩ :: rest) (Fr n f u) w := sq (o_not hg h)
/-- The row's end, and what comes next. -/
theorem nt {K : Act → World → Prop} {y : Code} (h : ∀ n f u w, y.wp P Q (Fr n f u) w → K (Fr n f u) w) (hc : y.wp P Q (Fr n f u) w) : GL P ops (Exit.then K Q) [] (Fr n f u) w := ⟨h _ _ _ _ hc⟩
/-- A row of operations ahead of other code. -/
theorem sr {id : Nat} {l : List Oper} {y : Code} (h : ∀ K : Act → World → Prop, (∀ n f u w, y.wp P Q (Fr n f u) w → K (Fr n f u) w) → GL P l.toArray (Exit.then K Q) l (Fr n f u) w) : (Code.seq (Code.region id l.toArray false) y).wp P Q (Fr n f u) w :=
  seq_ fun K hK => reg_ (h K hK)
variable {done : List Nat} {m B : Nat} {F : List Nat}
/-- A quiet operation of a drawn row is taken first: a value that the frame tells, -/
theorem rt (he : ∀ c a d v w, Q (.panic c) (a.put d v) w → Q (.panic c) a w) (i : Nat) (v : Value) (hi : ops[i]? = some ⟨dst, op, ty, pos, aft, gd⟩)
    (h : AtR P ops Q (RB B F) m (i :: done) (Fr n f (pusho dst v u)) w)
    (hB : (Nat.blt i m && tailB ops m i && Region.noSelect ops && Region.free .any ops (marksOf ops.size done) i && (Region.ready .any ops (marksOf ops.size done)).contains i && Nat.blt done.length ops.size) = true := by kernel_rfl)
    (hg : Region.wanted ⟨dst, op, ty, pos, aft, gd⟩ (yielded ops (Fr n f u).tmps) = true := by kernel_rfl)
    (hr : ∀ w', (execOp (evf n f u) ⟨dst, op, ty, pos, aft, gd⟩).run P w' = .ok (.value v) w' := by intro _; kernel_rfl) : AtR P ops Q (RB B F) m done (Fr n f u) w :=
  r_take i v (RB.pre _ _) hi hB (fun c a w h => he c a dst v w h) (.inl ⟨hg, fun w' _ => hr w'⟩) h
/-- by a law, -/
theorem rw' (he : ∀ c a d v w, Q (.panic c) (a.put d v) w → Q (.panic c) a w) (i : Nat) (v : Value) (hi : ops[i]? = some ⟨dst, op, ty, pos, aft, gd⟩)
    (hr : ∀ w', RB B F w w' → (execOp (evf n f u) ⟨dst, op, ty, pos, aft, gd⟩).run P w' = .ok (.value v) w')
    (h : AtR P ops Q (RB B F) m (i :: done) (Fr n f (pusho dst v u)) w)
    (hB : (Nat.blt i m && tailB ops m i && Region.noSelect ops && Region.free .any ops (marksOf ops.size done) i && (Region.ready .any ops (marksOf ops.size done)).contains i && Nat.blt done.length ops.size) = true := by kernel_rfl)
    (hg : Region.wanted ⟨dst, op, ty, pos, aft, gd⟩ (yielded ops (Fr n f u).tmps) = true := by kernel_rfl) : AtR P ops Q (RB B F) m done (Fr n f u) w :=
  r_take i v (RB.pre _ _) hi hB (fun c a w h => he c a dst v w h) (.inl ⟨hg, hr⟩) h
/-- or its guard says no. -/
theorem rn (he : ∀ c a d v w, Q (.panic c) (a.put d v) w → Q (.panic c) a w) (i : Nat) (hi : ops[i]? = some ⟨dst, op, ty, pos, aft, gd⟩)
    (h : AtR P ops Q (RB B F) m (i :: done) (Fr n f (pusho dst undef u)) w)
    (hB : (Nat.blt i m && tailB ops m i && Region.noSelect ops && Region.free .any ops (marksOf ops.size done) i && (Region.ready .any ops (marksOf ops.size done)).contains i && Nat.blt done.length ops.size) = true := by kernel_rfl)
    (hg : Region.wanted ⟨dst, op, ty, pos, aft, gd⟩ (yielded ops (Fr n f u).tmps) = false := by kernel_rfl) : AtR P ops Q (RB B F) m done (Fr n f u) w :=
  r_take i undef (RB.pre _ _) hi hB (fun c a w h => he c a dst undef w h) (.inr ⟨hg, rfl⟩) h
end
end Go.Proofs.YtlkfoebophjhfaaGreatDoor
