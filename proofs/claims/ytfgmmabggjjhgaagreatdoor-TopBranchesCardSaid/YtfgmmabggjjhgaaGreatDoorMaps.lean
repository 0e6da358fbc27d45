/- Maps of ours, by texts: what they hold, as rows of pairs; the laws of the operations on them. It speaks of any program; nothing of the claim's own program stands here. -/
import Derived.Test.YtfgmmabggjjhgaaGreatDoorOps3
import Derived.MapKept
import Derived.Laws.Externs
namespace Go.Proofs.YtfgmmabggjjhgaaGreatDoor
open Go
/-! plain -/
def mlook {α : Type} : List (ByteArray × α) → ByteArray → Option α
  | [], _ => none
  | p :: r, k => if p.1 = k then some p.2 else mlook r k
def mhas {α : Type} (L : List (ByteArray × α)) (k : ByteArray) : Bool := (mlook L k).isSome
def mgetD {α : Type} [Inhabited α] (L : List (ByteArray × α)) (k : ByteArray) : α := (mlook L k).getD default
def mset {α : Type} : List (ByteArray × α) → ByteArray → α → List (ByteArray × α)
  | [], k, v => [(k, v)]
  | p :: r, k, v => if p.1 = k then (k, v) :: r else p :: mset r k v
def mdel {α : Type} : List (ByteArray × α) → ByteArray → List (ByteArray × α)
  | [], _ => []
  | p :: r, k => if p.1 = k then r else p :: mdel r k
/-! in memory -/
def vcell (ag : Bool) (cs : List Value) : Value := match ag with | true => .agg cs.toArray | false => cs.headD undef
section
variable {α : Type} (R : Rep α) (ag : Bool) (X : List Nat) (w : World)
def EntOK (e : MapEntry) (p : ByteArray × α) : Prop := e.key = .string p.1 ∧ p.1.size ≤ maxLen ∧ ∃ cs, e.val = vcell ag cs ∧ R.ok X w cs p.2
def EntsOK : List MapEntry → List (ByteArray × α) → Prop
  | [], L => L = []
  | e :: es, L => ∃ p r, L = p :: r ∧ EntOK R ag X w e p ∧ EntsOK es r
def Borns (es : List MapEntry) (clk : Nat) : Prop := (es.map (·.born)).Pairwise (· < ·) ∧ ∀ e ∈ es, e.born < clk
def MapAt (r : Nat) (L : List (ByteArray × α)) : Prop := ∃ es clk, w.heap[r]? = some (.map es clk) ∧ EntsOK R ag X w es.toList L ∧ Borns es.toList clk
end
section
variable {α : Type} {R : Rep α} {ag : Bool} {X X' F G : List Nat} {w w' : World} {r B : Nat} {L : List (ByteArray × α)}
theorem EntOK.step {e : MapEntry} {p : ByteArray × α} (h : EntOK R ag X w e p) (s : Step X w F X' w') : EntOK R ag X' w' e p := by
  obtain ⟨h1, h2, cs, h3, h4⟩ := h; exact ⟨h1, h2, cs, h3, R.step h4 s⟩
theorem EntOK.less {e : MapEntry} {p : ByteArray × α} (h : EntOK R ag X w e p) (s : Sub X' X) : EntOK R ag X' w e p := by
  obtain ⟨h1, h2, cs, h3, h4⟩ := h; exact ⟨h1, h2, cs, h3, R.less h4 s⟩
theorem EntsOK.step (s : Step X w F X' w') : ∀ {es : List MapEntry} {L : List (ByteArray × α)}, EntsOK R ag X w es L → EntsOK R ag X' w' es L
  | [], _, h => h
  | _ :: _, _, ⟨p, r, e, h1, h2⟩ => ⟨p, r, e, h1.step s, EntsOK.step s h2⟩
theorem EntsOK.less (s : Sub X' X) : ∀ {es : List MapEntry} {L : List (ByteArray × α)}, EntsOK R ag X w es L → EntsOK R ag X' w es L
  | [], _, h => h
  | _ :: _, _, ⟨p, r, e, h1, h2⟩ => ⟨p, r, e, h1.less s, EntsOK.less s h2⟩
theorem EntsOK.length : ∀ {es : List MapEntry} {L : List (ByteArray × α)}, EntsOK R ag X w es L → es.length = L.length
  | [], _, h => by rw [show _ = [] from h]; rfl
  | _ :: _, _, ⟨p, r, e, h1, h2⟩ => by rw [e]; simp [EntsOK.length h2]
theorem EntsOK.snoc {e' : MapEntry} {p' : ByteArray × α} (h' : EntOK R ag X w e' p') : ∀ {es : List MapEntry} {L : List (ByteArray × α)}, EntsOK R ag X w es L → EntsOK R ag X w (es ++ [e']) (L ++ [p'])
  | [], _, h => by rw [show _ = [] from h]; exact ⟨p', [], rfl, h', rfl⟩
  | _ :: _, _, ⟨p, r, e, h1, h2⟩ => by rw [e]; exact ⟨p, r ++ [p'], rfl, h1, EntsOK.snoc h' h2⟩
theorem MapAt.step (h : MapAt R ag X w r L) (s : Step X w F X' w') (hr : r ∉ F) : MapAt R ag X' w' r L := by
  obtain ⟨es, clk, hb, he, hc⟩ := h
  refine ⟨es, clk, ?_, he.step s, hc⟩
  rw [s.evo.keep r (Array.getElem?_eq_some_iff.1 hb).1 hr]; exact hb
theorem MapAt.lt (h : MapAt R ag X w r L) : r < w.heap.size := by obtain ⟨es, clk, hb, _⟩ := h; exact (Array.getElem?_eq_some_iff.1 hb).1
theorem MapAt.less (h : MapAt R ag X w r L) (s : Sub X' X) : MapAt R ag X' w r L := by obtain ⟨es, clk, hb, he, hc⟩ := h; exact ⟨es, clk, hb, he.less s, hc⟩
/-- A map of ours. -/
def OM {α : Type} (R : Rep α) (ag : Bool) (G : List Nat) (B : Nat) (X : List Nat) (w : World) (r : Nat) (L : List (ByteArray × α)) : Prop := r ∈ X ∧ MapAt R ag X w r L ∧ Wr G B [r]
theorem OM.step (h : OM R ag G B X w r L) (s : Step X w F X' w') (p : Ap [r] F) : OM R ag G B X' w' r L := ⟨s.up r h.1, h.2.1.step s (p r (by simp)), h.2.2⟩
theorem OM.step0 (h : OM R ag G B X w r L) (s : Step X w [] X' w') : OM R ag G B X' w' r L := h.step s (Ap.nil_r _)
theorem OM.old (h : OM R ag G B X w r L) : Old [r] w := fun x hx => by simp at hx; subst hx; exact h.2.1.lt
theorem OM.mem (h : OM R ag G B X w r L) : Sub [r] X := fun x hx => by simp at hx; subst hx; exact h.1
theorem OM.less (h : OM R ag G B X w r L) (s : Sub X' X) (m : Sub [r] X') : OM R ag G B X' w r L := ⟨m r (by simp), h.2.1.less s, h.2.2⟩
theorem OM.wr (h : OM R ag G B X w r L) : Wr G B [r] := h.2.2
theorem OM.re {H : List Nat} {B' : Nat} (h : OM R ag G B X w r L) (k : Wr H B' [r]) : OM R ag H B' X w r L := ⟨h.1, h.2.1, k⟩
end
/-- .. as a part of an object. -/
def oMp {α : Type} (R : Rep α) (ag : Bool) : Obj (List (ByteArray × α)) where
  ok F X w cs d := ∃ r, cs = [.map (some r)] ∧ F = [r] ∧ r ∈ X ∧ MapAt R ag X w r d
  step := by rintro F X w cs d G X' w' ⟨r, rfl, rfl, hr, h⟩ s p; exact ⟨r, rfl, rfl, s.up r hr, h.step s (p r (by simp))⟩
  mem := by rintro F X w cs d ⟨r, rfl, rfl, hr, h⟩; exact fun x hx => by simp at hx; subst hx; exact hr
  old := by rintro F X w cs d ⟨r, rfl, rfl, hr, h⟩; exact fun x hx => by simp at hx; subst hx; exact h.lt
  less := by rintro F X w cs d X' ⟨r, rfl, rfl, hr, h⟩ s m; exact ⟨r, rfl, rfl, m r (by simp), h.less s⟩
theorem oMp_mk {α : Type} {R : Rep α} {ag : Bool} {X G : List Nat} {w : World} {r B : Nat} {L : List (ByteArray × α)} (h : OM R ag G B X w r L) : (oMp R ag).ok [r] X w [.map (some r)] L := ⟨r, rfl, rfl, h.1, h.2.1⟩
theorem ba_beq (a b : ByteArray) : (a == b) = decide (a = b) := by
  cases a with | mk x => cases b with | mk y =>
  show (x == y) = _
  by_cases h : x = y
  · subst h; simp
  · have h2 : ¬ (ByteArray.mk x = ByteArray.mk y) := fun e => h (by injection e)
    rw [decide_eq_false h2]; simpa using h
/-! looking for a key -/
section
variable {α : Type} {R : Rep α} {ag : Bool} {X : List Nat} {w : World}
theorem findNow_cons {k : ByteArray} {e : MapEntry} {p : ByteArray × α} {es : List MapEntry} {i : Nat} (h : EntOK R ag X w e p) :
    Instr.findNow .string (.string k) (e :: es) i = if p.1 = k then some (some (i, e.val)) else Instr.findNow .string (.string k) es (i + 1) := by
  obtain ⟨h1, _, _⟩ := h
  have hs : Instr.sameNow .string (.string k) e.key = some (k == p.1) := by rw [h1]; rfl
  show (match Instr.sameNow .string (.string k) e.key with | some true => some (some (i, e.val)) | some false => Instr.findNow .string (.string k) es (i + 1) | none => none) = _
  rw [hs]
  by_cases hk : p.1 = k
  · have : (k == p.1) = true := by rw [ba_beq, decide_eq_true hk.symm]
    rw [this, if_pos hk]
  · have : (k == p.1) = false := by rw [ba_beq, decide_eq_false (fun h => hk h.symm)]
    rw [this, if_neg hk]
theorem findNow_ok (k : ByteArray) : ∀ {es : List MapEntry} {L : List (ByteArray × α)} (i : Nat), EntsOK R ag X w es L →
    (mlook L k = none ∧ Instr.findNow .string (.string k) es i = some none ∧ (∀ v, mset L k v = L ++ [(k, v)]) ∧ mdel L k = L) ∨
    ∃ (v : α) (j : Nat) (e : MapEntry), mlook L k = some v ∧ Instr.findNow .string (.string k) es i = some (some (i + j, e.val)) ∧ es[j]? = some e ∧ EntOK R ag X w e (k, v) ∧
      (∀ (v' : α) (e' : MapEntry), EntOK R ag X w e' (k, v') → EntsOK R ag X w (es.set j e') (mset L k v')) ∧ EntsOK R ag X w (es.eraseIdx j) (mdel L k)
  | [], L, i, h => by
    obtain rfl : L = [] := h
    exact .inl ⟨rfl, rfl, fun _ => rfl, rfl⟩
  | e :: es, L, i, h => by
    obtain ⟨p, r, rfl, h1, h2⟩ := h
    rw [findNow_cons h1]
    by_cases hk : p.1 = k
    · refine .inr ⟨p.2, 0, e, by simp [mlook, hk], by rw [if_pos hk]; rfl, rfl, by rw [← hk]; exact h1, fun v' e' h' => ?_, ?_⟩
      · simp only [mset, if_pos hk, List.set_cons_zero]; exact ⟨_, _, rfl, h', h2⟩
      · simp only [mdel, if_pos hk, List.eraseIdx_cons_zero]; exact h2
    · rw [if_neg hk]
      rcases findNow_ok k (i + 1) h2 with ⟨h3, h4, h5, h6⟩ | ⟨v, j, e0, h3, h4, h5, h6, h7, h8⟩
      · refine .inl ⟨by simp [mlook, hk, h3], h4, fun v => by simp [mset, hk, h5], by simp [mdel, hk, h6]⟩
      · refine .inr ⟨v, j + 1, e0, by simp [mlook, hk, h3], by rw [h4]; congr 3; omega, by simpa using h5, h6, fun v' e' h' => ?_, ?_⟩
        · simp only [mset, if_neg hk, List.set_cons_succ]; exact ⟨_, _, rfl, h1, h7 v' e' h'⟩
        · simp only [mdel, if_neg hk, List.eraseIdx_cons_succ]; exact ⟨_, _, rfl, h1, h8⟩
theorem Borns.set {es : List MapEntry} {clk j : Nat} {e e' : MapEntry} (h : Borns es clk) (hj : es[j]? = some e) (hb : e'.born = e.born) : Borns (es.set j e') clk := by
  have hm : (es.set j e').map (·.born) = es.map (·.born) := by
    rw [List.map_set, hb]
    have : (es.map (·.born))[j]? = some e.born := by rw [List.getElem?_map, hj]; rfl
    apply List.ext_getElem?
    intro i
    rw [List.getElem?_set]
    split
    · rename_i hij; subst hij; split
      · exact this.symm
      · rename_i hlt; rw [List.getElem?_eq_none (by omega)] at this; cases this
    · rfl
  refine ⟨by rw [hm]; exact h.1, fun x hx => ?_⟩
  have : x.born ∈ (es.set j e').map (·.born) := List.mem_map.2 ⟨x, hx, rfl⟩
  rw [hm] at this
  obtain ⟨y, hy, he⟩ := List.mem_map.1 this
  rw [← he]; exact h.2 y hy
theorem Borns.erase {es : List MapEntry} {clk : Nat} (h : Borns es clk) (j : Nat) : Borns (es.eraseIdx j) clk :=
  ⟨h.1.sublist ((List.eraseIdx_sublist _ _).map _), fun x hx => h.2 x ((List.eraseIdx_sublist _ _).subset hx)⟩
theorem Borns.push {es : List MapEntry} {clk : Nat} (h : Borns es clk) (e : MapEntry) (he : e.born = clk) : Borns (es ++ [e]) (clk + 1) := by
  refine ⟨?_, fun x hx => ?_⟩
  · rw [List.map_append, List.pairwise_append]
    refine ⟨h.1, by simp, fun a ha b hb => ?_⟩
    obtain ⟨y, hy, rfl⟩ := List.mem_map.1 ha
    simp at hb; subst hb; rw [he]; exact h.2 y hy
  · rcases List.mem_append.1 hx with h1 | h1
    · have := h.2 x h1; omega
    · simp at h1; subst h1; omega
end
/-! the operations -/
def World.setB (w : World) (r : Nat) (o : Go.Obj) : World := { w with heap := w.heap.setIfInBounds r o }
theorem run_setObj {P : Program} {w : World} {r clk : Nat} {es : Array MapEntry} (o : Go.Obj) (hb : w.heap[r]? = some (.map es clk)) : (setObj r o).run P w = .ok () (World.setB w r o) := by simp [setObj, Sem.run, hb, World.setB]
theorem run_getObj {P : Program} {w : World} {r clk : Nat} {es : Array MapEntry} (hb : w.heap[r]? = some (.map es clk)) : (getObj r).run P w = .ok (.map es clk) w := by simp [getObj, Sem.run, hb]
theorem setB_at {w : World} {r : Nat} {o0 : Go.Obj} (o : Go.Obj) (hb : w.heap[r]? = some o0) : (World.setB w r o).heap[r]? = some o := by
  have := (Array.getElem?_eq_some_iff.1 hb).1; simp [World.setB, this]
theorem Evo.setB (w : World) (r : Nat) (o : Go.Obj) : Evo [r] w (World.setB w r o) := ⟨rfl, rfl, rfl, by simp [World.setB], fun b _ hn => by
  have : r ≠ b := fun e => hn (by simp [e])
  simp [World.setB, this]⟩
theorem run_checkKey_str {P : Program} {kt : TypeId} (b : Bool) (k : ByteArray) (w : World) (hk : P.underlying kt = some .string) : (Instr.checkKey b 10000 kt (.string k)).run P w = .ok () w := by
  have : ∀ n, (Instr.checkKey b (n + 1) kt (.string k)).run P w = .ok () w := fun n => by simp [Instr.checkKey, run_underlying hk]
  exact this 9999
theorem run_findKey_str {P : Program} {kt : TypeId} {k : ByteArray} {es : List MapEntry} {x : Option (Nat × Value)} (w : World) (hk : P.underlying kt = some .string) (h : Instr.findNow .string (.string k) es 0 = some x) :
    (Instr.findKey kt (.string k) es).run P w = .ok x w := by simp [Instr.findKey, run_underlying hk, h]
section
variable {α : Type} {R : Rep α} {ag : Bool} {X G : List Nat} {B r : Nat} {L : List (ByteArray × α)}
variable {P : Program} {ops : Array Oper} {Q : Exit → Act → World → Prop} {n : Nat} {f : Nat → Value} {u : List (Nat × Value)} {w : World} {next : Act → World → Prop}
variable {dst : Option Tmp} {ty : TypeId} {pos : String} {aft : Array Edge} {gd : Option (Nat × Bool)}
/-- What a look-up finds, in each world where the map is as here. -/
def LookAt (r : Nat) (w : World) (k : ByteArray) (v z : Value) (b : Bool) : Prop := ∀ (P : Program) (w' : World) (t kt et s bts : Nat) (ok : Bool), w'.heap[r]? = w.heap[r]? → P.underlying t = some (.map kt et) → P.underlying kt = some .string →
  (P.info? et).map (fun i => (i.zero, i.size, i.bytes)) = some (some z, s, bts) → (Instr.lookup t (.map (some r)) (.string k) ok).run P w' = .ok (cond ok (.tuple #[v, .bool b]) v) w'
theorem run_zero {P : Program} {et s bts : Nat} {z : Value} (w : World) (h : (P.info? et).map (fun i => (i.zero, i.size, i.bytes)) = some (some z, s, bts)) : (zeroValue et).run P w = .ok z w := by
  obtain ⟨i, hi1, hi2, _, _⟩ := info_parts h
  simp [zeroValue, typeInfo, hi1, hi2]
theorem MapAt.look [Inhabited α] (h : MapAt R ag X w r L) (k : ByteArray) (z : List Value) (hz : ∀ X w, R.ok X w z default) :
    ∃ cs, R.ok X w cs (mgetD L k) ∧ LookAt r w k (vcell ag cs) (vcell ag z) (mhas L k) := by
  obtain ⟨es, clk, hb, he, hc⟩ := h
  rcases findNow_ok k 0 he with ⟨h1, h2, _, _⟩ | ⟨v, j, e, h1, h2, h3, h4, _, _⟩
  · refine ⟨z, by unfold mgetD; rw [h1]; exact hz X w, fun P w' t kt et s bts ok hw ht hk hzv => ?_⟩
    rw [hb] at hw
    have hf := run_findKey_str (P := P) w' hk h2
    cases ok <;> simp [Instr.lookup, run_underlying ht, run_getObj hw, run_checkKey_str _ k w' hk, hf, run_zero w' hzv, Result.andThen, mhas, h1]
  · obtain ⟨_, _, cs, hv, hr⟩ := h4
    refine ⟨cs, by unfold mgetD; rw [h1]; exact hr, fun P w' t kt et s bts ok hw ht hk hzv => ?_⟩
    rw [hb] at hw
    have hf := run_findKey_str (P := P) w' hk h2
    cases ok <;> simp [Instr.lookup, run_underlying ht, run_getObj hw, run_checkKey_str _ k w' hk, hf, Result.andThen, mhas, h1, hv]
theorem OM.keep {w' : World} {X' F : List Nat} (h : OM R ag G B X w r L) (s : Step X w F X' w') (p : Ap [r] F) : w'.heap[r]? = w.heap[r]? := s.evo.keep r h.2.1.lt (p r (by simp))
theorem x_lookup {w0 : World} {t kt et s bts : Nat} {x y : Operand} {k : ByteArray} {v z : Value} {b : Bool} (hx : evf n f u x = .map (some r)) (hy : evf n f u y = .string k) (h : LookAt r w0 k v z b) (hw : w.heap[r]? = w0.heap[r]?)
    (ht : P.underlying t = some (.map kt et)) (hk : P.underlying kt = some .string) (hi : (P.info? et).map (fun i => (i.zero, i.size, i.bytes)) = some (some z, s, bts)) :
    (execOp (evf n f u) ⟨dst, .lookup t x y false, ty, pos, aft, gd⟩).run P w = .ok (.value v) w := by
  have := h P w t kt et s bts false hw ht hk hi
  simp [execOp, hx, hy, this]
theorem x_lookup2 {w0 : World} {t kt et s bts : Nat} {x y : Operand} {k : ByteArray} {v z : Value} {b : Bool} (hx : evf n f u x = .map (some r)) (hy : evf n f u y = .string k) (h : LookAt r w0 k v z b) (hw : w.heap[r]? = w0.heap[r]?)
    (ht : P.underlying t = some (.map kt et)) (hk : P.underlying kt = some .string) (hi : (P.info? et).map (fun i => (i.zero, i.size, i.bytes)) = some (some z, s, bts)) :
    (execOp (evf n f u) ⟨dst, .lookup t x y true, ty, pos, aft, gd⟩).run P w = .ok (.value (.tuple #[v, .bool b])) w := by
  have := h P w t kt et s bts true hw ht hk hi
  simp [execOp, hx, hy, this]
/-- 'm[k] = v'. -/
theorem o_mapset {t kt et : TypeId} {x y z : Operand} {k : ByteArray} {cs : List Value} {d : α} (hg : Region.wanted ⟨dst, .mapUpdate t x y z, ty, pos, aft, gd⟩ (yielded ops (Fr n f u).tmps) = true)
    (hO : OM R ag G B X w r L) (ht : P.underlying t = some (.map kt et)) (hk : P.underlying kt = some .string) (hx : evf n f u x = .map (some r)) (hy : evf n f u y = .string k) (hz : evf n f u z = vcell ag cs)
    (hR : R.ok X w cs d) (hsz : k.size ≤ maxLen) (h : ∀ w', Step X w [r] X w' → OM R ag G B X w' r (mset L k d) → next (Fr n f (pusho dst undef u)) w') :
    OpW P ops Q ⟨dst, .mapUpdate t x y z, ty, pos, aft, gd⟩ n f u w next := by
  obtain ⟨hrX, ⟨es, clk, hb, he, hc⟩, hw⟩ := hO
  have hst : ∀ o, Step X w [r] X (World.setB w r o) := fun o => Step.one (Evo.setB w r o) hrX
  rcases findNow_ok k 0 he with ⟨h1, h2, h3, _⟩ | ⟨v, j, e, h1, h2, h3, h4, h5, _⟩
  · have hf := run_findKey_str (P := P) w hk h2
    refine o_skip hg (w' := World.setB w r (.map (es.push { key := .string k, val := vcell ag cs, born := clk }) (clk + 1))) ?_ (h _ (hst _) ⟨hrX, ⟨_, _, setB_at _ hb, ?_, ?_⟩, hw⟩)
    · simp [execOp, hx, hy, hz, Instr.mapUpdate, run_underlying ht, run_getObj hb, run_checkKey_str _ k w hk, hf, run_setObj _ hb, Result.andThen]
    · rw [h3, Array.toList_push]
      exact ((he.snoc (e' := { key := .string k, val := vcell ag cs, born := clk }) (p' := (k, d)) ⟨rfl, hsz, cs, rfl, hR⟩).step (hst _))
    · rw [Array.toList_push]; exact hc.push _ rfl
  · have hf := run_findKey_str (P := P) w hk h2
    rw [Nat.zero_add] at hf
    have hej : es[j]? = some e := by rw [← Array.getElem?_toList]; exact h3
    have hkey : e.key = .string k := h4.1
    have hsame : Instr.sameBits 10000 (.string k) (.string k) = true := by
      have : ∀ m, Instr.sameBits (m + 1) (.string k) (.string k) = true := fun m => by simp [Instr.sameBits, ba_beq]
      exact this 9999
    have hstay : (Instr.keyThatStays (.string k) (.string k)).run P w = .ok (.string k) w := by simp [Instr.keyThatStays, hsame]
    have hmod : (es.modify j fun e => { e with key := .string k, val := vcell ag cs }).toList = es.toList.set j { key := .string k, val := vcell ag cs, born := e.born } := by
      rw [Array.toList_modify]
      apply List.ext_getElem?
      intro i
      rw [List.getElem?_modify, List.getElem?_set]
      by_cases hij : j = i
      · subst hij; have hlt := (List.getElem?_eq_some_iff.1 h3).1; simp at hlt; rw [Array.getElem?_eq_getElem hlt] at hej; injection hej with hej; simp [hlt, hej]
      · simp [hij]
    refine o_skip hg (w' := World.setB w r (.map (es.modify j fun e => { e with key := .string k, val := vcell ag cs }) clk)) ?_ (h _ (hst _) ⟨hrX, ⟨_, _, setB_at _ hb, ?_, ?_⟩, hw⟩)
    · simp [execOp, hx, hy, hz, Instr.mapUpdate, run_underlying ht, run_getObj hb, run_checkKey_str _ k w hk, hf, hej, hkey, hstay, run_setObj _ hb, Result.andThen]
    · rw [hmod]
      exact (h5 d { key := .string k, val := vcell ag cs, born := e.born } ⟨rfl, hsz, cs, rfl, hR⟩).step (hst _)
    · rw [hmod]; exact hc.set h3 rfl
/-- 'delete(m, k)'. -/
theorem o_mapdel {t kt kt' et : TypeId} {x y : Operand} {k : ByteArray} (hg : Region.wanted ⟨dst, .call ⟨.builtin .delete, #[x, y], #[t, kt']⟩, ty, pos, aft, gd⟩ (yielded ops (Fr n f u).tmps) = true)
    (hO : OM R ag G B X w r L) (ht : P.underlying t = some (.map kt et)) (hk : P.underlying kt = some .string) (hx : evf n f u x = .map (some r)) (hy : evf n f u y = .string k)
    (h : ∀ w', Step X w [r] X w' → OM R ag G B X w' r (mdel L k) → next (Fr n f (pusho dst (.tuple #[]) u)) w') :
    OpW P ops Q ⟨dst, .call ⟨.builtin .delete, #[x, y], #[t, kt']⟩, ty, pos, aft, gd⟩ n f u w next := by
  obtain ⟨hrX, ⟨es, clk, hb, he, hc⟩, hw⟩ := hO
  have hst : ∀ o, Step X w [r] X (World.setB w r o) := fun o => Step.one (Evo.setB w r o) hrX
  have hex : ∀ w', (Builtin.delete_ #[t, kt'] ty #[.map (some r), .string k]).run P w = .ok (.tuple #[]) w' → (execOp (evf n f u) ⟨dst, .call ⟨.builtin .delete, #[x, y], #[t, kt']⟩, ty, pos, aft, gd⟩).run P w = .ok (.value (.tuple #[])) w' := fun w' hr => by
    unfold execOp
    simp only [resolve, invoke, builtin, Sem.run_bind, Sem.run_pure, Result.andThen_ok, List.map_toArray, List.map_cons, List.map_nil, hx, hy]
    rw [hr]; rfl
  rcases findNow_ok k 0 he with ⟨h1, h2, _, h3⟩ | ⟨v, j, e, h1, h2, h3, h4, _, h5⟩
  · have hf := run_findKey_str (P := P) w hk h2
    refine o_val (w' := World.setB w r (.map es clk)) _ hg (hex _ ?_) (h _ (hst _) ⟨hrX, ⟨_, _, setB_at _ hb, by rw [h3]; exact he.step (hst _), hc⟩, hw⟩)
    simp [Builtin.delete_, run_underlying ht, run_getObj hb, run_checkKey_str _ k w hk, hf, run_setObj _ hb, Result.andThen]
  · have hf := run_findKey_str (P := P) w hk h2
    rw [Nat.zero_add] at hf
    have hel : (es.eraseIdxIfInBounds j).toList = es.toList.eraseIdx j := by simp
    refine o_val (w' := World.setB w r (.map (es.eraseIdxIfInBounds j) clk)) _ hg (hex _ ?_) (h _ (hst _) ⟨hrX, ⟨_, _, setB_at _ hb, by rw [hel]; exact h5.step (hst _), by rw [hel]; exact hc.erase j⟩, hw⟩)
    simp [Builtin.delete_, run_underlying ht, run_getObj hb, run_checkKey_str _ k w hk, hf, run_setObj _ hb, Result.andThen]
theorem om_new {w' : World} (hB : B ≤ w.heap.size) (hb : r = w.heap.size) (he : Evo [] w w') (hm : MapAt R ag X w' r L) (hX : ∀ X', (∀ b ∈ X', b ∈ X ∨ w.heap.size ≤ b) → MapAt R ag X' w' r L) : Step X w [] (r :: X) w' ∧ OM R ag [] B (r :: X) w' r L ∧ ∀ l, Old l w → Ap l [r] := by
  have hlt := hm.lt
  refine ⟨Step.fresh X he r (by omega) hlt, ⟨List.mem_cons_self, hX _ fun b hb => ?_, fun x hx => by simp at hx; subst hx; exact .inr (by omega)⟩, fun l hl x hx hm => by simp at hm; subst hm; have := hl x hx; omega⟩
  cases hb with
  | head => exact .inr (by omega)
  | tail _ h => exact .inl h
/-- 'map[K]V{}'. -/
theorem o_mkmap {t : TypeId} (hB : B ≤ w.heap.size) (hg : Region.wanted ⟨dst, .makeMap t none, ty, pos, aft, gd⟩ (yielded ops (Fr n f u).tmps) = true)
    (h : ∀ r w' X', Step X w [] X' w' → OM R ag [] B X' w' r ([] : List (ByteArray × α)) → (∀ l, Old l w → Ap l [r]) → next (Fr n f (pusho dst (.map (some r)) u)) w') : OpW P ops Q ⟨dst, .makeMap t none, ty, pos, aft, gd⟩ n f u w next := by
  have hev := Evo.alloc w (.map #[] 0)
  have hm : ∀ X, MapAt R ag X (w.alloc (.map #[] 0)) w.heap.size ([] : List (ByteArray × α)) := fun X => ⟨#[], 0, heap_alloc_new w _, rfl, by simp, by simp⟩
  obtain ⟨s, o, p⟩ := om_new (R := R) (ag := ag) (X := X) (B := B) (L := []) hB rfl hev (hm X) fun X' _ => hm X'
  refine o_val (w' := w.alloc (.map #[] 0)) _ hg ?_ (h w.heap.size _ _ s o p)
  simp [execOp, Instr.makeMap, newObj, Sem.run]
/-- A map held against nil. -/
theorem equal_map_nil {t kt et : TypeId} (ht : P.underlying t = some (.map kt et)) : (Op.equal t (.map (some r)) (.map none)).run P w = .ok false w := by
  have h : ∀ d : Nat, (Op.equalIn (d + 1) t (.map (some r)) (.map none)).run P w = .ok false w := fun d => by simp [Op.equalIn, run_underlying ht]
  simp only [Op.equal, Op.maxDepth]
  exact h 9999
theorem x_mnil_eq {t t' kt et : TypeId} {x y : Operand} (ht : P.underlying t = some (.map kt et)) (hx : evf n f u x = .map (some r)) (hy : evf n f u y = .map none) :
    (execOp (evf n f u) ⟨dst, .binOp .eql t x y t', ty, pos, aft, gd⟩).run P w = .ok (.value (.bool false)) w := by
  simp [execOp, hx, hy, eqGuard, binOp, equal_map_nil ht]
theorem x_mnil_ne {t t' kt et : TypeId} {x y : Operand} (ht : P.underlying t = some (.map kt et)) (hx : evf n f u x = .map (some r)) (hy : evf n f u y = .map none) :
    (execOp (evf n f u) ⟨dst, .binOp .neq t x y t', ty, pos, aft, gd⟩).run P w = .ok (.value (.bool true)) w := by
  simp [execOp, hx, hy, eqGuard, binOp, equal_map_nil ht]
/-- What stands behind an interface is of the type that is asked for. -/
theorem x_assert_map {t xT kt et : TypeId} {x : Operand} {v : Value} (ht : P.underlying t = some (.map kt et)) (hx : evf n f u x = .iface t v) :
    (execOp (evf n f u) ⟨dst, .typeAssert x xT t false, ty, pos, aft, gd⟩).run P w = .ok (.value v) w := by
  simp [execOp, hx, Instr.typeAssert, run_underlying ht, go_sem, Result.andThen]
/-- maps.clone: a new map that holds the same. -/
theorem o_mapclone {fid : FuncId} {fn : Func} {t : TypeId} {x : Operand} {tys : Array TypeId} (hB : B ≤ w.heap.size) (hg : Region.wanted ⟨dst, .call ⟨.value (.func fid), #[x], tys⟩, ty, pos, aft, gd⟩ (yielded ops (Fr n f u).tmps) = true)
    (hf : P.funcs[fid]? = some fn) (h1 : (fn.name == "runtime.NumGoroutine") = false) (h2 : fn.body.isNone = true) (h3 : Extern.findNext fn = none) (h4 : Extern.find fn = some Extern.MapsClone.clone)
    (hO : OM R ag G B X w r L) (hx : evf n f u x = .iface t (.map (some r)))
    (h : ∀ r' w' X', Step X w [] X' w' → OM R ag [] B X' w' r' L → (∀ l, Old l w → Ap l [r']) → next (Fr n f (pusho dst (.iface t (.map (some r'))) u)) w') :
    OpW P ops Q ⟨dst, .call ⟨.value (.func fid), #[x], tys⟩, ty, pos, aft, gd⟩ n f u w next := by
  obtain ⟨hrX, ⟨es, clk, hb, he, hc⟩, hw⟩ := hO
  have hev := Evo.alloc w (.map es clk)
  have hlt : w.heap.size < (w.alloc (.map es clk)).heap.size := by simp
  have hs := Step.fresh X hev w.heap.size (Nat.le_refl _) hlt
  have hm : MapAt R ag (w.heap.size :: X) (w.alloc (.map es clk)) w.heap.size L := ⟨es, clk, heap_alloc_new w _, he.step hs, hc⟩
  refine o_val (w' := w.alloc (.map es clk)) _ hg ?_ (h w.heap.size _ _ hs ⟨List.mem_cons_self, hm, fun x hx => by simp at hx; subst hx; exact .inr hB⟩ fun l hl x hx hm => by simp at hm; subst hm; exact absurd (hl _ hx) (Nat.lt_irrefl _))
  have hcall := run_callFunc_extern hf h1 h2 h3 h4 #[.iface t (.map (some r))] w
  have hclone : (Extern.MapsClone.clone #[.iface t (.map (some r))]).run P w = .ok (.iface t (.map (some w.heap.size))) (w.alloc (.map es clk)) := by
    have e : Extern.MapsClone.clone #[.iface t (.map (some r))] = (getObj r >>= fun o => match o with
      | .map entries clock => (newObj (.map entries clock) >>= fun n => pure (.iface t (.map (some n))))
      | _ => stuck "maps.clone: a map expected") := rfl
    rw [e]
    simp [MapKept.run_getObj_map hb, Result.andThen, go_sem]
  rw [hclone] at hcall
  have hargs : (#[x] : Array Operand).map (evf n f u) = #[.iface t (.map (some r))] := by simp [hx]
  generalize (#[x] : Array Operand) = xs at hargs
  rw [← hargs] at hcall
  simp only [execOp, resolve, evf, Deferred.ofValue]
  simpa [invoke] using hcall
/-- 'len(m)'. -/
theorem x_maplen {t kt et : TypeId} {x : Operand} (ht : P.underlying t = some (.map kt et)) (hO : OM R ag G B X w r L) (hx : evf n f u x = .map (some r)) :
    (execOp (evf n f u) ⟨dst, .call ⟨.builtin .len, #[x], #[t]⟩, ty, pos, aft, gd⟩).run P w = .ok (.value (.int .i64 (L.length : Int))) w := by
  obtain ⟨hrX, ⟨es, clk, hb, he, hc⟩, hw⟩ := hO
  have hl : es.size = L.length := by rw [← he.length]; simp
  have hr : (Builtin.len_ #[t] ty #[.map (some r)]).run P w = .ok (.int .i64 (L.length : Int)) w := by
    simp [Builtin.len_, run_underlying ht, run_getObj hb, Result.andThen, goInt, hl]
  unfold execOp
  simp only [resolve, invoke, builtin, Sem.run_bind, Sem.run_pure, Result.andThen_ok, List.map_toArray, List.map_cons, List.map_nil, hx]
  rw [hr]; rfl
end
end Go.Proofs.YtfgmmabggjjhgaaGreatDoor
