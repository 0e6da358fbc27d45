/- Going through a map of ours: each entry once, in whatever order. It speaks of any program; nothing of the claim's own program stands here. -/
import Derived.Test.YtfgmmabggjjhgaaGreatDoorMaps
import Derived.Laws.IdiomRangeMap
namespace Go.Proofs.YtfgmmabggjjhgaaGreatDoor
open Go
section
variable {α : Type} (R : Rep α) (ag : Bool) (X : List Nat) (w : World)
def ItAt (it r : Nat) (L rest : List (ByteArray × α)) (cur : Option (ByteArray × Value)) : Prop := ∃ es clk seen, w.heap[it]? = some (.mapIter (some r) clk seen clk) ∧ w.heap[r]? = some (.map es clk) ∧ EntsOK R ag X w es.toList L ∧ Borns es.toList clk ∧
  EntsOK R ag X w (es.toList.filter fun e => !seen.contains e.born) rest ∧ ∀ k v, cur = some (k, v) → ∃ e ∈ es.toList, seen.back? = some e.born ∧ e.key = .string k ∧ e.val = v
/-- A walk through a map, where it stands: L: what the map holds; rest: what is left. -/
def IT (G : List Nat) (B : Nat) (it r : Nat) (L rest : List (ByteArray × α)) (cur : Option (ByteArray × Value)) : Prop := it ∈ X ∧ ItAt R ag X w it r L rest cur ∧ Wr G B [it]
end
section
variable {α : Type} {R : Rep α} {ag : Bool} {X X' F G : List Nat} {w w' : World} {it r B : Nat} {L rest : List (ByteArray × α)} {cur : Option (ByteArray × Value)}
theorem IT.lt (h : IT R ag X w G B it r L rest cur) : it < w.heap.size := by obtain ⟨_, ⟨es, clk, seen, h1, _⟩, _⟩ := h; exact (Array.getElem?_eq_some_iff.1 h1).1
theorem IT.step (h : IT R ag X w G B it r L rest cur) (s : Step X w F X' w') (p : Ap [it] F) (q : Ap [r] F) : IT R ag X' w' G B it r L rest cur := by
  obtain ⟨hX, ⟨es, clk, seen, h1, h2, h3, h4, h5, h6⟩, hw⟩ := h
  refine ⟨s.up it hX, ⟨es, clk, seen, ?_, ?_, h3.step s, h4, h5.step s, h6⟩, hw⟩
  · rw [s.evo.keep it (Array.getElem?_eq_some_iff.1 h1).1 (p it (by simp))]; exact h1
  · rw [s.evo.keep r (Array.getElem?_eq_some_iff.1 h2).1 (q r (by simp))]; exact h2
theorem IT.step0 (h : IT R ag X w G B it r L rest cur) (s : Step X w [] X' w') : IT R ag X' w' G B it r L rest cur := h.step s (Ap.nil_r _) (Ap.nil_r _)
theorem IT.old (h : IT R ag X w G B it r L rest cur) : Old [it] w := fun x hx => by simp at hx; subst hx; exact h.lt
theorem IT.mem (h : IT R ag X w G B it r L rest cur) : Sub [it] X := fun x hx => by simp at hx; subst hx; exact h.1
theorem IT.less (h : IT R ag X w G B it r L rest cur) (s : Sub X' X) (m : Sub [it] X') : IT R ag X' w G B it r L rest cur := by
  obtain ⟨hX, ⟨es, clk, seen, h1, h2, h3, h4, h5, h6⟩, hw⟩ := h
  exact ⟨m it (by simp), ⟨es, clk, seen, h1, h2, h3.less s, h4, h5.less s, h6⟩, hw⟩
theorem IT.wr (h : IT R ag X w G B it r L rest cur) : Wr G B [it] := h.2.2
theorem IT.re {H : List Nat} {B' : Nat} (h : IT R ag X w G B it r L rest cur) (k : Wr H B' [it]) : IT R ag X w H B' it r L rest cur := ⟨h.1, h.2.1, k⟩
theorem IT.drop (h : IT R ag X w G B it r L rest cur) : IT R ag X w G B it r L rest none := by
  obtain ⟨hX, ⟨es, clk, seen, h1, h2, h3, h4, h5, h6⟩, hw⟩ := h
  exact ⟨hX, ⟨es, clk, seen, h1, h2, h3, h4, h5, fun k v h => by cases h⟩, hw⟩
theorem EntsOK.split {e : MapEntry} : ∀ {l1 l2 : List MapEntry} {rest : List (ByteArray × α)}, EntsOK R ag X w (l1 ++ e :: l2) rest → ∃ pr p po, rest = pr ++ p :: po ∧ EntOK R ag X w e p ∧ EntsOK R ag X w (l1 ++ l2) (pr ++ po)
  | [], l2, rest, h => by obtain ⟨p, r, rfl, h1, h2⟩ := h; exact ⟨[], p, r, rfl, h1, h2⟩
  | x :: l1, l2, rest, h => by
    obtain ⟨p0, r, rfl, h1, h2⟩ := h
    obtain ⟨pr, p, po, rfl, h3, h4⟩ := EntsOK.split (l1 := l1) h2
    exact ⟨p0 :: pr, p, po, rfl, h3, ⟨p0, pr ++ po, rfl, h1, h4⟩⟩
theorem filter_ne_born {l1 l2 : List MapEntry} {e : MapEntry} (h : ((l1 ++ e :: l2).map (·.born)).Pairwise (· < ·)) : (l1 ++ e :: l2).filter (fun x => !(x.born == e.born)) = l1 ++ l2 := by
  rw [List.map_append, List.map_cons, List.pairwise_append, List.pairwise_cons] at h
  obtain ⟨_, ⟨h2, _⟩, h3⟩ := h
  rw [List.filter_append, List.filter_cons]
  simp only [beq_self_eq_true, Bool.not_true, Bool.false_eq_true, if_false]
  rw [List.filter_eq_self.2, List.filter_eq_self.2]
  · intro x hx
    have := h2 x.born (List.mem_map.2 ⟨x, hx, rfl⟩)
    simp; omega
  · intro x hx
    have := h3 x.born (List.mem_map.2 ⟨x, hx, rfl⟩) e.born (by simp)
    simp; omega
end
theorem run_getObj_it {P : Program} {w : World} {it : Nat} {m : Option Nat} {a b : Nat} {s : Array Nat} (hb : w.heap[it]? = some (.mapIter m a s b)) : (getObj it).run P w = .ok (.mapIter m a s b) w := by simp [getObj, Sem.run, hb]
theorem run_setObj_it {P : Program} {w : World} {it : Nat} {m : Option Nat} {a b : Nat} {s : Array Nat} (o : Go.Obj) (hb : w.heap[it]? = some (.mapIter m a s b)) : (setObj it o).run P w = .ok () (World.setB w it o) := by simp [setObj, Sem.run, hb, World.setB]
/-- 'next': nothing is left; or one that is left comes out. -/
theorem run_next_it {P : Program} {w : World} {ty : TypeId} {it r clk : Nat} {seen : Array Nat} {es : Array MapEntry} (hi : w.heap[it]? = some (.mapIter (some r) clk seen clk)) (hb : w.heap[r]? = some (.map es clk)) (hc : Borns es.toList clk) :
    (es.toList.filter (fun e => !seen.contains e.born) = [] ∧ (Instr.next (.pointer (some ⟨it, 0, none⟩)) false ty).run P w = .ok (.tuple #[.bool false]) w) ∨
    ∃ l1 e l2 w1, es.toList.filter (fun e => !seen.contains e.born) = l1 ++ e :: l2 ∧ (w1 = w ∨ w1 = w.drew) ∧
      (Instr.next (.pointer (some ⟨it, 0, none⟩)) false ty).run P w = .ok (.tuple #[.bool true, e.key, e.val]) (World.setB w1 it (.mapIter (some r) clk (seen.push e.born) clk)) := by
  have htest := next_test_false seen es clk clk (fun x hx => hc.2 x hx) (Nat.le_refl _)
  simp only [Instr.next, Sem.run_bind, run_getObj_it hi, run_getObj hb, Result.andThen, htest, Bool.false_eq_true, if_false]
  have hmem : ∀ x ∈ (Array.filter (fun e => !seen.contains e.born) es).toList, x.born < clk := fun x hx => hc.2 x (by simp at hx ⊢; exact hx.1)
  have hfl : (Array.filter (fun e => !seen.contains e.born) es).toList = es.toList.filter (fun e => !seen.contains e.born) := by simp
  rw [← hfl]
  generalize Array.filter (fun e => !seen.contains e.born) es = L at hmem ⊢
  have e1 : L.filter (fun x => decide (x.born < clk)) = L := Array.filter_eq_self.2 (fun x hx => by simpa using hmem x (by simpa using hx))
  have e2 : L.filter (fun x => decide (x.born ≥ clk)) = #[] := by
    rw [Array.filter_eq_empty_iff]
    intro x hx
    have := hmem x (by simpa using hx)
    simp; omega
  simp only [e1, e2, Array.append_empty]
  by_cases h0 : L.size = 0
  · left
    have : L = #[] := Array.eq_empty_of_size_eq_zero h0
    subst this
    exact ⟨rfl, by simp [choose, Sem.run, Question.forced]⟩
  · right
    have hne : L.isEmpty = false := by simp [Array.isEmpty, h0]
    simp only [hne, Bool.false_eq_true, if_false, Array.empty_append, Array.size_map]
    have hch : ∃ (j : Nat) (w1 : World), j < L.size ∧ (w1 = w ∨ w1 = w.drew) ∧ (choose (Question.mapNext L.size)).run P w = .ok j w1 := by
      by_cases hf : L.size ≤ 1
      · exact ⟨0, w, by omega, .inl rfl, by simp [choose, Sem.run, Question.forced, hf]⟩
      · exact ⟨_, w.drew, Nat.mod_lt _ (by omega), .inr rfl, by
          simp only [choose, Sem.run, Question.forced, decide_eq_true_eq, hf, if_false, Question.cut]
          rfl⟩
    obtain ⟨j, w1, hj, hw1, hrun⟩ := hch
    have hi1 : w1.heap[it]? = some (.mapIter (some r) clk seen clk) := by rcases hw1 with rfl | rfl <;> exact hi
    have hjl : j < L.toList.length := by simpa using hj
    refine ⟨L.toList.take j, L[j], L.toList.drop (j + 1), w1, ?_, hw1, ?_⟩
    · have : L[j] = L.toList[j] := by simp
      rw [this, ← List.drop_eq_getElem_cons hjl, List.take_append_drop]
    · simp only [hrun, Array.getElem?_map, Array.getElem?_eq_getElem hj, Option.map_some, Sem.run_bind, run_setObj_it _ hi1, Result.andThen]
      rfl
section
variable {α : Type} {R : Rep α} {ag : Bool} {X G G' : List Nat} {B it r : Nat} {L rest : List (ByteArray × α)}
variable {P : Program} {ops : Array Oper} {Q : Exit → Act → World → Prop} {n : Nat} {f : Nat → Value} {u : List (Nat × Value)} {w : World} {next : Act → World → Prop}
variable {dst : Option Tmp} {ty : TypeId} {pos : String} {aft : Array Edge} {gd : Option (Nat × Bool)}
theorem o_range {t kt et : TypeId} {x : Operand} (hB : B ≤ w.heap.size) (hg : Region.wanted ⟨dst, .range t x, ty, pos, aft, gd⟩ (yielded ops (Fr n f u).tmps) = true)
    (hO : OM R ag G B X w r L) (ht : P.underlying t = some (.map kt et)) (hx : evf n f u x = .map (some r))
    (h : ∀ it w' X', Step X w [] X' w' → IT R ag X' w' [] B it r L L none → (∀ l, Old l w → Ap l [it]) → next (Fr n f (pusho dst (.pointer (some ⟨it, 0, none⟩)) u)) w') : OpW P ops Q ⟨dst, .range t x, ty, pos, aft, gd⟩ n f u w next := by
  obtain ⟨hrX, ⟨es, clk, hb, he, hc⟩, hw⟩ := hO
  have hev := Evo.alloc w (.mapIter (some r) clk #[] clk)
  have hlt : w.heap.size < (w.alloc (.mapIter (some r) clk #[] clk)).heap.size := by simp
  have hs := Step.fresh X hev w.heap.size (Nat.le_refl _) hlt
  refine o_val (w' := w.alloc (.mapIter (some r) clk #[] clk)) _ hg ?_ (h w.heap.size _ _ hs ⟨List.mem_cons_self, ⟨es, clk, #[], heap_alloc_new w _, ?_, he.step hs, hc, ?_, fun k v h => by cases h⟩, fun x hx => by simp at hx; subst hx; exact .inr hB⟩ fun l hl x hx hm => by simp at hm; subst hm; exact absurd (hl _ hx) (Nat.lt_irrefl _))
  · simp [execOp, hx, run_range_map w t kt et r es clk ht hb]
  · rw [heap_alloc_old w _ (Array.getElem?_eq_some_iff.1 hb).1]; exact hb
  · have : es.toList.filter (fun e => !(#[] : Array Nat).contains e.born) = es.toList := List.filter_eq_self.2 fun x _ => by simp
    rw [this]; exact he.step hs
theorem o_next {x : Operand} {cur : Option (ByteArray × Value)} (hg : Region.wanted ⟨dst, .next x false, ty, pos, aft, gd⟩ (yielded ops (Fr n f u).tmps) = true)
    (hI : IT R ag X w G B it r L rest cur) (hx : evf n f u x = .pointer (some ⟨it, 0, none⟩))
    (h0 : rest = [] → next (Fr n f (pusho dst (.tuple #[.bool false]) u)) w)
    (h1 : ∀ pr k v po cs w', rest = pr ++ (k, v) :: po → Step X w [it] X w' → IT R ag X w' G B it r L (pr ++ po) (some (k, vcell ag cs)) → R.ok X w' cs v → k.size ≤ maxLen → next (Fr n f (pusho dst (.tuple #[.bool true, .string k, vcell ag cs]) u)) w') :
    OpW P ops Q ⟨dst, .next x false, ty, pos, aft, gd⟩ n f u w next := by
  obtain ⟨hX, ⟨es, clk, seen, hi, hb, he, hc, hr, _⟩, hw⟩ := hI
  rcases run_next_it (P := P) (ty := ty) hi hb hc with ⟨hnil, hrun⟩ | ⟨l1, e, l2, w1, hsp, hw1, hrun⟩
  · rw [hnil] at hr
    refine o_val (w' := w) _ hg ?_ (h0 hr)
    simp [execOp, hx, hrun]
  · rw [hsp] at hr
    obtain ⟨pr, ⟨k, v⟩, po, rfl, hk, hrest⟩ := hr.split
    have hE1 : Evo [] w w1 := by rcases hw1 with rfl | rfl; exact RB.refl _ _ _; exact ⟨rfl, rfl, rfl, Nat.le_refl _, fun _ _ _ => rfl⟩
    have hh : w1.heap = w.heap := by rcases hw1 with rfl | rfl <;> rfl
    have hE : Evo [it] w (World.setB w1 it (.mapIter (some r) clk (seen.push e.born) clk)) := by
      refine ⟨?_, ?_, ?_, ?_, fun b _ hn => ?_⟩
      · rcases hw1 with rfl | rfl <;> rfl
      · rcases hw1 with rfl | rfl <;> rfl
      · rcases hw1 with rfl | rfl <;> rfl
      · simp [World.setB, hh]
      · have : it ≠ b := fun e => hn (by simp [e])
        simp [World.setB, this, hh]
    have hs : Step X w [it] X (World.setB w1 it (.mapIter (some r) clk (seen.push e.born) clk)) := Step.one hE hX
    have hrit : r ≠ it := fun e => by rw [e, hi] at hb; cases hb
    obtain ⟨hkey, hksz, cs, hval, hok⟩ := hk
    have hem : e ∈ es.toList := by
      have : e ∈ es.toList.filter (fun e => !seen.contains e.born) := by rw [hsp]; simp
      exact (List.mem_filter.1 this).1
    refine o_val _ hg ?_ (h1 pr k v po cs _ rfl hs ⟨hX, ⟨es, clk, seen.push e.born, ?_, ?_, he.step hs, hc, ?_, ?_⟩, hw⟩ (R.step hok hs) hksz)
    · simp only [execOp, hx, Sem.run_bind, hrun, Result.andThen, hkey, hval]; rfl
    · have hit := (Array.getElem?_eq_some_iff.1 hi).1; simp [World.setB, hh, hit]
    · simp [World.setB, hh, Ne.symm hrit, hb]
    · have hf : es.toList.filter (fun x => !(seen.push e.born).contains x.born) = l1 ++ l2 := by
        have : es.toList.filter (fun x => !(seen.push e.born).contains x.born) = (es.toList.filter fun x => !seen.contains x.born).filter fun x => !(x.born == e.born) := by
          rw [List.filter_filter]
          congr 1
          funext x
          rw [Array.contains_push]
          cases seen.contains x.born <;> cases (x.born == e.born) <;> rfl
        rw [this, hsp]
        refine filter_ne_born ?_
        rw [← hsp]
        exact hc.1.sublist (List.filter_sublist.map _)
      rw [hf]; exact hrest.step hs
    · intro k' v' hkv
      injection hkv with hkv; injection hkv with e1 e2
      subst e1; subst e2
      exact ⟨e, hem, by simp, hkey, hval⟩
/-- The round's key and value. -/
theorem x_entry {x : Operand} {k : ByteArray} {v : Value} (hI : IT R ag X w G B it r L rest (some (k, v))) (hx : evf n f u x = .pointer (some ⟨it, 0, none⟩)) :
    (execOp (evf n f u) ⟨dst, .entry x, ty, pos, aft, gd⟩).run P w = .ok (.value (.tuple #[.string k, v])) w := by
  obtain ⟨hX, ⟨es, clk, seen, hi, hb, he, hc, hr, h6⟩, hw⟩ := hI
  obtain ⟨e, hem, hback, hkey, hval⟩ := h6 k v rfl
  have hnd : (es.toList.map (·.born)).Nodup := hc.1.imp fun h => Nat.ne_of_lt h
  have hf := find_born e es.toList hnd hem
  have hf2 : es.find? (fun x => x.born == e.born) = some e := by rw [← Array.find?_toList]; exact hf
  simp [execOp, hx, Instr.entry, run_getObj_it hi, run_getObj hb, hback, hf2, hkey, hval, Result.andThen]
end
end Go.Proofs.YtfgmmabggjjhgaaGreatDoor
