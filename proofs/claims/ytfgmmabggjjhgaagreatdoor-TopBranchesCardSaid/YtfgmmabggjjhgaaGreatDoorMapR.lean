/- Maps that are only looked at, and walks through them. It speaks of any program; nothing of the claim's own program stands here. -/
import Derived.Test.YtfgmmabggjjhgaaGreatDoorIter
import Derived.Test.YtfgmmabggjjhgaaGreatDoorBld
namespace Go.Proofs.YtfgmmabggjjhgaaGreatDoor
open Go
section
variable {α : Type} {R : Rep α} {ag : Bool} {X X' F G : List Nat} {w w' : World} {it r B : Nat} {L rest : List (ByteArray × α)} {cur : Option (ByteArray × Value)}
/-- A map that is only looked at. -/
def RM {α : Type} (R : Rep α) (ag : Bool) (X : List Nat) (w : World) (r : Nat) (L : List (ByteArray × α)) : Prop := r ∉ X ∧ MapAt R ag X w r L
theorem RM.step (h : RM R ag X w r L) (s : Step X w F X' w') : RM R ag X' w' r L :=
  ⟨fun hm => by rcases s.new r hm with h3 | h3; exact h.1 h3; exact absurd h.2.lt (by omega), h.2.step s fun hm => h.1 (s.sub r hm)⟩
theorem RM.less (h : RM R ag X w r L) (s : Sub X' X) : RM R ag X' w r L := ⟨fun hm => h.1 (s r hm), h.2.less s⟩
theorem OM.rm (h : OM R ag G B X w r L) : RM R ag [] w r L := ⟨fun h => (by cases h), h.2.1.less (Sub.nil _)⟩
theorem RM.evo0 (h : RM R ag X w r L) (e : Evo [] w w') : RM R ag X w' r L := h.step (Step.of0 X e)
/-- A walk through a map that is only looked at. -/
def ITR {α : Type} (R : Rep α) (ag : Bool) (X : List Nat) (w : World) (G : List Nat) (B : Nat) (it r : Nat) (L rest : List (ByteArray × α)) (cur : Option (ByteArray × Value)) : Prop := r ∉ X ∧ r < w.heap.size ∧ IT R ag X w G B it r L rest cur
theorem ITR.step (h : ITR R ag X w G B it r L rest cur) (s : Step X w F X' w') (p : Ap [it] F) : ITR R ag X' w' G B it r L rest cur :=
  ⟨fun hm => by rcases s.new r hm with h3 | h3; exact h.1 h3; exact absurd h.2.1 (by omega), Nat.lt_of_lt_of_le h.2.1 s.evo.size, h.2.2.step s p fun x hx hm => by simp at hx; subst hx; exact h.1 (s.sub x hm)⟩
theorem ITR.step0 (h : ITR R ag X w G B it r L rest cur) (s : Step X w [] X' w') : ITR R ag X' w' G B it r L rest cur := h.step s (Ap.nil_r _)
theorem ITR.old (h : ITR R ag X w G B it r L rest cur) : Old [it] w := h.2.2.old
theorem ITR.mem (h : ITR R ag X w G B it r L rest cur) : Sub [it] X := h.2.2.mem
theorem ITR.less (h : ITR R ag X w G B it r L rest cur) (s : Sub X' X) (m : Sub [it] X') : ITR R ag X' w G B it r L rest cur := ⟨fun hm => h.1 (s r hm), h.2.1, h.2.2.less s m⟩
theorem ITR.wr (h : ITR R ag X w G B it r L rest cur) : Wr G B [it] := h.2.2.wr
theorem ITR.re {H : List Nat} {B' : Nat} (h : ITR R ag X w G B it r L rest cur) (k : Wr H B' [it]) : ITR R ag X w H B' it r L rest cur := ⟨h.1, h.2.1, h.2.2.re k⟩
theorem ITR.drop (h : ITR R ag X w G B it r L rest cur) : ITR R ag X w G B it r L rest none := ⟨h.1, h.2.1, h.2.2.drop⟩
end
section
variable {α : Type} {R : Rep α} {ag : Bool} {X G : List Nat} {it r B : Nat} {L rest : List (ByteArray × α)}
variable {P : Program} {ops : Array Oper} {Q : Exit → Act → World → Prop} {n : Nat} {f : Nat → Value} {u : List (Nat × Value)} {w : World} {next : Act → World → Prop}
variable {dst : Option Tmp} {ty : TypeId} {pos : String} {aft : Array Edge} {gd : Option (Nat × Bool)}
theorem o_rangeR {t kt et : TypeId} {x : Operand} (hB : B ≤ w.heap.size) (hg : Region.wanted ⟨dst, .range t x, ty, pos, aft, gd⟩ (yielded ops (Fr n f u).tmps) = true)
    (hO : RM R ag X w r L) (ht : P.underlying t = some (.map kt et)) (hx : evf n f u x = .map (some r))
    (h : ∀ it w' X', Step X w [] X' w' → ITR R ag X' w' [] B it r L L none → (∀ l, Old l w → Ap l [it]) → next (Fr n f (pusho dst (.pointer (some ⟨it, 0, none⟩)) u)) w') : OpW P ops Q ⟨dst, .range t x, ty, pos, aft, gd⟩ n f u w next := by
  have hrlt := hO.2.lt
  obtain ⟨hrX, ⟨es, clk, hb, he, hc⟩⟩ := hO
  have hev := Evo.alloc w (.mapIter (some r) clk #[] clk)
  have hlt : w.heap.size < (w.alloc (.mapIter (some r) clk #[] clk)).heap.size := by simp
  have hs := Step.fresh X hev w.heap.size (Nat.le_refl _) hlt
  refine o_val (w' := w.alloc (.mapIter (some r) clk #[] clk)) _ hg ?_ (h w.heap.size _ _ hs ⟨fun hm => ?_, by omega, List.mem_cons_self, ⟨es, clk, #[], heap_alloc_new w _, ?_, he.step hs, hc, ?_, fun k v h => by cases h⟩, fun x hx => by simp at hx; subst hx; exact .inr hB⟩ fun l hl x hx hm => by simp at hm; subst hm; exact absurd (hl _ hx) (Nat.lt_irrefl _))
  · simp [execOp, hx, run_range_map w t kt et r es clk ht hb]
  · rcases List.mem_cons.1 hm with h3 | h3
    · omega
    · exact hrX h3
  · rw [heap_alloc_old w _ (Array.getElem?_eq_some_iff.1 hb).1]; exact hb
  · have : es.toList.filter (fun e => !(#[] : Array Nat).contains e.born) = es.toList := List.filter_eq_self.2 fun x _ => by simp
    rw [this]; exact he.step hs
theorem o_nextR {x : Operand} {cur : Option (ByteArray × Value)} (hg : Region.wanted ⟨dst, .next x false, ty, pos, aft, gd⟩ (yielded ops (Fr n f u).tmps) = true)
    (hI : ITR R ag X w G B it r L rest cur) (hx : evf n f u x = .pointer (some ⟨it, 0, none⟩))
    (h0 : rest = [] → next (Fr n f (pusho dst (.tuple #[.bool false]) u)) w)
    (h1 : ∀ pr k v po cs w', rest = pr ++ (k, v) :: po → Step X w [it] X w' → ITR R ag X w' G B it r L (pr ++ po) (some (k, vcell ag cs)) → R.ok X w' cs v → k.size ≤ maxLen → next (Fr n f (pusho dst (.tuple #[.bool true, .string k, vcell ag cs]) u)) w') :
    OpW P ops Q ⟨dst, .next x false, ty, pos, aft, gd⟩ n f u w next :=
  o_next hg hI.2.2 hx h0 fun pr k v po cs w' hr hs hi hok hsz => h1 pr k v po cs w' hr hs ⟨hI.1, Nat.lt_of_lt_of_le hI.2.1 hs.evo.size, hi⟩ hok hsz
theorem x_entryR {x : Operand} {k : ByteArray} {v : Value} (hI : ITR R ag X w G B it r L rest (some (k, v))) (hx : evf n f u x = .pointer (some ⟨it, 0, none⟩)) :
    (execOp (evf n f u) ⟨dst, .entry x, ty, pos, aft, gd⟩).run P w = .ok (.value (.tuple #[.string k, v])) w := x_entry hI.2.2 hx
/-- 's[:n:n]': the slice itself, with no room. -/
theorem o_slice3K {t : TypeId} {x hx mx : Operand} {et : TypeId} {a : Option Addr} {m c sz : Nat} {k k' : IntKind} (ht : P.underlying t = some (.slice et)) (hs : ∀ w, (sizeOf et).run P w = .ok sz w) (hxx : evf n f u x = .slice a m c) (hmc : m ≤ c)
    (hg : Region.wanted ⟨dst, .slice t x none (some hx) (some mx), ty, pos, aft, gd⟩ (yielded ops (Fr n f u).tmps) = true) (hh : evf n f u hx = .int k (m : Int)) (hmx : evf n f u mx = .int k' (m : Int))
    (h : next (Fr n f (pusho dst (.slice a m m) u)) w) : OpW P ops Q ⟨dst, .slice t x none (some hx) (some mx), ty, pos, aft, gd⟩ n f u w next := by
  refine o_pv _ hg (x_slice (lo := 0) (hi := m) (mx := m) ht hs hxx (.inl ⟨rfl, rfl⟩) (.inr ⟨k, by show some (evf n f u hx) = _; rw [hh]⟩) (.inr ⟨k', by show some (evf n f u mx) = _; rw [hmx]⟩) hmc (Nat.zero_le _) (Nat.le_refl _) hmc) ?_
  have e : (if m = 0 then a else a.map (·.add (0 * sz))) = a := by
    split
    · rfl
    · cases a with
      | none => rfl
      | some ad => simp [Addr.add]
  simp only [Nat.sub_zero]
  rw [e]; exact h
end
theorem OS.nc {α : Type} {R : Rep α} {X G : List Nat} {w : World} {B n c : Nat} {ty : TypeId} {a : Option Addr} {L : List α} (h : OS R G B X w ty a n c L) : n ≤ c := by rw [h.1]; exact h.rd.1
theorem Sl.clip {α : Type} {R : Rep α} {X : List Nat} {w : World} {a : Option Addr} {c : Nat} {L : List α} (h : Sl R X w a c L) : Sl R X w a L.length L := by
  obtain ⟨h1, h2, h3⟩ := h
  refine ⟨Nat.le_refl _, by omega, ?_⟩
  rcases h3 with ⟨h3, _⟩ | h3
  · exact .inl ⟨h3, fun _ => by rw [h3]; rfl⟩
  · exact .inr h3
theorem Sl.clipN {α : Type} {R : Rep α} {X : List Nat} {w : World} {a : Option Addr} {c n : Nat} {L : List α} (h : Sl R X w a c L) (e : n = L.length) : Sl R X w a n L := e ▸ h.clip
/-- A cell that is as it was. -/
def Pin (w w' : World) (b off : Nat) : Prop := ∀ v, w.cell? ⟨b, off, none⟩ = some v → w'.cell? ⟨b, off, none⟩ = some v
theorem pin_mk {G G' X X' : List Nat} {B B' b off : Nat} {w w' : World} {cs cs' : List Value} {ty ty' : TypeId} {v : Value} (h : OB G B X w b cs ty) (h' : OB G' B' X' w' b cs' ty') (e : cs[off]? = some v) (e' : cs'[off]? = some v) : Pin w w' b off := fun u hu => by
  have h1 := h.2.1.cell' off e
  rw [h1] at hu; injection hu with hu; subst hu
  exact h'.2.1.cell' off e'
theorem map_inj {w : World} {p : Addr} {r r2 : Nat} (h : w.cell? p = some (.map (some r))) (h2 : w.cell? p = some (.map (some r2))) : r2 = r := by
  rw [h] at h2; injection h2 with h2; injection h2 with h2; injection h2 with h2; exact h2.symm
end Go.Proofs.YtfgmmabggjjhgaaGreatDoor