/- A row whose last element is still under way. It speaks of any program; nothing of the claim's own program stands here. -/
import Derived.Test.YtnnbnljofklieaaDoorDel
namespace Go.Proofs.YtnnbnljofklieaaDoor
open Go
/-- Cells as they are. -/
def rRaw (n : Nat) : Rep (List Value) where
  n := n
  ok _ _ cs d := cs = d ∧ d.length = n ∧ d.all Value.oneCell' = true
  len h := by rw [h.1]; exact h.2.1
  evo h _ _ := h
  sub h _ := h
  one h c hc := by rw [h.1] at hc; exact List.all_eq_true.1 h.2.2 c hc
theorem rRaw_mk {n : Nat} {X : List Nat} {w : World} {d : List Value} (h : d.length = n) (k : d.all Value.oneCell' = true) : (rRaw n).ok X w d d := ⟨rfl, h, k⟩
/-- Rows of cells, and what they tell. -/
def Rows {α : Type} (R : Rep α) (X : List Nat) (w : World) : List (List Value) → List α → Prop
  | [], [] => True
  | v :: V, d :: L => R.ok X w v d ∧ Rows R X w V L
  | _, _ => False
section
variable {α : Type} {R : Rep α} {X X' F G : List Nat} {w w' : World} {B n c : Nat} {ty : TypeId} {a : Option Addr}
theorem Rows.len : ∀ {V : List (List Value)} {L : List α}, Rows R X w V L → V.length = L.length
  | [], [], _ => rfl
  | _ :: _, _ :: _, h => by simp [Rows.len h.2]
  | [], _ :: _, h => h.elim
  | _ :: _, [], h => h.elim
theorem Rows.step (s : Step X w F X' w') : ∀ {V : List (List Value)} {L : List α}, Rows R X w V L → Rows R X' w' V L
  | [], [], _ => trivial
  | _ :: _, _ :: _, h => ⟨R.step h.1 s, Rows.step s h.2⟩
  | [], _ :: _, h => h.elim
  | _ :: _, [], h => h.elim
theorem Rows.less (s : Sub X' X) : ∀ {V : List (List Value)} {L : List α}, Rows R X w V L → Rows R X' w V L
  | [], [], _ => trivial
  | _ :: _, _ :: _, h => ⟨R.less h.1 s, Rows.less s h.2⟩
  | [], _ :: _, h => h.elim
  | _ :: _, [], h => h.elim
theorem Rows.snoc {v : List Value} {d : α} (k : R.ok X w v d) : ∀ {V : List (List Value)} {L : List α}, Rows R X w V L → Rows R X w (V ++ [v]) (L ++ [d])
  | [], [], _ => ⟨k, trivial⟩
  | _ :: _, _ :: _, h => ⟨h.1, Rows.snoc k h.2⟩
  | [], _ :: _, h => h.elim
  | _ :: _, [], h => h.elim
theorem Rows.flat {m : Nat} : ∀ {V : List (List Value)} {L : List α} {xs : List Value}, Flat (rRaw m) X w xs V → Rows R X w V L → Flat R X w xs L
  | [], [], _, h, _ => h
  | _ :: _, _ :: _, _, ⟨cs, r, e, h1, h2⟩, k => ⟨cs, r, e, by rw [h1.1]; exact k.1, Rows.flat h2 k.2⟩
  | [], _ :: _, _, _, h => h.elim
  | _ :: _, [], _, _, h => h.elim
/-- The row whole, once all its elements are done. -/
theorem OS.conv {m : Nat} {V : List (List Value)} {L : List α} (h : OS (rRaw m) G B X w ty a n c V) (hm : m = R.n) (k : Rows R X w V L) : OS R G B X w ty a n c L := by
  subst hm
  obtain ⟨hn, ⟨hb, hmem, xs, ho, hx⟩, hw⟩ := h
  have hl := k.len
  refine ⟨by omega, ⟨hb, hmem, xs, ?_, Rows.flat hx k⟩, hw⟩
  rw [← hl]; exact ho
end
theorem lget_snoc {α : Type} [Inhabited α] (V : List α) (v : α) : lget (V ++ [v]) (V.length : Int) = v := by unfold lget; simp
theorem lset_snoc {α : Type} (V : List α) (v v' : α) : lset (V ++ [v]) (V.length : Int) v' = V ++ [v'] := by unfold lset; simp
theorem inL_snoc {α : Type} (V : List α) (v : α) : inL (V ++ [v]) (V.length : Int) := ⟨by omega, by rw [List.length_append]; show (_ : Int) < ((_ + 1 : Nat) : Int); omega⟩
/-- The last element's cells. -/
theorem OE.cells {G X : List Nat} {w : World} {B b o n c m : Nat} {ty : TypeId} {V : List (List Value)} {v : List Value} (h : OS (rRaw m) G B X w ty (some ⟨b, o, none⟩) n c (V ++ [v])) : CellsAt w b (o + V.length * m) v := by
  obtain ⟨b', o', cs, ha, _, _, ok, hc⟩ := Sl.atI h.rd (V.length : Int) (inL_snoc V v)
  rw [lget_snoc] at ok
  injection ha with ha; injection ha with h1 h2
  subst h1; subst h2
  rw [ok.1] at hc; exact hc
section
variable {P : Program} {ops : Array Oper} {Q : Exit → Act → World → Prop} {n : Nat} {f : Nat → Value} {u : List (Nat × Value)} {w : World} {next : Act → World → Prop}
variable {dst : Option Tmp} {ty : TypeId} {pos : String} {aft : Array Edge} {gd : Option (Nat × Bool)}
/-- A store into a part of the last element. -/
theorem o_stE {G X : List Nat} {B : Nat} {t et : TypeId} {x y : Operand} {q c b o m : Nat} {V : List (List Value)} {v v' : List Value} {z : Value} (j : Nat)
    (hg : Region.wanted ⟨dst, .store t x y, ty, pos, aft, gd⟩ (yielded ops (Fr n f u).tmps) = true)
    (hO : OS (rRaw m) G B X w et (some ⟨b, o, none⟩) q c (V ++ [v])) (hv : (Nat.beq v.length m && Nat.beq v'.length m && v'.all Value.oneCell') = true)
    (hx : evf n f u x = .pointer (some ⟨b, o + V.length * m + j, none⟩)) (hy : evf n f u y = z) (hs : ∀ w, (sizeOf t).run P w = .ok z.cells.size w)
    (hfit : Nat.ble (j + z.cells.size) v.length = true) (h1 : z.cells.toList.all Value.oneCell' = true) (hcs : v.take j ++ z.cells.toList ++ v.drop (j + z.cells.size) = v')
    (h : ∀ w', Step X w [b] X w' → OS (rRaw m) G B X w' et (some ⟨b, o, none⟩) q c (V ++ [v']) → next (Fr n f (pusho dst undef u)) w') : OpW P ops Q ⟨dst, .store t x y, ty, pos, aft, gd⟩ n f u w next := by
  simp only [Bool.and_eq_true] at hv
  obtain ⟨⟨hv1, hv2⟩, hv3⟩ := hv
  have e1 := Nat.eq_of_beq_eq_true hv1
  have e2 := Nat.eq_of_beq_eq_true hv2
  refine o_stP (R := rRaw m) (L := V ++ [v]) (cs := v) (V.length : Int) j v' v' hg hO rfl (inL_snoc V v) (OE.cells hO) e1 hx hy hs hfit h1 hcs (fun _ => ⟨rfl, e2, hv3⟩) fun w' s o => ?_
  rw [lset_snoc] at o
  exact h w' s o
end
end Go.Proofs.YtnnbnljofklieaaDoor
