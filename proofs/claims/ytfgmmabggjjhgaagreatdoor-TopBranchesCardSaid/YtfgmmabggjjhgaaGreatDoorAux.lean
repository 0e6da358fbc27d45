/- What is owned, as facts over an opaque list of writable blocks; data behind pointers; errors. It speaks of any program; nothing of the claim's own program stands here. -/
import Derived.Test.YtfgmmabggjjhgaaGreatDoorOps2
import Derived.Laws.IdiomStrings
namespace Go.Proofs.YtfgmmabggjjhgaaGreatDoor
open Go

/-! plain -/
def lget {α : Type} [Inhabited α] (L : List α) (i : Int) : α := L.getD i.toNat default
def lset {α : Type} (L : List α) (i : Int) (v : α) : List α := L.set i.toNat v
def inL {α : Type} (L : List α) (i : Int) : Prop := 0 ≤ i ∧ i < (L.length : Int)
theorem inL.lt {α : Type} {L : List α} {i : Int} (h : inL L i) : i.toNat < L.length := by unfold inL at h; omega
theorem inL.eq {α : Type} {L : List α} {i : Int} (h : inL L i) : i = ((i.toNat : Nat) : Int) := by unfold inL at h; omega
theorem lget_eq {α : Type} [Inhabited α] {L : List α} {i : Int} (h : inL L i) : L[i.toNat]'h.lt = lget L i := by
  unfold lget; simp [List.getD, List.getElem?_eq_getElem h.lt]

/-! apart, written, old -/
def Ap (l m : List Nat) : Prop := ∀ b ∈ l, b ∉ m
theorem Ap.symm {l m : List Nat} (h : Ap l m) : Ap m l := fun b hb hm => h b hm hb
theorem Ap.nil_l (m : List Nat) : Ap [] m := fun b hb => by cases hb
theorem Ap.nil_r (m : List Nat) : Ap m [] := fun _ _ hb => by cases hb
def Wr (F : List Nat) (B : Nat) (l : List Nat) : Prop := ∀ x ∈ l, x ∈ F ∨ B ≤ x
theorem Wr.of {F : List Nat} {B : Nat} {l : List Nat} (h : Wr [] B l) : Wr F B l := fun x hx => (h x hx).elim (fun h => by cases h) Or.inr
theorem Wr.nil (F : List Nat) (B : Nat) : Wr F B [] := fun x hx => by cases hx
theorem Evo.thenW {F0 F : List Nat} {a b c : World} (h : Evo F0 a b) (k : Evo F b c) (hw : Wr F0 a.heap.size F) : Evo F0 a c := h.then k hw
theorem Old.two {l m : List Nat} {w : World} (h : Old l w) (k : Old m w) : Old (l ++ m) w := fun b hb => by rcases List.mem_append.1 hb with h1 | h1; exact h b h1; exact k b h1

/-- A block that is ours, known whole. -/
def OB (F : List Nat) (B : Nat) (X : List Nat) (w : World) (b : Nat) (cs : List Value) (ty : TypeId) : Prop := b ∈ X ∧ Blk w b cs ty ∧ Wr F B [b]
/-- A slice that is ours. -/
def OS {α : Type} (R : Rep α) (F : List Nat) (B : Nat) (X : List Nat) (w : World) (ty : TypeId) (a : Option Addr) (n c : Nat) (L : List α) : Prop := n = L.length ∧ Own R X w 0 ty a c L ∧ Wr F B (blkL a)

section
variable {α : Type} {R : Rep α} {X X' F G : List Nat} {w w' : World} {B b n c : Nat} {cs : List Value} {ty : TypeId} {a : Option Addr} {L : List α}
theorem OB.step (h : OB G B X w b cs ty) (s : Step X w F X' w') (hp : Ap [b] F) : OB G B X' w' b cs ty := ⟨s.up b h.1, h.2.1.evo s.evo (hp b (by simp)), h.2.2⟩
theorem OB.step0 (h : OB G B X w b cs ty) (s : Step X w [] X' w') : OB G B X' w' b cs ty := h.step s (Ap.nil_r _)
theorem OB.old (h : OB G B X w b cs ty) : Old [b] w := fun x hx => by simp at hx; subst hx; exact h.2.1.lt
theorem OS.step (h : OS R G B X w ty a n c L) (s : Step X w F X' w') (hp : Ap (blkL a) F) : OS R G B X' w' ty a n c L := ⟨h.1, h.2.1.step s hp, h.2.2⟩
theorem OS.step0 (h : OS R G B X w ty a n c L) (s : Step X w [] X' w') : OS R G B X' w' ty a n c L := h.step s (Ap.nil_r _)
theorem OS.old (h : OS R G B X w ty a n c L) : Old (blkL a) w := fun x hx => (h.2.1.lt x hx).2
theorem OS.nil (X : List Nat) (w : World) (B : Nat) (ty : TypeId) : OS R [] B X w ty none 0 0 ([] : List α) := ⟨rfl, Own.nil (Nat.zero_le _), Wr.nil _ _⟩
/-- .. read for a moment. -/
theorem OS.rd (h : OS R G B X w ty a n c L) : Sl R [] w a c L := h.2.1.sl (Sub.nil _) (fun _ _ hx => by cases hx)
theorem OS.out {X0 : List Nat} (h : OS R [] B X w ty a n c L) (s : Sub X0 X) (h0 : ∀ b ∈ X0, b < B) : Sl R X0 w a c L :=
  h.2.1.sl s fun b hb hx => by have := h0 b hx; rcases h.2.2 b hb with h1 | h1; cases h1; omega
theorem OS.src (h : OS R G B X w ty a n c L) : Src R X w a c L := by
  obtain ⟨_, ⟨_, _, xs, ho, hx⟩, _⟩ := h
  rcases ho.2 with ⟨h1, h2⟩ | ⟨g, cap, cur, hv, hbg, hg, h3⟩
  · injection h1 with e1 e2 e3
    exact .inl ⟨List.eq_nil_of_length_eq_zero h2, fun _ => e3⟩
  · injection hv with e1 e2 e3
    subst e1
    exact .inr ⟨g, 0, xs, rfl, fun j u hj => by
      have := ho.cells (g := g) rfl j u hj
      rwa [Addr_add] at this, hx⟩
theorem OS.len (h : OS R G B X w ty a n c L) : L.length ≤ 9223372036854775807 := h.rd.len
/-- .. given up for reading: its blocks leave X. -/
theorem OS.release (h : OS R G B X w ty a n c L) : ∃ X1, Sub X1 X ∧ Sl R X1 w a c L ∧ (∀ l, Ap l (blkL a) → Sub l X → Sub l X1) := by
  refine ⟨X.filter fun b => decide (b ∉ blkL a), fun b hb => (List.mem_filter.1 hb).1, h.2.1.sl (fun b hb => (List.mem_filter.1 hb).1) fun b hb hx => ?_, fun l hl hs b hb => List.mem_filter.2 ⟨hs b hb, by simpa using hl b hb⟩⟩
  have := (List.mem_filter.1 hx).2
  simp at this
  exact this hb
theorem OB.less {X1 : List Nat} (h : OB G B X w b cs ty) (hs : Sub [b] X1) : OB G B X1 w b cs ty := ⟨hs b (by simp), h.2⟩
theorem OB.mem (h : OB G B X w b cs ty) : Sub [b] X := fun x hx => by simp at hx; subst hx; exact h.1
theorem OS.mem (h : OS R G B X w ty a n c L) : Sub (blkL a) X := h.2.1.mem
theorem OS.less {X1 : List Nat} (h : OS R G B X w ty a n c L) (s : Sub X1 X) (hm : Sub (blkL a) X1) : OS R G B X1 w ty a n c L := ⟨h.1, h.2.1.less s hm, h.2.2⟩
theorem OS.cut (h : OS R G B X w ty a n c L) (m : Nat) (hm : m ≤ L.length) : OS R G B X w ty a m c (L.take m) := by
  obtain ⟨hn, ⟨hb, hmem, xs, ho, hx⟩, hw⟩ := h
  have hl := hx.length
  refine ⟨by simp; omega, ⟨hb, hmem, xs.take (m * R.n), ⟨by simp; rw [hl]; exact Nat.min_eq_left (Nat.mul_le_mul_right _ hm) |>.trans (by rw [Nat.min_eq_left hm]), ?_⟩, hx.take m⟩, hw⟩
  rcases ho.2 with ⟨h1, h2⟩ | ⟨g, cap, cur, hv, hbg, hg, hnc, hcm, hcs, htake⟩
  · injection h1 with e1 e2 e3
    subst e1; subst e3
    have : m = 0 := by omega
    subst this
    exact .inl ⟨by simp, by simp⟩
  · injection hv with e1 e2 e3
    subst e1; subst e3
    have e : (L.take m).length = m := by simp; omega
    refine .inr ⟨g, c, cur, by rw [e], hbg, hg, by omega, hcm, hcs, ?_⟩
    rw [e, ← htake, List.take_take, Nat.min_eq_left (Nat.mul_le_mul_right _ hm)]
theorem Rep.less {α : Type} (R : Rep α) {X X1 : List Nat} {w : World} {cs : List Value} {d : α} (h : R.ok X w cs d) (s : Sub X1 X) : R.ok X1 w cs d := R.sub h fun b hb => .inl (s b hb)
theorem Flat.less {xs : List Value} {X1 : List Nat} (h : Flat R X w xs L) (s : Sub X1 X) : Flat R X1 w xs L := h.sub fun b hb => .inl (s b hb)
/-- An element, by its number as Go has it. -/
theorem Sl.atI [Inhabited α] (h : Sl R X w a c L) (i : Int) (hi : inL L i) : ∃ b o cs, a = some ⟨b, o, none⟩ ∧ b ∉ X ∧ b < w.heap.size ∧ R.ok X w cs (lget L i) ∧ CellsAt w b (o + i.toNat * R.n) cs := by
  have := h.at i.toNat hi.lt
  rwa [lget_eq hi] at this
end

/-! one law an operation, over what is owned -/
section
variable {P : Program} {ops : Array Oper} {Q : Exit → Act → World → Prop} {n : Nat} {f : Nat → Value} {u : List (Nat × Value)} {w : World} {next : Act → World → Prop}
variable {dst : Option Tmp} {ty : TypeId} {pos : String} {aft : Array Edge} {gd : Option (Nat × Bool)}

theorem ob_new {X : List Nat} {B b : Nat} {w w' : World} {cs : List Value} {t : TypeId} (hB : B ≤ w.heap.size) (hb : b = w.heap.size) (he : Evo [] w w') (hk : Blk w' b cs t) : Step X w [] (b :: X) w' ∧ OB [] B (b :: X) w' b cs t ∧ ∀ l, Old l w → Ap l [b] :=
  ⟨Step.fresh X he b (Nat.le_of_eq hb.symm) hk.lt, ⟨List.mem_cons_self, hk, fun x hx => by simp at hx; subst hx; exact Or.inr (by omega)⟩, fun l hl x hx hm => by simp at hm; have := hl x hx; omega⟩

/-- A new block. -/
theorem o_newX {op : Op} (cs : List Value) (t : TypeId) {X : List Nat} {B : Nat} (hB : B ≤ w.heap.size) (hg : Region.wanted ⟨dst, op, ty, pos, aft, gd⟩ (yielded ops (Fr n f u).tmps) = true)
    (hr : (execOp (evf n f u) ⟨dst, op, ty, pos, aft, gd⟩).run P w = .ok (.value (.pointer (some ⟨w.heap.size, 0, none⟩))) (w.alloc (.cells cs.toArray t)))
    (h : ∀ b w' X', Step X w [] X' w' → OB [] B X' w' b cs t → (∀ l, Old l w → Ap l [b]) → next (Fr n f (pusho dst (.pointer (some ⟨b, 0, none⟩)) u)) w') : OpW P ops Q ⟨dst, op, ty, pos, aft, gd⟩ n f u w next :=
  o_new cs t hg hr fun b w' hb he hk => by
    obtain ⟨s, o, p⟩ := ob_new (X := X) hB hb he hk
    exact h b w' _ s o p

/-- A new row of data. -/
theorem o_rowX {α : Type} {R : Rep α} {op : Op} (cs : List Value) (L : List α) (t : TypeId) (m : Nat) {X : List Nat} {B : Nat} (hB : B ≤ w.heap.size) (hg : Region.wanted ⟨dst, op, ty, pos, aft, gd⟩ (yielded ops (Fr n f u).tmps) = true)
    (hr : (execOp (evf n f u) ⟨dst, op, ty, pos, aft, gd⟩).run P w = .ok (.value (.slice (some ⟨w.heap.size, 0, none⟩) m m)) (w.alloc (.cells cs.toArray t)))
    (hf : Flat R X w cs L) (hm : m = L.length) (hmm : m ≤ maxLen)
    (h : ∀ b w' X', Step X w [] X' w' → OS R [] B X' w' t (some ⟨b, 0, none⟩) m m L → (∀ l, Old l w → Ap l (blkL (some ⟨b, 0, none⟩))) → next (Fr n f (pusho dst (.slice (some ⟨b, 0, none⟩) m m) u)) w') : OpW P ops Q ⟨dst, op, ty, pos, aft, gd⟩ n f u w next :=
  o_row cs t m hg hr fun b w' hb he hk => by
    obtain ⟨s, o, p⟩ := ob_new (X := X) hB hb he hk
    refine h b w' _ s ⟨hm, ?_, o.2.2⟩ p
    exact hk.own (X := b :: X) List.mem_cons_self ((hf.sub s.new).evo s.evo (Sub.nil _)) m hm.symm hmm (Nat.zero_le _)

/-- 'append(x, y...)'. -/
theorem o_appX {α : Type} {R : Rep α} {X G : List Nat} {B : Nat} {t t' et bytes : TypeId} {x y : Operand} {a a2 : Option Addr} {n1 c n2 c2 : Nat} {L M : List α}
    (hg : Region.wanted ⟨dst, .call ⟨.builtin .append, #[x, y], #[t, t']⟩, ty, pos, aft, gd⟩ (yielded ops (Fr n f u).tmps) = true)
    (ht : ElemT P t et R.n bytes) (htt : t' = t) (hB : B ≤ w.heap.size)
    (hO : OS R G B X w et a n1 c L) (hS : Src R X w a2 c2 M) (hn2 : n2 = M.length) (hx : evf n f u x = .slice a n1 c) (hy : evf n f u y = .slice a2 n2 c2)
    (hb : (L.length + M.length) * bytes ≤ 140737488355328)
    (h : ∀ a' n' c' w' X', Step X w (blkL a) X' w' → OS R G B X' w' et a' n' c' (L ++ M) → (∀ l, Ap l (blkL a) → Old l w → Ap l (blkL a')) → next (Fr n f (pusho dst (.slice a' n' c') u)) w') :
    OpW P ops Q ⟨dst, .call ⟨.builtin .append, #[x, y], #[t, t']⟩, ty, pos, aft, gd⟩ n f u w next :=
  o_append (base := 0) hg ht htt hO.2.1 hS hx hy hO.1 hn2 hb fun a' c' w' X' s hX hn ho => by
    refine h a' _ c' w' X' s ⟨rfl, ho, fun x hx => ?_⟩ (fun l hl ho x hx hm => ?_)
    · rcases hn x hx with h1 | h1
      · exact hO.2.2 x h1
      · exact Or.inr (by omega)
    · rcases hn x hm with h1 | h1
      · exact hl x hx h1
      · have := ho x hx; omega

/-- 'make([]T, m)'. -/
theorem o_makeX {α : Type} [Inhabited α] {R : Rep α} {X : List Nat} {B : Nat} {t et bytes : TypeId} {l c : Operand} {kl kc : IntKind} (z : Value) (m : Int) (hB : B ≤ w.heap.size)
    (hg : Region.wanted ⟨dst, .makeSlice t l c, ty, pos, aft, gd⟩ (yielded ops (Fr n f u).tmps) = true)
    (hu : P.underlying t = some (.slice et)) (hi : (P.info? et).map (fun i => (i.zero, i.size, i.bytes)) = some (some z, 1, bytes)) (hR : R.n = 1) (hzc : z.cells.toList = [z]) (hd : ∀ X w, R.ok X w [z] default)
    (hl : evf n f u l = .int kl m) (hc : evf n f u c = .int kc m) (hm : 0 ≤ m ∧ (bytes : Int) * m ≤ 281474976710656) (hm2 : inR .i64 m)
    (h : ∀ a' n' w' X', Step X w [] X' w' → OS R [] B X' w' et a' n' n' (List.replicate m.toNat (default : α)) → (∀ l, Old l w → Ap l (blkL a')) → next (Fr n f (pusho dst (.slice a' n' n') u)) w') :
    OpW P ops Q ⟨dst, .makeSlice t l c, ty, pos, aft, gd⟩ n f u w next := by
  have e : m = ((m.toNat : Nat) : Int) := by omega
  have h2 := inR_i64.1 hm2
  refine o_make (X := X) (base := 0) (default : α) z m.toNat _ hg hu hi hR hzc hd (by rw [hl, ← e]) (by rw [hc, ← e]) ?_ (by omega) (Nat.zero_le _) rfl ?_
  · have : ((bytes * m.toNat : Nat) : Int) ≤ 281474976710656 := by rw [Int.natCast_mul, ← e]; exact hm.2
    exact Int.ofNat_le.1 this
  · intro a' w' X' s hX hn ho
    exact h a' _ w' X' s ⟨by simp, ho, fun x hx => Or.inr (by have := hn x hx; omega)⟩ (fun l hl x hx hm => by have := hn x hm; have := hl x hx; omega)

/-- 'x[i] = v', x ours. -/
theorem o_stS {α : Type} {R : Rep α} {X G : List Nat} {B : Nat} {t et : TypeId} {x y : Operand} {a : Option Addr} {m c b o : Nat} {L : List α} {v : Value} (i : Int) (d : α)
    (hg : Region.wanted ⟨dst, .store t x y, ty, pos, aft, gd⟩ (yielded ops (Fr n f u).tmps) = true)
    (hO : OS R G B X w et a m c L) (ha : a = some ⟨b, o, none⟩) (hi : inL L i)
    (hx : evf n f u x = .pointer (some ⟨b, o + i.toNat * R.n, none⟩)) (hy : evf n f u y = v) (hs : ∀ w, (sizeOf t).run P w = .ok R.n w) (hv' : ∀ w, R.ok X w v.cells.toList d)
    (h : ∀ w', Step X w (blkL a) X w' → OS R G B X w' et a m c (lset L i d) → next (Fr n f (pusho dst undef u)) w') : OpW P ops Q ⟨dst, .store t x y, ty, pos, aft, gd⟩ n f u w next :=
  o_storeOwn i.toNat d _ hg hO.2.1 ha hi.lt rfl hx hy hs hv' fun w' s ho => h w' s ⟨by rw [hO.1]; simp [lset], ho, hO.2.2⟩

/-- A store into a block that is ours. -/
theorem o_stB {t bt : TypeId} {x y : Operand} {G X : List Nat} {B b o : Nat} {cs : List Value} {v : Value} (cs' : List Value) (hg : Region.wanted ⟨dst, .store t x y, ty, pos, aft, gd⟩ (yielded ops (Fr n f u).tmps) = true)
    (hO : OB G B X w b cs bt) (hx : evf n f u x = .pointer (some ⟨b, o, none⟩)) (hy : evf n f u y = v) (hs : ∀ w, (sizeOf t).run P w = .ok v.cells.size w)
    (hfit : Nat.ble (o + v.cells.size) cs.length = true) (h1 : v.cells.toList.all Value.oneCell' = true) (hcs : cs.take o ++ v.cells.toList ++ cs.drop (o + v.cells.size) = cs')
    (h : ∀ w', Step X w [b] X w' → OB G B X w' b cs' bt → next (Fr n f (pusho dst undef u)) w') : OpW P ops Q ⟨dst, .store t x y, ty, pos, aft, gd⟩ n f u w next :=
  o_store cs' hg hO.2.1 hx hy hs hfit h1 hcs fun w' he hk => h w' (Step.one he hO.1) ⟨hO.1, hk, hO.2.2⟩

/-- The address of an element. -/
theorem x_ixA {t : TypeId} {x ix : Operand} {b o m c sz : Nat} {k : IntKind} {i : Int} {et : TypeId} (ht : P.underlying t = some (.slice et)) (hs : ∀ w, (sizeOf et).run P w = .ok sz w)
    (hx : evf n f u x = .slice (some ⟨b, o, none⟩) m c) (hi : evf n f u ix = .int k i) (h : 0 ≤ i ∧ i < (m : Int)) :
    (execOp (evf n f u) ⟨dst, .indexAddr t x ix, ty, pos, aft, gd⟩).run P w = .ok (.value (.pointer (some ⟨b, o + i.toNat * sz, none⟩))) w :=
  x_indexAddr ht hs hx hi (by omega) (by omega)
end

/-! data behind a pointer -/
def rPtr {α : Type} (R : Rep α) (ty : TypeId) : Rep α where
  n := 1
  ok X w cs d := ∃ b cs', cs = [.pointer (some ⟨b, 0, none⟩)] ∧ b ∉ X ∧ Blk w b cs' ty ∧ R.ok X w cs' d
  len h := by obtain ⟨b, c, rfl, _⟩ := h; rfl
  evo h e s := by obtain ⟨b, c, rfl, hb, hk, h⟩ := h; exact ⟨b, c, rfl, hb, hk.evo e (fun hm => hb (s b hm)), R.evo h e s⟩
  sub h s := by obtain ⟨b, c, rfl, hb, hk, h⟩ := h; exact ⟨b, c, rfl, (fun hm => by rcases s b hm with h1 | h1; exact hb h1; have := hk.lt; omega), hk, R.sub h s⟩
  one h u hu := by obtain ⟨b, c, rfl, _⟩ := h; simp at hu; subst hu; rfl
def rPtrO {α : Type} (R : Rep α) (ty : TypeId) : Rep (Option α) where
  n := 1
  ok X w cs d := match d with | none => cs = [.pointer none] | some d => (rPtr R ty).ok X w cs d
  len {X w cs d} h := by cases d with | none => simp only at h; subst h; rfl | some d => exact (rPtr R ty).len h
  evo {X w cs d F w'} h e s := by cases d with | none => exact h | some d => exact (rPtr R ty).evo h e s
  sub {X w cs d X'} h s := by cases d with | none => exact h | some d => exact (rPtr R ty).sub h s
  one {X w cs d} h := by cases d with | none => intro u hu; simp only at h; subst h; simp at hu; subst hu; rfl | some d => exact (rPtr R ty).one h
theorem Rep.one1 {α : Type} (R : Rep α) (hn : R.n = 1) {X : List Nat} {w : World} {cs : List Value} {d : α} (h : R.ok X w cs d) : ∃ v, cs = [v] := by
  have := R.len h
  rw [hn] at this
  exact List.length_eq_one_iff.1 this

/-! errors -/
inductive PErr where
  | nil
  | no (n : Int)
  | fault (part : ByteArray) (place : Int) (e : Int)
instance : Inhabited PErr := ⟨.nil⟩
def PErr.isNil : PErr → Bool
  | .nil => true
  | _ => false
def rErr (tE tP tF : TypeId) : Rep PErr where
  n := 1
  ok X w cs e := match e with
    | .nil => cs = [.nilIface]
    | .no n => cs = [.iface tE (.int .i64 n)] ∧ inR .i64 n
    | .fault p a n => ∃ b, cs = [.iface tP (.pointer (some ⟨b, 0, none⟩))] ∧ b ∉ X ∧ Blk w b [.string p, .int .i64 a, .iface tE (.int .i64 n)] tF ∧ p.size ≤ maxLen ∧ inR .i64 a ∧ inR .i64 n
  len {X w cs e} h := by
    cases e with
    | nil => simp only at h; subst h; rfl
    | no n => rw [h.1]; rfl
    | fault p a n => obtain ⟨b, rfl, _⟩ := h; rfl
  evo {X w cs e F w'} h ev s := by
    cases e with
    | nil => exact h
    | no n => exact h
    | fault p a n => obtain ⟨b, h1, hb, hk, h2⟩ := h; exact ⟨b, h1, hb, hk.evo ev (fun hm => hb (s b hm)), h2⟩
  sub {X w cs e X'} h s := by
    cases e with
    | nil => exact h
    | no n => exact h
    | fault p a n => obtain ⟨b, h1, hb, hk, h2⟩ := h; exact ⟨b, h1, (fun hm => by rcases s b hm with h1 | h1; exact hb h1; have := hk.lt; omega), hk, h2⟩
  one {X w cs e} h u hu := by
    cases e with
    | nil => simp only at h; subst h; simp at hu; subst hu; rfl
    | no n => rw [h.1] at hu; simp at hu; subst hu; rfl
    | fault p a n => obtain ⟨b, rfl, _⟩ := h; simp at hu; subst hu; rfl
section
variable {P : Program} {n : Nat} {f : Nat → Value} {u : List (Nat × Value)} {w : World} {dst : Option Tmp} {ty : TypeId} {pos : String} {aft : Array Edge} {gd : Option (Nat × Bool)}
theorem x_err_eq {tE tP tF t t' : TypeId} {x : Operand} {ms : Array (String × TypeId)} {v : Value} {X : List Nat} {w0 : World} (e : PErr) (h : (rErr tE tP tF).ok X w0 [v] e) (ht : P.underlying t = some (.interface ms)) (hx : evf n f u x = v) :
    (execOp (evf n f u) ⟨dst, .binOp .eql t x (.const .nilIface) t', ty, pos, aft, gd⟩).run P w = .ok (.value (.bool e.isNil)) w := by
  have hy : evf n f u (.const .nilIface) = .nilIface := rfl
  cases e with
  | nil => simp only [rErr] at h; injection h with h _; subst h; exact x_nilnil_eq ht hx rfl
  | no k => obtain ⟨h, _⟩ := h; injection h with h _; subst h; exact x_inil_eq ht hx hy
  | fault p a k => obtain ⟨b, h, _⟩ := h; injection h with h _; subst h; exact x_inil_eq ht hx hy
theorem x_err_ne {tE tP tF t t' : TypeId} {x : Operand} {ms : Array (String × TypeId)} {v : Value} {X : List Nat} {w0 : World} (e : PErr) (h : (rErr tE tP tF).ok X w0 [v] e) (ht : P.underlying t = some (.interface ms)) (hx : evf n f u x = v) :
    (execOp (evf n f u) ⟨dst, .binOp .neq t x (.const .nilIface) t', ty, pos, aft, gd⟩).run P w = .ok (.value (.bool (!e.isNil))) w := by
  have hy : evf n f u (.const .nilIface) = .nilIface := rfl
  cases e with
  | nil => simp only [rErr] at h; injection h with h _; subst h; exact x_nilnil_ne ht hx rfl
  | no k => obtain ⟨h, _⟩ := h; injection h with h _; subst h; exact x_inil_ne ht hx hy
  | fault p a k => obtain ⟨b, h, _⟩ := h; injection h with h _; subst h; exact x_inil_ne ht hx hy
end
/-! data put together -/
def rOne {α : Type} (R : Rep α) : Rep α where
  n := 1
  ok X w cs d := ∃ v, cs = [v] ∧ R.ok X w [v] d
  len h := by obtain ⟨v, rfl, _⟩ := h; rfl
  evo h e s := by obtain ⟨v, rfl, h⟩ := h; exact ⟨v, rfl, R.evo h e s⟩
  sub h s := by obtain ⟨v, rfl, h⟩ := h; exact ⟨v, rfl, R.sub h s⟩
  one h u hu := by obtain ⟨v, rfl, h⟩ := h; exact R.one h u hu
section
variable {α β : Type} {R : Rep α} {S : Rep β} {X : List Nat} {w : World}
theorem rMap_mk {cs : List Value} (g : β → α) {x : β} (h : R.ok X w cs (g x)) : (rMap g R).ok X w cs x := h
theorem rPair_mk {c1 c2 : List Value} {x : α} {y : β} (h : R.ok X w c1 x) (k : S.ok X w c2 y) : (rPair R S).ok X w (c1 ++ c2) (x, y) := ⟨c1, c2, rfl, h, k⟩
theorem rInt_mk {k : IntKind} {x : Int} (h : inR k x) : (rInt k).ok X w [.int k x] x := ⟨rfl, h⟩
theorem rStr_mk {x : ByteArray} (h : x.size ≤ maxLen) : rStr.ok X w [.string x] x := ⟨rfl, h⟩
theorem rBool_mk {x : Bool} : rBool.ok X w [.bool x] x := rfl
theorem rBool_mk' {x : Bool} {v : Value} (h : v = .bool x) : rBool.ok X w [v] x := by subst h; rfl
theorem rSl_mk {a : Option Addr} {c : Nat} {L : List α} (h : Sl R X w a c L) : (rSl R).ok X w [.slice a L.length c] L := ⟨a, c, rfl, h⟩
theorem rSl_mk' {a : Option Addr} {n c : Nat} {L : List α} (h : Sl R X w a c L) (hn : n = L.length) : (rSl R).ok X w [.slice a n c] L := by subst hn; exact ⟨a, c, rfl, h⟩
theorem rOne_mk {v : Value} {x : α} (h : R.ok X w [v] x) : (rOne R).ok X w [v] x := ⟨v, rfl, h⟩
theorem rPtrO_some {b : Nat} {ty : TypeId} {cs : List Value} {d : α} (hb : b ∉ X) (hk : Blk w b cs ty) (h : R.ok X w cs d) : (rPtrO R ty).ok X w [.pointer (some ⟨b, 0, none⟩)] (some d) := ⟨b, cs, rfl, hb, hk, h⟩
theorem rPtrO_none {ty : TypeId} : (rPtrO R ty).ok X w [.pointer none] none := rfl
theorem rErr_nil {tE tP tF : TypeId} : (rErr tE tP tF).ok X w [.nilIface] .nil := rfl
theorem rErr_no {tE tP tF : TypeId} {n : Int} (h : inR .i64 n) : (rErr tE tP tF).ok X w [.iface tE (.int .i64 n)] (.no n) := ⟨rfl, h⟩
theorem rErr_fault {tE tP tF : TypeId} {b : Nat} {p : ByteArray} {a n : Int} (hb : b ∉ X) (hk : Blk w b [.string p, .int .i64 a, .iface tE (.int .i64 n)] tF) (h1 : p.size ≤ maxLen) (h2 : inR .i64 a) (h3 : inR .i64 n) :
    (rErr tE tP tF).ok X w [.iface tP (.pointer (some ⟨b, 0, none⟩))] (.fault p a n) := ⟨b, rfl, hb, hk, h1, h2, h3⟩
theorem Blk.cast {b : Nat} {cs cs' : List Value} {ty : TypeId} (h : cs = cs') (k : Blk w b cs ty) : Blk w b cs' ty := h ▸ k
theorem OB.notin {B b : Nat} {X X0 : List Nat} {cs : List Value} {ty : TypeId} (h : OB [] B X w b cs ty) (h0 : ∀ b ∈ X0, b < B) : b ∉ X0 := fun hm => by
  have := h0 b hm
  rcases h.2.2 b (by simp) with h1 | h1
  · cases h1
  · omega
end
/-! handing over -/
section
variable {α : Type} {R : Rep α} {X X' F G : List Nat} {w w' : World} {B b n c : Nat} {cs : List Value} {ty : TypeId} {a : Option Addr} {L : List α}
theorem OS.apold {X0 : List Nat} (h : OS R [] B X w ty a n c L) (h0 : ∀ b ∈ X0, b < B) : Ap X0 (blkL a) := fun b hb hm => by
  have := h0 b hb
  rcases h.2.2 b hm with h1 | h1
  · cases h1
  · omega
theorem OS.give {X0 : List Nat} (h : OS R [] B X w ty a n c L) (s : Sub X0 X) : OS R [] B (blkL a ++ X0) w ty a L.length c L := by
  obtain ⟨_, h2, h3⟩ := h
  exact ⟨rfl, h2.less (fun b hb => by rcases List.mem_append.1 hb with h | h; exact h2.mem b h; exact s b h) (fun _ h => List.mem_append_left _ h), h3⟩
theorem OS.own_in (h : OS R [] w.heap.size (blkL a ++ X) w' ty a n c L) (e : Evo [] w w') (hB : B ≤ w.heap.size) : ∃ X', Step X w [] X' w' ∧ OS R [] B X' w' ty a n c L ∧ ∀ l, Old l w → Ap l (blkL a) := by
  have hge : ∀ x ∈ blkL a, w.heap.size ≤ x := fun x hx => (h.2.2 x hx).elim (fun h => by cases h) id
  refine ⟨blkL a ++ X, Step.app X (blkL a) e (fun b hb => ⟨hge b hb, h.old b hb⟩), ⟨h.1, h.2.1, fun x hx => Or.inr (Nat.le_trans hB (hge x hx))⟩, fun l hl x hx hm => ?_⟩
  have := hl x hx; have := hge x hm; omega
end

/-! numbers, by what is known of them -/
instance {k : IntKind} {x : Int} : Decidable (inR k x) := by unfold inR; infer_instance
theorem inR_def {k : IntKind} {r : Int} (h : inR k r) : k.min ≤ r ∧ r ≤ k.max := h
theorem wrap_inR {k : IntKind} {r : Int} (h : inR k r) : k.wrap r = r := wrap_eq k h.1 h.2
theorem inR_u64 {x : Int} : inR .u64 x ↔ 0 ≤ x ∧ x ≤ 18446744073709551615 := by
  unfold inR; rw [show IntKind.u64.min = 0 from by decide, show IntKind.u64.max = 18446744073709551615 from by decide]
theorem inR_u32 {x : Int} : inR .u32 x ↔ 0 ≤ x ∧ x ≤ 4294967295 := by
  unfold inR; rw [show IntKind.u32.min = 0 from by decide, show IntKind.u32.max = 4294967295 from by decide]
theorem inR_len {n : Nat} (h : n ≤ 9223372036854775807) : inR .i64 (n : Int) := inR_i64.2 ⟨by omega, by omega⟩
theorem inR_size {n : Nat} (h : n ≤ maxLen) : inR .i64 (n : Int) := inR_len h
theorem inR_max {k : IntKind} {a b : Int} (ha : inR k a) (hb : inR k b) : inR k (max a b) := by unfold inR at *; omega
theorem inR_min {k : IntKind} {a b : Int} (ha : inR k a) (hb : inR k b) : inR k (min a b) := by unfold inR at *; omega
theorem inR_up {k k' : IntKind} {a : Int} (h1 : k'.min ≤ k.min) (h2 : k.max ≤ k'.max) (h : inR k a) : inR k' a := by unfold inR at *; omega
theorem kmin_le {k : IntKind} : k.min ≤ 0 := by cases k <;> decide
theorem kmax_ge {k : IntKind} : 0 ≤ k.max := by cases k <;> decide
theorem inR_rem {k : IntKind} {a b : Int} (_ : 0 ≤ a) (hb : 0 < b) (_ : inR k a) (h2 : inR k b) : inR k (a % b) := by
  have := Int.emod_nonneg a (show b ≠ 0 by omega); have := Int.emod_lt_of_pos a hb; have := @kmin_le k; unfold inR at *; omega
theorem inR_quo {k : IntKind} {a b : Int} (h0 : 0 ≤ a) (_ : 0 < b) (h1 : inR k a) (_ : inR k b) : inR k (a / b) := by
  have := Int.ediv_nonneg h0 (show 0 ≤ b by omega); have := Int.ediv_le_self b h0; have := @kmin_le k; unfold inR at *; omega
theorem inR_u8_mod (a : Int) : inR .u8 (a % 256) := inR_u8.2 ⟨Int.emod_nonneg _ (by decide), by have := Int.emod_lt_of_pos a (show (0 : Int) < 256 by decide); omega⟩
theorem inR_u32_mod (a : Int) : inR .u32 (a % 4294967296) := inR_u32.2 ⟨Int.emod_nonneg _ (by decide), by have := Int.emod_lt_of_pos a (show (0 : Int) < 4294967296 by decide); omega⟩
theorem inR_u64_mod (a : Int) : inR .u64 (a % 18446744073709551616) := inR_u64.2 ⟨Int.emod_nonneg _ (by decide), by have := Int.emod_lt_of_pos a (show (0 : Int) < 18446744073709551616 by decide); omega⟩
def iwrap (k : IntKind) (a : Int) : Int := k.wrap a
theorem inR_wrap (k : IntKind) (a : Int) : inR k (k.wrap a) := by
  cases k <;> simp [inR, IntKind.wrap, IntKind.min, IntKind.max, IntKind.signed, IntKind.bits] <;> omega
theorem inR_iwrap (k : IntKind) (a : Int) : inR k (iwrap k a) := inR_wrap k a
theorem inR_nn8 {a : Int} (h : inR .u8 a) : 0 ≤ a := (inR_u8.1 h).1
theorem inR_nn {k : IntKind} {a : Int} (h : inR k a) (hk : k.min = 0 := by decide) : 0 ≤ a := by unfold inR at h; omega
theorem dec_t {p : Prop} [Decidable p] (h : p ↔ True) : Value.bool (decide p) = .bool true := by rw [decide_eq_true (h.2 trivial)]
theorem dec_f {p : Prop} [Decidable p] (h : p ↔ False) : Value.bool (decide p) = .bool false := by rw [decide_eq_false h.1]
theorem dec_d {p q : Prop} [Decidable p] [Decidable q] (h : p ↔ q) : Value.bool (decide p) = .bool (decide q) := by rw [decide_eq_decide.2 h]
theorem dec_n {p q : Prop} [Decidable p] [Decidable q] (h : p ↔ ¬ q) : Value.bool (decide p) = .bool (!decide q) := by rw [decide_eq_decide.2 h, decide_not]
theorem dec_b {p : Prop} [Decidable p] {b : Bool} (h : p ↔ b = true) : Value.bool (decide p) = .bool b := by cases b <;> simp [h]
theorem iff_true_intro' {p : Prop} (h : p) : p ↔ True := iff_true_intro h
theorem take_len {α : Type} (L : List α) : L.take ((L.length : Nat) : Int).toNat = L := by simp
section
variable {P : Program} {ops : Array Oper} {Q : Exit → Act → World → Prop} {n : Nat} {f : Nat → Value} {u : List (Nat × Value)} {w : World} {next : Act → World → Prop}
variable {dst : Option Tmp} {ty : TypeId} {pos : String} {aft : Array Edge} {gd : Option (Nat × Bool)}
theorem x_bt {o : Oper} {b : Bool} (hr : (execOp (evf n f u) o).run P w = .ok (.value (.bool b)) w) (h : b = true) : (execOp (evf n f u) o).run P w = .ok (.value (.bool true)) w := by rw [hr, h]
theorem x_bf {o : Oper} {b : Bool} (hr : (execOp (evf n f u) o).run P w = .ok (.value (.bool b)) w) (h : ¬ b = true) : (execOp (evf n f u) o).run P w = .ok (.value (.bool false)) w := by rw [hr, Bool.not_eq_true b |>.mp h]
theorem x_add2 {t t' : TypeId} {x y : Operand} {k : IntKind} {a b : Int} (r : Int) (hx : evf n f u x = .int k a) (hy : evf n f u y = .int k b) (hw : k.wrap (a + b) = r) :
    (execOp (evf n f u) ⟨dst, .binOp .add t x y t', ty, pos, aft, gd⟩).run P w = .ok (.value (.int k r)) w := by
  subst hw; simp [execOp, hx, hy, eqGuard, binOp, Op.intArith]
theorem x_sub2 {t t' : TypeId} {x y : Operand} {k : IntKind} {a b : Int} (r : Int) (hx : evf n f u x = .int k a) (hy : evf n f u y = .int k b) (hw : k.wrap (a - b) = r) :
    (execOp (evf n f u) ⟨dst, .binOp .sub t x y t', ty, pos, aft, gd⟩).run P w = .ok (.value (.int k r)) w := by
  subst hw; simp [execOp, hx, hy, eqGuard, binOp, Op.intArith]
theorem x_mul2 {t t' : TypeId} {x y : Operand} {k : IntKind} {a b : Int} (r : Int) (hx : evf n f u x = .int k a) (hy : evf n f u y = .int k b) (hw : k.wrap (a * b) = r) :
    (execOp (evf n f u) ⟨dst, .binOp .mul t x y t', ty, pos, aft, gd⟩).run P w = .ok (.value (.int k r)) w := by
  subst hw; simp [execOp, hx, hy, eqGuard, binOp, Op.intArith]
theorem x_rem2 {t t' : TypeId} {x y : Operand} {k : IntKind} {a b : Int} (r : Int) (hx : evf n f u x = .int k a) (hy : evf n f u y = .int k b) (h0 : 0 ≤ a) (hb : 0 < b) (he : a % b = r) (_ : k.wrap r = r) :
    (execOp (evf n f u) ⟨dst, .binOp .rem t x y t', ty, pos, aft, gd⟩).run P w = .ok (.value (.int k r)) w := x_rem r hx hy h0 hb he
theorem x_quo2 {t t' : TypeId} {x y : Operand} {k : IntKind} {a b : Int} (r : Int) (hx : evf n f u x = .int k a) (hy : evf n f u y = .int k b) (h0 : 0 ≤ a) (hb : 0 < b) (he : a / b = r) (hw : k.wrap r = r) :
    (execOp (evf n f u) ⟨dst, .binOp .quo t x y t', ty, pos, aft, gd⟩).run P w = .ok (.value (.int k r)) w := x_quo r hx hy h0 hb he hw
/-- 'x[:hi:hi]'. -/
theorem o_slice3I {α : Type} {R : Rep α} {X : List Nat} {t : TypeId} {x hx mx : Operand} {et : TypeId} {a : Option Addr} {m c : Nat} {L : List α} {k k' : IntKind} (hi : Int)
    (ht : P.underlying t = some (.slice et)) (hs : ∀ w, (sizeOf et).run P w = .ok R.n w) (hS : Sl R X w a c L) (hxx : evf n f u x = .slice a m c) (hm : m = L.length)
    (hg : Region.wanted ⟨dst, .slice t x none (some hx) (some mx), ty, pos, aft, gd⟩ (yielded ops (Fr n f u).tmps) = true)
    (hh : evf n f u hx = .int k hi) (hmx : evf n f u mx = .int k' hi) (h1 : 0 ≤ hi ∧ hi ≤ (L.length : Int))
    (h : ∀ a' c', Sl R X w a' c' (L.take hi.toNat) → next (Fr n f (pusho dst (.slice a' (L.take hi.toNat).length c') u)) w) : OpW P ops Q ⟨dst, .slice t x none (some hx) (some mx), ty, pos, aft, gd⟩ n f u w next := by
  have e : hi = ((hi.toNat : Nat) : Int) := by omega
  have hc := hS.1
  exact o_slice3 hi.toNat hi.toNat _ ht hs hS hxx hm hg (.inr ⟨k, by show some (evf n f u hx) = _; rw [hh, ← e]⟩) (.inr ⟨k', by show some (evf n f u mx) = _; rw [hmx, ← e]⟩) ⟨Nat.le_refl _, by omega, by omega⟩ rfl fun a' hs' => h a' _ hs'
end
/-- A block that is only read. -/
def RO (X : List Nat) (w : World) (b : Nat) (cs : List Value) (ty : TypeId) : Prop := b ∉ X ∧ Blk w b cs ty
section
variable {X X' F : List Nat} {w w' : World} {b : Nat} {cs cs' : List Value} {ty : TypeId}
theorem RO.step (h : RO X w b cs ty) (s : Step X w F X' w') : RO X' w' b cs ty :=
  ⟨fun hm => by rcases s.new b hm with h1 | h1; exact h.1 h1; have := h.2.lt; omega, h.2.evo s.evo fun hm => h.1 (s.sub b hm)⟩
theorem RO.less (h : RO X w b cs ty) (s : Sub X' X) : RO X' w b cs ty := ⟨fun hm => h.1 (s b hm), h.2⟩
theorem RO.evo0 (h : RO X w b cs ty) (e : Evo [] w w') : RO X w' b cs ty := ⟨h.1, h.2.evo0 e⟩
theorem RO.cast (h : cs = cs') (k : RO X w b cs ty) : RO X w b cs' ty := h ▸ k
end
section
variable {P : Program} {ops : Array Oper} {Q : Exit → Act → World → Prop} {n : Nat} {f : Nat → Value} {u : List (Nat × Value)} {w : World} {next : Act → World → Prop}
variable {dst : Option Tmp} {ty : TypeId} {pos : String} {aft : Array Edge} {gd : Option (Nat × Bool)}
/-- A store into a part of an element of a slice that is ours. -/
theorem o_stPr {α : Type} {R : Rep α} {X G : List Nat} {B : Nat} {t et : TypeId} {x y : Operand} {a : Option Addr} {m c b o : Nat} {L : List α} {v : Value} {cs : List Value} (i : Int) (j : Nat) (cs' : List Value) (d : α)
    (hg : Region.wanted ⟨dst, .store t x y, ty, pos, aft, gd⟩ (yielded ops (Fr n f u).tmps) = true)
    (hO : OS R G B X w et a m c L) (ha : a = some ⟨b, o, none⟩) (hi : inL L i) (hc : CellsAt w b (o + i.toNat * R.n) cs) (hcl : cs.length = R.n)
    (hx : evf n f u x = .pointer (some ⟨b, o + i.toNat * R.n + j, none⟩)) (hy : evf n f u y = v) (hs : ∀ w, (sizeOf t).run P w = .ok v.cells.size w)
    (hfit : Nat.ble (j + v.cells.size) cs.length = true) (h1 : v.cells.toList.all Value.oneCell' = true) (hcs : cs.take j ++ v.cells.toList ++ cs.drop (j + v.cells.size) = cs') (hv : R.ok X w cs' d)
    (h : ∀ w', Step X w (blkL a) X w' → OS R G B X w' et a m c (lset L i d) → next (Fr n f (pusho dst undef u)) w') : OpW P ops Q ⟨dst, .store t x y, ty, pos, aft, gd⟩ n f u w next := by
  subst ha
  obtain ⟨hm, ⟨hbase, hmem, xs, ho, hf⟩, hwr⟩ := hO
  have hxl := hf.length
  rcases ho.2 with ⟨h2, _⟩ | ⟨g, cap, cur, hsl, hbg, hgg, hnc, hcm, hcz, htake⟩
  · cases h2
  injection hsl with e1 e2 e3
  injection e1 with e1
  injection e1 with e4 e5 _
  subst e4; subst e5; subst e3
  have hfit' : j + v.cells.size ≤ R.n := by have := ble_le hfit; omega
  have hlt : i.toNat * R.n + R.n ≤ L.length * R.n := by
    have : (i.toNat + 1) * R.n ≤ L.length * R.n := Nat.mul_le_mul_right _ hi.lt
    rwa [Nat.add_mul, Nat.one_mul] at this
  have hle : L.length * R.n ≤ c * R.n := Nat.mul_le_mul_right _ hnc
  have hcl2 : cur.toList.length = c * R.n := by simpa using hcz
  -- what the element's cells are
  have hel : (cur.toList.drop (i.toNat * R.n)).take R.n = cs := by
    apply List.ext_getElem?
    intro q
    rw [List.getElem?_take]
    by_cases hq : q < R.n
    · rw [if_pos hq, List.getElem?_drop]
      have h3 := hc q cs[q] (by simp [show q < cs.length from by omega])
      rw [Nat.zero_add] at h3
      rw [cell_of_row w b (i.toNat * R.n + q) cur et _ hgg] at h3
      rw [List.getElem?_eq_getElem (show q < cs.length by omega), ← h3]
      simp
    · rw [if_neg hq, List.getElem?_eq_none (by omega)]
  have hvl : v.cells.toList.length = v.cells.size := by simp
  have hst := run_storeCells_at (P := P) b (i.toNat * R.n + j) et v.cells.toList 0 cur w hgg (by rw [hvl, hcz]; omega) (fun u hu => List.all_eq_true.1 h1 u hu)
  rw [hvl] at hst
  have hrow : cur.toList.take (i.toNat * R.n + j + 0) ++ v.cells.toList ++ cur.toList.drop (i.toNat * R.n + j + 0 + v.cells.size) = cur.toList.take (i.toNat * R.n) ++ cs' ++ cur.toList.drop (i.toNat * R.n + R.n) := by
    rw [← hcs, ← hel, Nat.add_zero, List.take_add, List.take_take, Nat.min_eq_left (by omega), List.drop_take, List.drop_drop]
    simp only [List.append_assoc]
    congr 3
    have : cur.toList.drop (i.toNat * R.n + j + v.cells.size) = (cur.toList.drop (i.toNat * R.n + (j + v.cells.size))).take (R.n - (j + v.cells.size)) ++ cur.toList.drop (i.toNat * R.n + R.n) := by
      have h4 := (List.take_append_drop (R.n - (j + v.cells.size)) (cur.toList.drop (i.toNat * R.n + (j + v.cells.size)))).symm
      rw [List.drop_drop, show i.toNat * R.n + (j + v.cells.size) + (R.n - (j + v.cells.size)) = i.toNat * R.n + R.n from by omega] at h4
      rw [← h4, Nat.add_assoc]
    rw [this]
  rw [hrow] at hst
  have hev : Evo (blkL (some ⟨b, 0, none⟩)) w (w.setRow b (cur.toList.take (i.toNat * R.n) ++ cs' ++ cur.toList.drop (i.toNat * R.n + R.n)).toArray) :=
    ⟨rfl, rfl, rfl, by simp, fun k _ hk => setRow_other w b k _ (fun e => hk (by simp [blkL, e]))⟩
  have hstep : Step X w (blkL (some ⟨b, 0, none⟩)) X (w.setRow b (cur.toList.take (i.toNat * R.n) ++ cs' ++ cur.toList.drop (i.toNat * R.n + R.n)).toArray) := ⟨hev, hmem, Sub.refl _, fun _ h => .inl h⟩
  have hsz : cs'.length = R.n := R.len hv
  refine o_skip hg (w' := w.setRow b (cur.toList.take (i.toNat * R.n) ++ cs' ++ cur.toList.drop (i.toNat * R.n + R.n)).toArray) ?_ (h _ hstep ⟨by rw [hm]; simp [lset], ?_, hwr⟩)
  · have hx' : evf n f u x = .pointer (some ⟨b, i.toNat * R.n + j, none⟩) := by rw [hx]; simp
    simp [execOp, Instr.storeAt, Instr.sureAddr, hx', hy, storeVar, hs, hst]
  · refine ⟨Nat.le_trans hbase hev.size, hmem, xs.take (i.toNat * R.n) ++ cs' ++ xs.drop (i.toNat * R.n + R.n), ⟨?_, .inr ⟨b, c, _, ?_, hbg, setRow_heap w b _ _ _ _ hgg, ?_, hcm, ?_, ?_⟩⟩, (Flat.set hf i.toNat hi.lt hv).evo hev hmem⟩
    · rw [List.length_append, List.length_append, List.length_take, List.length_drop, hsz, hxl, lset, List.length_set, Nat.min_eq_left (by omega)]; omega
    · rw [lset, List.length_set]
    · rw [lset, List.length_set]; exact hnc
    · rw [List.size_toArray, List.length_append, List.length_append, List.length_take, List.length_drop, hsz, hcl2, Nat.min_eq_left (by omega)]; omega
    · rw [lset, List.length_set]
      have e1 : xs.take (i.toNat * R.n) = cur.toList.take (i.toNat * R.n) := by rw [← htake, List.take_take, Nat.min_eq_left (by omega)]
      have e2 : xs.drop (i.toNat * R.n + R.n) = (cur.toList.drop (i.toNat * R.n + R.n)).take (L.length * R.n - (i.toNat * R.n + R.n)) := by rw [← htake, List.drop_take]
      rw [e1, e2, List.toList_toArray]
      have hl2 : (cur.toList.take (i.toNat * R.n) ++ cs').length = i.toNat * R.n + R.n := by rw [List.length_append, List.length_take, hsz, hcl2, Nat.min_eq_left (by omega)]
      rw [List.take_append, List.take_of_length_le (by rw [hl2]; omega), hl2]
theorem o_stP {α : Type} {R : Rep α} {X G : List Nat} {B : Nat} {t et : TypeId} {x y : Operand} {a : Option Addr} {m c b o : Nat} {L : List α} {v : Value} {cs : List Value} (i : Int) (j : Nat) (cs' : List Value) (d : α)
    (hg : Region.wanted ⟨dst, .store t x y, ty, pos, aft, gd⟩ (yielded ops (Fr n f u).tmps) = true)
    (hO : OS R G B X w et a m c L) (ha : a = some ⟨b, o, none⟩) (hi : inL L i) (hc : CellsAt w b (o + i.toNat * R.n) cs) (hcl : cs.length = R.n)
    (hx : evf n f u x = .pointer (some ⟨b, o + i.toNat * R.n + j, none⟩)) (hy : evf n f u y = v) (hs : ∀ w, (sizeOf t).run P w = .ok v.cells.size w)
    (hfit : Nat.ble (j + v.cells.size) cs.length = true) (h1 : v.cells.toList.all Value.oneCell' = true) (hcs : cs.take j ++ v.cells.toList ++ cs.drop (j + v.cells.size) = cs') (hv : ∀ w, R.ok X w cs' d)
    (h : ∀ w', Step X w (blkL a) X w' → OS R G B X w' et a m c (lset L i d) → next (Fr n f (pusho dst undef u)) w') : OpW P ops Q ⟨dst, .store t x y, ty, pos, aft, gd⟩ n f u w next :=
  o_stPr i j cs' d hg hO ha hi hc hcl hx hy hs hfit h1 hcs (hv w) h
end
/-! bits, shifts, texts put together -/
def iand (k : IntKind) (x y : Int) : Int := k.wrap (BitVec.ofInt k.bits x &&& BitVec.ofInt k.bits y).toNat
def ior (k : IntKind) (x y : Int) : Int := k.wrap (BitVec.ofInt k.bits x ||| BitVec.ofInt k.bits y).toNat
def ixor (k : IntKind) (x y : Int) : Int := k.wrap (BitVec.ofInt k.bits x ^^^ BitVec.ofInt k.bits y).toNat
def ishl (k : IntKind) (x y : Int) : Int := k.wrap (x * 2 ^ (min y.toNat k.bits))
def ishr (k : IntKind) (x y : Int) : Int := x.fdiv (2 ^ (min y.toNat k.bits))
def inot (k : IntKind) (x : Int) : Int := k.wrap (BitVec.ofInt k.bits (if k.signed then -1 else k.max) ^^^ BitVec.ofInt k.bits x).toNat
theorem inR_iand (k : IntKind) (x y : Int) : inR k (iand k x y) := inR_wrap k _
theorem inR_ior (k : IntKind) (x y : Int) : inR k (ior k x y) := inR_wrap k _
theorem inR_ixor (k : IntKind) (x y : Int) : inR k (ixor k x y) := inR_wrap k _
theorem inR_ishl (k : IntKind) (x y : Int) : inR k (ishl k x y) := inR_wrap k _
theorem inR_inot (k : IntKind) (x : Int) : inR k (inot k x) := inR_wrap k _
theorem inR_ishr {k : IntKind} {x : Int} (y : Int) (h : inR k x) : inR k (ishr k x y) := by
  unfold ishr
  have hp : (0 : Int) < 2 ^ (min y.toNat k.bits) := Int.pow_pos (by decide)
  rw [Int.fdiv_eq_ediv_of_nonneg _ (Int.le_of_lt hp)]
  have hl := @kmin_le k; have hu := @kmax_ge k
  unfold inR at *
  rcases Int.lt_or_le x 0 with h0 | h0
  · have h1 : x ≤ x / 2 ^ (min y.toNat k.bits) := Int.le_ediv_of_mul_le hp (by
      have : (1 : Int) ≤ 2 ^ (min y.toNat k.bits) := hp
      have := Int.mul_le_mul_of_nonneg_left this (show 0 ≤ -x by omega)
      rw [Int.neg_mul, Int.neg_mul] at this
      omega)
    have h2 : x / 2 ^ (min y.toNat k.bits) < 0 := Int.ediv_neg_of_neg_of_pos h0 hp
    omega
  · have h1 := Int.ediv_nonneg h0 (Int.le_of_lt hp)
    have h2 := Int.ediv_le_self (2 ^ (min y.toNat k.bits)) h0
    omega
section
variable {P : Program} {n : Nat} {f : Nat → Value} {u : List (Nat × Value)} {w : World} {dst : Option Tmp} {ty : TypeId} {pos : String} {aft : Array Edge} {gd : Option (Nat × Bool)}
theorem x_and {t t' : TypeId} {x y : Operand} {k : IntKind} {a b : Int} (hx : evf n f u x = .int k a) (hy : evf n f u y = .int k b) :
    (execOp (evf n f u) ⟨dst, .binOp .and t x y t', ty, pos, aft, gd⟩).run P w = .ok (.value (.int k (iand k a b))) w := by
  simp [execOp, hx, hy, eqGuard, binOp, Op.intBits, iand]
theorem x_or {t t' : TypeId} {x y : Operand} {k : IntKind} {a b : Int} (hx : evf n f u x = .int k a) (hy : evf n f u y = .int k b) :
    (execOp (evf n f u) ⟨dst, .binOp .or t x y t', ty, pos, aft, gd⟩).run P w = .ok (.value (.int k (ior k a b))) w := by
  simp [execOp, hx, hy, eqGuard, binOp, Op.intBits, ior]
theorem x_xor {t t' : TypeId} {x y : Operand} {k : IntKind} {a b : Int} (hx : evf n f u x = .int k a) (hy : evf n f u y = .int k b) :
    (execOp (evf n f u) ⟨dst, .binOp .xor t x y t', ty, pos, aft, gd⟩).run P w = .ok (.value (.int k (ixor k a b))) w := by
  simp [execOp, hx, hy, eqGuard, binOp, Op.intBits, ixor]
theorem x_shl {t t' : TypeId} {x y : Operand} {k k' : IntKind} {a b : Int} (hx : evf n f u x = .int k a) (hy : evf n f u y = .int k' b) (h0 : 0 ≤ b) :
    (execOp (evf n f u) ⟨dst, .binOp .shl t x y t', ty, pos, aft, gd⟩).run P w = .ok (.value (.int k (ishl k a b))) w := by
  simp [execOp, hx, hy, eqGuard, binOp, Op.shift, ishl, show ¬ b < 0 by omega]
theorem x_shr {t t' : TypeId} {x y : Operand} {k k' : IntKind} {a b : Int} (hx : evf n f u x = .int k a) (hy : evf n f u y = .int k' b) (h0 : 0 ≤ b) :
    (execOp (evf n f u) ⟨dst, .binOp .shr t x y t', ty, pos, aft, gd⟩).run P w = .ok (.value (.int k (ishr k a b))) w := by
  simp [execOp, hx, hy, eqGuard, binOp, Op.shift, ishr, show ¬ b < 0 by omega]
theorem x_bnot {t : TypeId} {x : Operand} {k : IntKind} {a : Int} (hx : evf n f u x = .int k a) :
    (execOp (evf n f u) ⟨dst, .unOp .xor t x, ty, pos, aft, gd⟩).run P w = .ok (.value (.int k (inot k a))) w := by
  simp [execOp, hx, Op.unary, Op.intBits, inot]
theorem x_neg {t : TypeId} {x : Operand} {k : IntKind} {a : Int} (r : Int) (hx : evf n f u x = .int k a) (hw : k.wrap (-a) = r) :
    (execOp (evf n f u) ⟨dst, .unOp .neg t x, ty, pos, aft, gd⟩).run P w = .ok (.value (.int k r)) w := by
  subst hw; simp [execOp, hx, Op.unary, Op.intArith]
theorem x_convw {s d : TypeId} {x : Operand} {k k' : IntKind} {a : Int} {sd : TypeDesc} (hs : P.underlying s = some sd) (hd : P.underlying d = some (.int k')) (hx : evf n f u x = .int k a) :
    (execOp (evf n f u) ⟨dst, .convert s d x, ty, pos, aft, gd⟩).run P w = .ok (.value (.int k' (iwrap k' a))) w := by
  simp [execOp, convert, run_underlying hs, run_underlying hd, hx, Conv.intToInt, iwrap]
theorem x_cat {t t' : TypeId} {x y : Operand} {a b : ByteArray} (hx : evf n f u x = .string a) (hy : evf n f u y = .string b) (h : (a ++ b).size ≤ maxLen) :
    (execOp (evf n f u) ⟨dst, .binOp .add t x y t', ty, pos, aft, gd⟩).run P w = .ok (.value (.string (a ++ b))) w := by
  have h1 : ¬ ((a.size + b.size : Nat) : Int) > IntKind.i64.max := by
    rw [ByteArray.size_append] at h
    rw [show IntKind.i64.max = 9223372036854775807 from by decide]
    unfold maxLen at h; omega
  simp only [execOp, hx, hy, eqGuard, binOp, Op.stringOp, if_neg h1]
  simp
theorem equal_bool {t : TypeId} (a b : Bool) (ht : P.underlying t = some .bool) : (Op.equal t (.bool a) (.bool b)).run P w = .ok (a == b) w := by
  have h : ∀ d : Nat, (Op.equalIn (d + 1) t (.bool a) (.bool b)).run P w = .ok (a == b) w := fun d => by simp [Op.equalIn, run_underlying ht]
  simp only [Op.equal, Op.maxDepth]
  exact h 9999
theorem beq_dec (a b : Bool) : (a == b) = decide (a = b) := by cases a <;> cases b <;> rfl
theorem x_booleq {t t' : TypeId} {x y : Operand} {a b : Bool} (ht : P.underlying t = some .bool) (hx : evf n f u x = .bool a) (hy : evf n f u y = .bool b) :
    (execOp (evf n f u) ⟨dst, .binOp .eql t x y t', ty, pos, aft, gd⟩).run P w = .ok (.value (.bool (decide (a = b)))) w := by
  simp [execOp, hx, hy, eqGuard, binOp, equal_bool a b ht, beq_dec]
theorem x_boolne {t t' : TypeId} {x y : Operand} {a b : Bool} (ht : P.underlying t = some .bool) (hx : evf n f u x = .bool a) (hy : evf n f u y = .bool b) :
    (execOp (evf n f u) ⟨dst, .binOp .neq t x y t', ty, pos, aft, gd⟩).run P w = .ok (.value (.bool (!decide (a = b)))) w := by
  simp [execOp, hx, hy, eqGuard, binOp, equal_bool a b ht, beq_dec]
end
theorem strOfNums_size (L : List Int) : (strOfNums L).size = L.length := by unfold strOfNums; simp [ByteArray.size]
theorem strOfNums_le {L : List Int} (h : L.length ≤ 9223372036854775807) : (strOfNums L).size ≤ maxLen := by rw [strOfNums_size]; exact h
section
variable {P : Program} {n : Nat} {f : Nat → Value} {u : List (Nat × Value)} {w : World} {dst : Option Tmp} {ty : TypeId} {pos : String} {aft : Array Edge} {gd : Option (Nat × Bool)}
/-- The run of a call of a function value. -/
theorem x_callc {fid : FuncId} {y : Operand} {xs : Array Operand} {tys : Array TypeId} {args first cap : Array Value} (hv : evf n f u y = .func (.func fid) first cap)
    (hc : ∀ (args : Array Value) (w : World), (callFunc fid args).run P w = .ok (.enter fid args) w) (hargs : first ++ xs.map (evf n f u) ++ cap = args) :
    (execOp (evf n f u) ⟨dst, .call ⟨.value y, xs, tys⟩, ty, pos, aft, gd⟩).run P w = .ok (.enter fid args) w := by
  subst hargs
  have h := hc (first ++ xs.map (evf n f u) ++ cap) w
  simp only [execOp, resolve, hv, Deferred.ofValue]
  simpa [invoke] using h
end
section
variable {P : Program} {n : Nat} {f : Nat → Value} {u : List (Nat × Value)} {w : World} {dst : Option Tmp} {ty : TypeId} {pos : String} {aft : Array Edge} {gd : Option (Nat × Bool)}
theorem a_add0 (a : Option Addr) (c k : Nat) : (if c = 0 then a else a.map (·.add (0 * k))) = a := by
  split
  · rfl
  · cases a with
    | none => rfl
    | some ad => simp [Addr.add]
/-- 'x[:i]' of what is ours. -/
theorem x_cut {α : Type} {R : Rep α} {X G : List Nat} {B m1 c sz : Nat} {t et ty' : TypeId} {x hx : Operand} {a : Option Addr} {L : List α} {k : IntKind} {i : Int}
    (ht : P.underlying t = some (.slice et)) (hs : ∀ w, (sizeOf et).run P w = .ok sz w) (hxx : evf n f u x = .slice a m1 c) (hhx : evf n f u hx = .int k i) (h : 0 ≤ i ∧ i ≤ (L.length : Int)) (hO : OS R G B X w ty' a m1 c L) :
    (execOp (evf n f u) ⟨dst, .slice t x none (some hx) none, ty, pos, aft, gd⟩).run P w = .ok (.value (.slice a i.toNat c)) w := by
  have hcap := hO.2.1.cap
  have hn := hO.1
  have e : i = ((i.toNat : Nat) : Int) := by omega
  have := x_slice (P := P) (w := w) (n := n) (f := f) (u := u) (dst := dst) (ty := ty) (pos := pos) (aft := aft) (gd := gd) (lx := none) (hx := some hx) (mxx := none) (lo := 0) (hi := i.toNat) (mx := c) ht hs hxx (.inl ⟨rfl, rfl⟩) (.inr ⟨k, by show some (evf n f u hx) = _; rw [hhx, ← e]⟩) (.inl ⟨rfl, rfl⟩) (by omega) (Nat.zero_le _) (by omega) (Nat.le_refl _)
  rw [a_add0] at this
  simpa using this
end
/-! texts: a part, a byte -/
def bsub (s : ByteArray) (l h : Int) : ByteArray := s.extract l.toNat h.toNat
def bget (s : ByteArray) (i : Int) : Int := ((s.data.getD i.toNat 0).toNat : Int)
theorem bsub_le {s : ByteArray} {l h : Int} (hs : s.size ≤ maxLen) (_h : 0 ≤ l ∧ l ≤ h ∧ h ≤ (s.size : Int)) : (bsub s l h).size ≤ maxLen := by
  unfold bsub; rw [ByteArray.size_extract]; omega
theorem bget_u8 (s : ByteArray) (i : Int) : inR .u8 (bget s i) := by
  unfold bget; rw [inR_u8]; have := (s.data.getD i.toNat 0).toNat_lt; omega
section
variable {P : Program} {n : Nat} {f : Nat → Value} {u : List (Nat × Value)} {w : World} {dst : Option Tmp} {ty : TypeId} {pos : String} {aft : Array Edge} {gd : Option (Nat × Bool)}
theorem x_ssub {t : TypeId} {x : Operand} {lx hx : Option Operand} {s : ByteArray} (lo hi : Int) (hxx : evf n f u x = .string s)
    (hl : (lx.map (evf n f u) = none ∧ lo = 0) ∨ ∃ k, lx.map (evf n f u) = some (.int k lo))
    (hh : (hx.map (evf n f u) = none ∧ hi = s.size) ∨ ∃ k, hx.map (evf n f u) = some (.int k hi)) (ht : P.underlying t = some .string)
    (h : 0 ≤ lo ∧ lo ≤ hi ∧ hi ≤ (s.size : Int)) :
    (execOp (evf n f u) ⟨dst, .slice t x lx hx none, ty, pos, aft, gd⟩).run P w = .ok (.value (.string (bsub s lo hi))) w := by
  obtain ⟨h1, h2, h3⟩ := h
  have e2 : 0 ≤ hi := by omega
  have e3 : lo ≤ (hi.toNat : Int) := by omega
  have hb : (Instr.sliceBounds false s.size s.size (lx.map (evf n f u)) (hx.map (evf n f u)) none).run P w = .ok (lo.toNat, hi.toNat, s.size) w := by
    rcases hh with ⟨hh, rfl⟩ | ⟨k2, hk2⟩
    · rcases hl with ⟨hl, rfl⟩ | ⟨k1, hk1⟩
      · rw [hl, hh]; simp [Instr.sliceBounds]
      · rw [hk1, hh]; simp [Instr.sliceBounds, run_sliceBound, h1, h2]
    · rcases hl with ⟨hl, rfl⟩ | ⟨k1, hk1⟩
      · rw [hl, hk2]; simp [Instr.sliceBounds, run_sliceBound, e2, h3]
      · have q1 := run_sliceBound (P := P) (w := w) (k := k1) (i := lo) (y := hi.toNat) (code := .sliceB) h1 e3
        rw [hk1, hk2]; simp [Instr.sliceBounds, run_sliceBound, e2, h3, q1]
  simp [execOp, Instr.sliceAt, Instr.slice, run_underlying ht, hxx, hb, bsub]
theorem x_sub00 {t : TypeId} {x : Operand} {s : ByteArray} (hxx : evf n f u x = .string s) (ht : P.underlying t = some .string) (h : 0 ≤ (0 : Int) ∧ (0 : Int) ≤ (s.size : Int) ∧ (s.size : Int) ≤ (s.size : Int)) :
    (execOp (evf n f u) ⟨dst, .slice t x none none none, ty, pos, aft, gd⟩).run P w = .ok (.value (.string (bsub s 0 s.size))) w :=
  x_ssub 0 s.size hxx (.inl ⟨rfl, rfl⟩) (.inl ⟨rfl, rfl⟩) ht h
theorem x_sub10 {t : TypeId} {x lx : Operand} {s : ByteArray} {k : IntKind} {lo : Int} (hxx : evf n f u x = .string s) (hl : evf n f u lx = .int k lo) (ht : P.underlying t = some .string) (h : 0 ≤ lo ∧ lo ≤ (s.size : Int) ∧ (s.size : Int) ≤ (s.size : Int)) :
    (execOp (evf n f u) ⟨dst, .slice t x (some lx) none none, ty, pos, aft, gd⟩).run P w = .ok (.value (.string (bsub s lo s.size))) w :=
  x_ssub lo s.size hxx (.inr ⟨k, by rw [← hl]; rfl⟩) (.inl ⟨rfl, rfl⟩) ht h
theorem x_sub01 {t : TypeId} {x hx : Operand} {s : ByteArray} {k : IntKind} {hi : Int} (hxx : evf n f u x = .string s) (hh : evf n f u hx = .int k hi) (ht : P.underlying t = some .string) (h : 0 ≤ (0 : Int) ∧ (0 : Int) ≤ hi ∧ hi ≤ (s.size : Int)) :
    (execOp (evf n f u) ⟨dst, .slice t x none (some hx) none, ty, pos, aft, gd⟩).run P w = .ok (.value (.string (bsub s 0 hi))) w :=
  x_ssub 0 hi hxx (.inl ⟨rfl, rfl⟩) (.inr ⟨k, by rw [← hh]; rfl⟩) ht h
theorem x_sub11 {t : TypeId} {x lx hx : Operand} {s : ByteArray} {k k' : IntKind} {lo hi : Int} (hxx : evf n f u x = .string s) (hl : evf n f u lx = .int k lo) (hh : evf n f u hx = .int k' hi) (ht : P.underlying t = some .string) (h : 0 ≤ lo ∧ lo ≤ hi ∧ hi ≤ (s.size : Int)) :
    (execOp (evf n f u) ⟨dst, .slice t x (some lx) (some hx) none, ty, pos, aft, gd⟩).run P w = .ok (.value (.string (bsub s lo hi))) w :=
  x_ssub lo hi hxx (.inr ⟨k, by rw [← hl]; rfl⟩) (.inr ⟨k', by rw [← hh]; rfl⟩) ht h
/-- A byte of a text. -/
theorem x_bget {t : TypeId} {x ix : Operand} {s : ByteArray} {k : IntKind} {i : Int} (hxx : evf n f u x = .string s) (hi : evf n f u ix = .int k i) (ht : P.underlying t = some .string) (h : 0 ≤ i ∧ i < (s.size : Int)) :
    (execOp (evf n f u) ⟨dst, .index t x ix, ty, pos, aft, gd⟩).run P w = .ok (.value (.int .u8 (bget s i))) w := by
  have hlt : i.toNat < s.size := by omega
  have e : s[i.toNat]? = some (s[i.toNat]'hlt) := getElem?_pos s i.toNat hlt
  have e2 : s.data.getD i.toNat 0 = s[i.toNat]'hlt := by
    rw [Array.getD_eq_getD_getElem?, Array.getElem?_eq_getElem (by exact hlt)]; rfl
  simp [execOp, Instr.index, asIntOf, run_underlying ht, hxx, hi, h.1, e, bget, e2]
end
/-! texts: which comes first; a text's bytes as a row -/
def sless (a b : ByteArray) : Bool := Op.bytesLess a.toList b.toList
def bytesL (s : ByteArray) : List Int := s.data.toList.map fun b => (b.toNat : Int)
theorem bytesL_len (s : ByteArray) : (bytesL s).length = s.size := by unfold bytesL; rw [List.length_map]; rfl
section
variable {P : Program} {n : Nat} {f : Nat → Value} {u : List (Nat × Value)} {w : World} {dst : Option Tmp} {ty : TypeId} {pos : String} {aft : Array Edge} {gd : Option (Nat × Bool)}
theorem x_strlss {t t' : TypeId} {x y : Operand} {a b : ByteArray} (hx : evf n f u x = .string a) (hy : evf n f u y = .string b) :
    (execOp (evf n f u) ⟨dst, .binOp .lss t x y t', ty, pos, aft, gd⟩).run P w = .ok (.value (.bool (sless a b))) w := by
  simp [execOp, hx, hy, eqGuard, binOp, Op.stringOp, sless]
theorem x_strleq {t t' : TypeId} {x y : Operand} {a b : ByteArray} (hx : evf n f u x = .string a) (hy : evf n f u y = .string b) :
    (execOp (evf n f u) ⟨dst, .binOp .leq t x y t', ty, pos, aft, gd⟩).run P w = .ok (.value (.bool (sless a b || decide (a = b)))) w := by
  simp [execOp, hx, hy, eqGuard, binOp, Op.stringOp, sless, toList_beq]
theorem x_strgtr {t t' : TypeId} {x y : Operand} {a b : ByteArray} (hx : evf n f u x = .string a) (hy : evf n f u y = .string b) :
    (execOp (evf n f u) ⟨dst, .binOp .gtr t x y t', ty, pos, aft, gd⟩).run P w = .ok (.value (.bool (!(sless a b || decide (a = b))))) w := by
  simp [execOp, hx, hy, eqGuard, binOp, Op.stringOp, sless, toList_beq]
theorem x_strgeq {t t' : TypeId} {x y : Operand} {a b : ByteArray} (hx : evf n f u x = .string a) (hy : evf n f u y = .string b) :
    (execOp (evf n f u) ⟨dst, .binOp .geq t x y t', ty, pos, aft, gd⟩).run P w = .ok (.value (.bool (!(sless a b)))) w := by
  simp [execOp, hx, hy, eqGuard, binOp, Op.stringOp, sless]
end
theorem flat_ints {k : IntKind} {X : List Nat} {w : World} : ∀ (L : List Int), (∀ x ∈ L, inR k x) → Flat (rInt k) X w (L.map (Value.int k)) L
  | [], _ => rfl
  | x :: L, h => Flat.cons1 (rInt_mk (h x (by simp))) (flat_ints L fun y hy => h y (by simp [hy]))
theorem bytesL_u8 (s : ByteArray) : ∀ x ∈ bytesL s, inR .u8 x := fun x hx => by
  unfold bytesL at hx
  obtain ⟨b, _, rfl⟩ := List.mem_map.1 hx
  rw [inR_u8]; have := b.toNat_lt; omega
section
variable {P : Program} {ops : Array Oper} {Q : Exit → Act → World → Prop} {n : Nat} {f : Nat → Value} {u : List (Nat × Value)} {w : World} {next : Act → World → Prop}
variable {dst : Option Tmp} {ty : TypeId} {pos : String} {aft : Array Edge} {gd : Option (Nat × Bool)}
/-- '[]byte(s)': a row that is read. -/
theorem o_s2b {X : List Nat} {s d et : TypeId} {x : Operand} {sv : ByteArray} (hX : Old X w) (hg : Region.wanted ⟨dst, .convert s d x, ty, pos, aft, gd⟩ (yielded ops (Fr n f u).tmps) = true)
    (hs : P.underlying s = some .string) (hd : P.underlying d = some (.slice et)) (he : P.underlying et = some (.int .u8)) (hx : evf n f u x = .string sv) (hm : sv.size ≤ maxLen)
    (h : ∀ a c w', Step X w [] X w' → Sl (rInt .u8) X w' a c (bytesL sv) → next (Fr n f (pusho dst (.slice a (bytesL sv).length c) u)) w') :
    OpW P ops Q ⟨dst, .convert s d x, ty, pos, aft, gd⟩ n f u w next := by
  have hr : (execOp (evf n f u) ⟨dst, .convert s d x, ty, pos, aft, gd⟩).run P w = .ok (.value (.slice (some ⟨w.heap.size, 0, none⟩) sv.size (grownCap w sv.size 0 et)))
      (w.drew.alloc (.cells (bytesRow sv (grownCap w sv.size 0 et)) et ((bytesRow sv (grownCap w sv.size 0 et)).size, (bytesRow sv (grownCap w sv.size 0 et)).size + 1))) := by
    simp [execOp, hx, run_bytes_of_string w s d et sv hs hd he]
  have hE : Evo [] w (w.drew.alloc (.cells (bytesRow sv (grownCap w sv.size 0 et)) et ((bytesRow sv (grownCap w sv.size 0 et)).size, (bytesRow sv (grownCap w sv.size 0 et)).size + 1))) :=
    (RB.drew w.heap.size [] w).trans (Evo.alloc w.drew _)
  refine o_val _ hg hr ?_
  have := h (some ⟨w.heap.size, 0, none⟩) (grownCap w sv.size 0 et) _ (Step.of0 X hE) ?_
  · rwa [bytesL_len] at this
  · refine ⟨by rw [bytesL_len]; exact grownCap_ge _ _ _ _, grownCap_le_maxLen _ _ _ _ hm, .inr ⟨w.heap.size, 0, (bytesL sv).map (Value.int .u8), rfl, fun hb => absurd (hX _ hb) (Nat.lt_irrefl _), ?_, ?_, flat_ints _ (bytesL_u8 sv)⟩⟩
    · have := heap_alloc_new w.drew (.cells (bytesRow sv (grownCap w sv.size 0 et)) et ((bytesRow sv (grownCap w sv.size 0 et)).size, (bytesRow sv (grownCap w sv.size 0 et)).size + 1))
      exact (Array.getElem?_eq_some_iff.1 this).1
    · intro j v hj
      have h1 := heap_alloc_new w.drew (.cells (bytesRow sv (grownCap w sv.size 0 et)) et ((bytesRow sv (grownCap w sv.size 0 et)).size, (bytesRow sv (grownCap w sv.size 0 et)).size + 1))
      have h2 : (w.drew).heap.size = w.heap.size := rfl
      rw [h2] at h1
      have hjl : j < sv.size := by
        have := (List.getElem?_eq_some_iff.1 hj).1; rwa [List.length_map, bytesL_len] at this
      unfold World.cell?
      simp only [h1, Nat.zero_add]
      have h3 : (bytesRow sv (grownCap w sv.size 0 et))[j]? = some v := by
        unfold bytesRow
        rw [Array.getElem?_append_left (by simpa using hjl)]
        rw [← hj]; unfold bytesL
        simp
        rfl
      simpa using h3
end
end Go.Proofs.YtfgmmabggjjhgaaGreatDoor
