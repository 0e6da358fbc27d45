/- More laws of operations: a text's bytes appended; arrays. It speaks of any program; nothing of the claim's own program stands here. -/
import Derived.Test.YtfgmmabggjjhgaaGreatDoorAux
import Derived.Lib.AppendStr
namespace Go.Proofs.YtfgmmabggjjhgaaGreatDoor
open Go
theorem lget_nat {α : Type} [Inhabited α] (L : List α) (k : Nat) : lget L (k : Int) = L.getD k default := by unfold lget; simp
theorem lget_lt {α : Type} [Inhabited α] {L : List α} {k : Nat} (h : k < L.length) : lget L (k : Int) = L[k] := by rw [lget_nat]; simp [List.getD, List.getElem?_eq_getElem h]
theorem lget_zero {α : Type} [Inhabited α] (x : α) (L : List α) : lget (x :: L) 0 = x := rfl
theorem lget_one {α : Type} [Inhabited α] (x y : α) (L : List α) : lget (x :: y :: L) 1 = y := rfl
theorem lget_two {α : Type} [Inhabited α] (x y z : α) (L : List α) : lget (x :: y :: z :: L) 2 = z := rfl
theorem lset_nat {α : Type} (L : List α) (k : Nat) (v : α) : lset L (k : Int) v = L.set k v := by unfold lset; simp
theorem inL_nat {α : Type} {L : List α} {k : Nat} : inL L (k : Int) ↔ k < L.length := by unfold inL; omega
theorem take_lget {α : Type} [Inhabited α] {L : List α} {k : Nat} (h : k < L.length) : L.take (k + 1) = L.take k ++ [lget L (k : Int)] := by rw [lget_lt h, List.take_succ_eq_append_getElem h]
theorem lget_map {α β : Type} [Inhabited α] (f : β → α) {L : List β} {k : Nat} (h : k < L.length) : lget (L.map f) (k : Int) = f L[k] := by rw [lget_lt (by simpa using h)]; simp
theorem len_lset {α : Type} (L : List α) (i : Int) (v : α) : (lset L i v).length = L.length := by simp [lset]
instance {α : Type} {L : List α} {i : Int} : Decidable (inL L i) := by unfold inL; infer_instance
theorem lget_mem {α : Type} [Inhabited α] {L : List α} {i : Int} (h : inL L i) : lget L i ∈ L := by rw [← lget_eq h]; exact List.getElem_mem _
theorem last_in {α : Type} {L : List α} (h : L ≠ []) : inL L ((L.length : Int) - 1) := by
  have := List.length_pos_iff.2 h; unfold inL; omega
theorem S1 (k : Nat) : (k : Int) + 1 = ((k + 1 : Nat) : Int) := rfl
theorem nat_of {i : Int} (h : 0 ≤ i) : ∃ k : Nat, i = k := ⟨i.toNat, by omega⟩
end Go.Proofs.YtfgmmabggjjhgaaGreatDoor
namespace Go.Proofs.YtfgmmabggjjhgaaGreatDoor
open Go
theorem Ap.l {F G H : List Nat} (h : Ap F (G ++ H)) : Ap F G := fun b hb hm => h b hb (List.mem_append_left _ hm)
theorem Ap.r {F G H : List Nat} (h : Ap F (G ++ H)) : Ap F H := fun b hb hm => h b hb (List.mem_append_right _ hm)
theorem Ap.app {F G H : List Nat} (h : Ap F G) (k : Ap F H) : Ap F (G ++ H) := fun b hb hm => by
  rcases List.mem_append.1 hm with h1 | h1
  · exact h b hb h1
  · exact k b hb h1
theorem Ap.apl {F G H : List Nat} (h : Ap F H) (k : Ap G H) : Ap (F ++ G) H := (Ap.app h.symm k.symm).symm
theorem Ap.subr {F G H : List Nat} (h : Ap F G) (s : Sub H G) : Ap F H := fun b hb hm => h b hb (s b hm)
theorem Ap.cons {F G : List Nat} {b : Nat} (h : Ap F [b]) (k : Ap F G) : Ap F (b :: G) := Ap.app (G := [b]) h k
theorem Ap.grow {B : Nat} {G F F' : List Nat} {w : World} (h : Wr F B F') (k : Ap G F) (o : Old G w) (hB : w.heap.size ≤ B) : Ap G F' := fun b hb hm =>
  (h b hm).elim (k b hb) fun h1 => absurd (o b hb) (Nat.not_lt.2 (Nat.le_trans hB h1))
theorem Sub.appl {F G H : List Nat} (h : Sub (F ++ G) H) : Sub F H := fun b hb => h b (List.mem_append_left _ hb)
theorem Sub.appr {F G H : List Nat} (h : Sub (F ++ G) H) : Sub G H := fun b hb => h b (List.mem_append_right _ hb)
theorem Sub.app {F G H : List Nat} (h : Sub F H) (k : Sub G H) : Sub (F ++ G) H := fun b hb => by
  rcases List.mem_append.1 hb with h1 | h1
  · exact h b h1
  · exact k b h1
theorem Sub.inl (F G : List Nat) : Sub F (F ++ G) := fun _ hb => List.mem_append_left _ hb
theorem Sub.inr (F G : List Nat) : Sub G (F ++ G) := fun _ hb => List.mem_append_right _ hb
theorem Sub.hd (b : Nat) (F : List Nat) : Sub [b] (b :: F) := fun x hx => by simp at hx; subst hx; simp
theorem Sub.tl (b : Nat) (F : List Nat) : Sub F (b :: F) := fun _ hx => List.mem_cons_of_mem _ hx
theorem Wr.sub {F G H : List Nat} {B : Nat} (h : Wr F B G) (s : Sub H G) : Wr F B H := fun x hx => h x (s x hx)
theorem Wr.app {F G H : List Nat} {B : Nat} (h : Wr F B G) (k : Wr F B H) : Wr F B (G ++ H) := fun x hx => by
  rcases List.mem_append.1 hx with h1 | h1
  · exact h x h1
  · exact k x h1
theorem Wr.cons {F G : List Nat} {B b : Nat} (h : Wr F B [b]) (k : Wr F B G) : Wr F B (b :: G) := Wr.app (G := [b]) h k
theorem Wr.self (F : List Nat) (B : Nat) {G : List Nat} (s : Sub G F) : Wr F B G := fun x hx => .inl (s x hx)
theorem Wr.trans {F0 F F' : List Nat} {B0 B : Nat} (h : Wr F B F') (k : Wr F0 B0 F) (hB : B0 ≤ B) : Wr F0 B0 F' := fun x hx => (h x hx).elim (fun h1 => k x h1) fun h1 => .inr (Nat.le_trans hB h1)
theorem Wr.up {F G H : List Nat} {B : Nat} (h : Wr F B H) (s : Sub F G) : Wr G B H := fun x hx => (h x hx).imp (s x) id
theorem Old.app {F G : List Nat} {w : World} (h : Old F w) (k : Old G w) : Old (F ++ G) w := Old.two h k
theorem Old.sub {F G : List Nat} {w : World} (h : Old G w) (s : Sub F G) : Old F w := fun b hb => h b (s b hb)
/-- What we may write now and might not before is new. -/
def News (X : List Nat) (w : World) (X1 : List Nat) (w1 : World) : Prop := w.heap.size ≤ w1.heap.size ∧ ∀ b ∈ X1, b ∈ X ∨ (w.heap.size ≤ b ∧ b < w1.heap.size)
theorem News.refl (X : List Nat) (w : World) : News X w X w := ⟨Nat.le_refl _, fun _ h => .inl h⟩
theorem News.step {X X1 X2 F : List Nat} {w w1 w2 : World} (h : News X w X1 w1) (s : Step X1 w1 F X2 w2) : News X w X2 w2 := ⟨Nat.le_trans h.1 s.evo.size, fun b hb => by
  rcases s.news b hb with h1 | h1
  · exact (h.2 b h1).imp id fun h2 => ⟨h2.1, Nat.lt_of_lt_of_le h2.2 s.evo.size⟩
  · exact .inr ⟨Nat.le_trans h.1 h1.1, h1.2⟩⟩
theorem News.less {X X1 X2 : List Nat} {w w1 : World} (h : News X w X1 w1) (s : Sub X2 X1) : News X w X2 w1 := ⟨h.1, fun b hb => h.2 b (s b hb)⟩
theorem step_of {X X' F : List Nat} {w w' : World} (e : Evo F w w') (hF : Sub F X) (u : Sub X X') (n : News X w X' w') : Step X w F X' w' := ⟨e, hF, u, n.2⟩

/-- .. of what a drawn region may have done so far. -/
theorem stepR {B : Nat} {F X : List Nat} {w w' : World} (r : RB B F w w') (hB : w.heap.size = B) (hF : Sub F X) : Step X w F X w' := ⟨r.mono (Nat.le_of_eq hB) (fun _ h => .inl h), hF, Sub.refl _, fun _ h => .inl h⟩

/-- How data that is ours lies in memory: F: the blocks that it has; X: the blocks that we may write. -/
structure Obj (α : Type) where
  ok : List Nat → List Nat → World → List Value → α → Prop
  step : ∀ {F X w cs d G X' w'}, ok F X w cs d → Step X w G X' w' → Ap F G → ok F X' w' cs d
  mem : ∀ {F X w cs d}, ok F X w cs d → Sub F X
  old : ∀ {F X w cs d}, ok F X w cs d → Old F w
  less : ∀ {F X w cs d X'}, ok F X w cs d → Sub X' X → Sub F X' → ok F X' w cs d
/-- read only -/
def oRd {α : Type} (R : Rep α) : Obj α where
  ok F X w cs d := F = [] ∧ R.ok X w cs d
  step h s _ := ⟨h.1, R.step h.2 s⟩
  mem h := by rw [h.1]; exact Sub.nil _
  old h := by rw [h.1]; exact Old.nil _
  less h s _ := ⟨h.1, R.less h.2 s⟩
/-- a slice of our own -/
def oOwn {α : Type} (R : Rep α) (ty : TypeId) : Obj (List α) where
  ok F X w cs d := ∃ a c, cs = [.slice a d.length c] ∧ F = blkL a ∧ Own R X w 0 ty a c d
  step := by rintro F X w cs d G X' w' ⟨a, c, rfl, rfl, h⟩ s p; exact ⟨a, c, rfl, rfl, h.step s p⟩
  mem := by rintro F X w cs d ⟨a, c, rfl, rfl, h⟩; exact h.mem
  old := by rintro F X w cs d ⟨a, c, rfl, rfl, h⟩; exact fun b hb => (h.lt b hb).2
  less := by rintro F X w cs d X' ⟨a, c, rfl, rfl, h⟩ s m; exact ⟨a, c, rfl, rfl, h.less s m⟩
def oPair {α β : Type} (O : Obj α) (S : Obj β) : Obj (α × β) where
  ok F X w cs d := ∃ F1 F2 c1 c2, F = F1 ++ F2 ∧ cs = c1 ++ c2 ∧ Ap F1 F2 ∧ O.ok F1 X w c1 d.1 ∧ S.ok F2 X w c2 d.2
  step := by
    rintro F X w cs d G X' w' ⟨F1, F2, c1, c2, rfl, rfl, a, h1, h2⟩ s p
    exact ⟨F1, F2, c1, c2, rfl, rfl, a, O.step h1 s p.symm.l.symm, S.step h2 s p.symm.r.symm⟩
  mem := by rintro F X w cs d ⟨F1, F2, c1, c2, rfl, rfl, a, h1, h2⟩; exact (O.mem h1).app (S.mem h2)
  old := by rintro F X w cs d ⟨F1, F2, c1, c2, rfl, rfl, a, h1, h2⟩; exact (O.old h1).app (S.old h2)
  less := by rintro F X w cs d X' ⟨F1, F2, c1, c2, rfl, rfl, a, h1, h2⟩ s m; exact ⟨F1, F2, c1, c2, rfl, rfl, a, O.less h1 s m.appl, S.less h2 s m.appr⟩
def oMap {α β : Type} (g : β → α) (O : Obj α) : Obj β where
  ok F X w cs d := O.ok F X w cs (g d)
  step h s p := O.step h s p
  mem h := O.mem h
  old h := O.old h
  less h s m := O.less h s m

/-- An object of ours, behind a pointer to its block. -/
def MO {α : Type} (O : Obj α) (ty : TypeId) (G : List Nat) (B : Nat) (X : List Nat) (w : World) (F : List Nat) (b : Nat) (d : α) : Prop :=
  (∃ cs F', F = b :: F' ∧ b ∈ X ∧ b ∉ F' ∧ Blk w b cs ty ∧ O.ok F' X w cs d) ∧ Wr G B F
section
variable {α : Type} {O : Obj α} {X X' F G H : List Nat} {w w' : World} {B B' b : Nat} {ty : TypeId} {d : α}
theorem MO.step (h : MO O ty G B X w F b d) (s : Step X w H X' w') (p : Ap F H) : MO O ty G B X' w' F b d := by
  obtain ⟨⟨cs, F', rfl, hb, hn, hk, ho⟩, hw⟩ := h
  exact ⟨⟨cs, F', rfl, s.up b hb, hn, hk.evo s.evo (p b (by simp)), O.step ho s fun x hx => p x (List.mem_cons_of_mem _ hx)⟩, hw⟩
theorem MO.step0 (h : MO O ty G B X w F b d) (s : Step X w [] X' w') : MO O ty G B X' w' F b d := h.step s (Ap.nil_r _)
theorem MO.mem (h : MO O ty G B X w F b d) : Sub F X := by
  obtain ⟨⟨cs, F', rfl, hb, hn, hk, ho⟩, hw⟩ := h
  exact Sub.of_cons hb (O.mem ho)
theorem MO.old (h : MO O ty G B X w F b d) : Old F w := by
  obtain ⟨⟨cs, F', rfl, hb, hn, hk, ho⟩, hw⟩ := h
  intro x hx
  cases hx with
  | head => exact hk.lt
  | tail _ h1 => exact O.old ho x h1
theorem MO.less (h : MO O ty G B X w F b d) (s : Sub X' X) (m : Sub F X') : MO O ty G B X' w F b d := by
  obtain ⟨⟨cs, F', rfl, hb, hn, hk, ho⟩, hw⟩ := h
  exact ⟨⟨cs, F', rfl, m b (by simp), hn, hk, O.less ho s fun x hx => m x (List.mem_cons_of_mem _ hx)⟩, hw⟩
theorem MO.wr (h : MO O ty G B X w F b d) : Wr G B F := h.2
theorem MO.re (h : MO O ty G B X w F b d) (k : Wr H B' F) : MO O ty H B' X w F b d := ⟨h.1, k⟩
theorem MO.pack (h : MO O ty G B X w F b d) : ∃ F', MO O ty G B X w F' b d ∧ ∀ l, Ap l F → Ap l F' := ⟨F, h, fun _ h => h⟩
theorem MO.in (h : MO O ty G B X w F b d) : b ∈ F := by
  obtain ⟨⟨cs, F', rfl, hb, hn, hk, ho⟩, hw⟩ := h; simp
theorem OB.re {cs : List Value} (h : OB G B X w b cs ty) (k : Wr H B' [b]) : OB H B' X w b cs ty := ⟨h.1, h.2.1, k⟩
theorem OB.wr {cs : List Value} (h : OB G B X w b cs ty) : Wr G B [b] := h.2.2
theorem OB.cast {cs cs' : List Value} (h : cs = cs') (k : OB G B X w b cs ty) : OB G B X w b cs' ty := h ▸ k
/-- A block that is given up for reading. -/
theorem OB.release {cs : List Value} (h : OB G B X w b cs ty) : ∃ X1, Sub X1 X ∧ RO X1 w b cs ty ∧ (∀ l, Ap l [b] → Sub l X → Sub l X1) := by
  refine ⟨X.filter fun x => decide (x ≠ b), fun b hb => (List.mem_filter.1 hb).1, ⟨fun hm => ?_, h.2.1⟩, fun l hl hs x hx => List.mem_filter.2 ⟨hs x hx, ?_⟩⟩
  · have := (List.mem_filter.1 hm).2; simp at this
  · have := hl x hx; simp at this; simpa using this
theorem OB.apold {X0 : List Nat} {cs : List Value} (h : OB [] B X w b cs ty) (h0 : ∀ b ∈ X0, b < B) : Ap X0 [b] := fun x hx hm => by
  simp at hm; subst hm
  rcases h.2.2 x (by simp) with h1 | h1
  · cases h1
  · have := h0 x hx; omega
theorem notin_of {F : List Nat} (h : Ap [b] F) : b ∉ F := h b (by simp)
theorem of_notin {F : List Nat} (h : b ∉ F) : Ap [b] F := fun x hx => by simp at hx; subst hx; exact h
end
section
variable {α : Type} {R : Rep α} {X X' F G H : List Nat} {w w' : World} {B B' n c : Nat} {ty : TypeId} {a : Option Addr} {L : List α}
theorem OS.re (h : OS R G B X w ty a n c L) (k : Wr H B' (blkL a)) : OS R H B' X w ty a n c L := ⟨h.1, h.2.1, k⟩
theorem OS.wr (h : OS R G B X w ty a n c L) : Wr G B (blkL a) := h.2.2
theorem OS.nil2 (X : List Nat) (w : World) (G : List Nat) (B : Nat) (ty : TypeId) : OS R G B X w ty none 0 0 ([] : List α) := ⟨rfl, Own.nil (Nat.zero_le _), Wr.nil _ _⟩
theorem OS.len_ (h : OS R G B X w ty a n c L) : OS R G B X w ty a L.length c L := by obtain ⟨rfl, h⟩ := h; exact ⟨rfl, h⟩
theorem oOwn_mk (h : OS R G B X w ty a n c L) : (oOwn R ty).ok (blkL a) X w [.slice a n c] L := by
  obtain ⟨rfl, h1, _⟩ := h; exact ⟨a, c, rfl, rfl, h1⟩
theorem oOwn_nil {X : List Nat} {w : World} {ty : TypeId} : (oOwn R ty).ok [] X w [.slice none 0 0] ([] : List α) := ⟨none, 0, rfl, rfl, Own.nil (Nat.zero_le _)⟩
theorem oRd_mk {cs : List Value} {d : α} (h : R.ok X w cs d) : (oRd R).ok [] X w cs d := ⟨rfl, h⟩
theorem oPair_mk {β : Type} {O : Obj α} {S : Obj β} {F1 F2 : List Nat} {c1 c2 : List Value} {x : α} {y : β} (p : Ap F1 F2) (h : O.ok F1 X w c1 x) (k : S.ok F2 X w c2 y) : (oPair O S).ok (F1 ++ F2) X w (c1 ++ c2) (x, y) := ⟨F1, F2, c1, c2, rfl, rfl, p, h, k⟩
theorem MO.mk {O : Obj α} {b : Nat} {cs : List Value} {d : α} (hb : OB G B X w b cs ty) (hn : Ap [b] F) (ho : O.ok F X w cs d) (hw : Wr G B F) : MO O ty G B X w (b :: F) b d :=
  ⟨⟨cs, F, rfl, hb.1, notin_of hn, hb.2.1, ho⟩, Wr.cons hb.2.2 hw⟩
end
section
variable {α : Type} {R : Rep α} {X X' G : List Nat} {w w' : World} {B n c : Nat} {ty : TypeId} {a : Option Addr} {L : List α}
/-- A slice that is read at once, whoever may write it. -/
def Sq {α : Type} (R : Rep α) (X : List Nat) (w : World) (a : Option Addr) (c : Nat) (L : List α) : Prop := L.length ≤ 9223372036854775807 ∧ Src R X w a c L
theorem Sq.len (h : Sq R X w a c L) : L.length ≤ 9223372036854775807 := h.1
theorem Sq.src (h : Sq R X w a c L) : Src R X w a c L := h.2
theorem Sq.step (h : Sq R X w a c L) (s : Step X w [] X' w') : Sq R X' w' a c L := ⟨h.1, h.2.imp id fun ⟨b, o, xs, h1, h2, h3⟩ => ⟨b, o, xs, h1, h2.evo s.evo (fun h => by cases h), (h3.sub s.new).evo s.evo (s.sub.trans s.up)⟩⟩
theorem Sq.less (h : Sq R X w a c L) (s : Sub X' X) : Sq R X' w a c L := ⟨h.1, h.2.imp id fun ⟨b, o, xs, h1, h2, h3⟩ => ⟨b, o, xs, h1, h2, h3.less s⟩⟩
theorem Sl.sq (h : Sl R X w a c L) : Sq R X w a c L := ⟨h.len, h.src⟩
theorem OS.sq (h : OS R G B X w ty a n c L) : Sq R X w a c L := ⟨h.len, h.src⟩
theorem Sq.nil : Sq R X w none 0 ([] : List α) := Sl.nil.sq
end
end Go.Proofs.YtfgmmabggjjhgaaGreatDoor
namespace Go.Proofs.YtfgmmabggjjhgaaGreatDoor
open Go
theorem strCells_bytesL (s : ByteArray) : Lib.strCells s = (bytesL s).map (Value.int .u8) := by unfold Lib.strCells bytesL; rw [List.map_map]; rfl
section
variable {P : Program} {w : World}
theorem run_appS (base : Nat) (t u ty e : TypeId) (i : TypeInfo) (ht : P.underlying t = some (.slice e)) (hu : P.underlying u = some .string) (hi : P.info? e = some i) (hz : i.zero = some (.int .u8 0))
    (hsize : i.size = 1) (hby : i.bytes = 1) {a0 : Option Addr} {c0 : Nat} (n : Nat) (xs : List Value) (hown : w.ownsRow base e 1 (.slice a0 n c0) n xs) (s : ByteArray)
    (h63 : n + s.size ≤ maxLen) (hbytes : n + s.size ≤ 140737488355328) (hbase : base ≤ w.heap.size) :
    ∃ a' c' w', (Builtin.append_ #[t, u] ty #[.slice a0 n c0, .string s]).run P w = .ok (.slice a' (n + s.size) c') w' ∧ w'.ownsRow base e 1 (.slice a' (n + s.size) c') (n + s.size) (xs ++ Lib.strCells s) ∧
      w.grownBy w' (Value.ownBlock (.slice a0 n c0)) ∧ (∀ b ∈ blkL a', b ∈ blkL a0 ∨ w.heap.size ≤ b) := by
  obtain ⟨v', w', hr, hown', hgr, _⟩ := Lib.run_append_own_string (P := P) w base t u ty e i ht hu hi hz hsize hby (.slice a0 n c0) n xs hown s h63 hbytes hbase
  have hform : ∃ a' c', v' = .slice a' (n + s.size) c' := by
    rcases hown'.2 with ⟨rfl, h0⟩ | ⟨g, cap, cur, rfl, _⟩
    · exact ⟨none, 0, by rw [h0]⟩
    · exact ⟨_, _, rfl⟩
  obtain ⟨a', c', rfl⟩ := hform
  refine ⟨a', c', w', hr, hown', hgr, ?_⟩
  have hxl : xs.length = n := by simpa using hown.1
  have hsmall : n + s.size ≤ 9223372036854775807 := by simp only [maxLen] at h63; omega
  rcases hown.2 with ⟨hv, h0⟩ | ⟨g, cap, cur, hv, hbg, hg, hnc, hcm, hcs, htake⟩
  · injection hv with e1 e2 e3
    subst e1; subst e3; subst h0
    have hx : xs = [] := List.eq_nil_of_length_eq_zero hxl
    subst hx
    obtain ⟨v2, w2, hr2, hown2, _, _⟩ := Lib.run_append_own_string (P := P) w w.heap.size t u ty e i ht hu hi hz hsize hby (.slice none 0 0) 0 [] (World.ownsRow_nil w w.heap.size e 1) s h63 hbytes (Nat.le_refl _)
    rw [hr2] at hr
    injection hr with e1 e2
    subst e1
    intro b hb
    refine .inr ?_
    have := hown2.lt b ((ownBlock_blkL _ _ _ _).2 hb)
    exact this.1
  · injection hv with e1 e2 e3
    subst e1; subst e3
    have hcs' : cur.size = c0 := by simpa using hcs
    by_cases hroom : n + s.size ≤ c0
    · have hr2 := Lib.run_append_room_string (P := P) w t u ty e i ht hu hi hsize g n c0 cur hg s hroom (by omega)
      rw [hr2] at hr
      injection hr with e1 _
      injection e1 with e2 _ _
      subst e2; intro b hb; exact .inl hb
    · have holds : ∀ j u, xs[j]? = some u → w.cell? ((⟨g, 0, none⟩ : Addr).add j) = some u := hown.cells (g := g) rfl
      have hr2 := Lib.run_append_grow_string (P := P) w t u ty e i (.int .u8 0) ht hu hi hz ⟨g, 0, none⟩ n c0 xs (by rw [hsize]; simpa using hxl) holds s (by omega) (by omega) (by rw [hby]; exact growslice_fits (by omega) (by omega))
      rw [hr2] at hr
      injection hr with e1 _
      injection e1 with e2 _ _
      subst e2; intro b hb; simp [blkL] at hb; exact .inr (by omega)
end
section
variable {P : Program} {ops : Array Oper} {Q : Exit → Act → World → Prop} {n : Nat} {f : Nat → Value} {u : List (Nat × Value)} {w : World} {next : Act → World → Prop}
variable {dst : Option Tmp} {ty : TypeId} {pos : String} {aft : Array Edge} {gd : Option (Nat × Bool)}
/-- 'append(x, s...)', s a text. -/
theorem o_appS {X G : List Nat} {B : Nat} {t t' et : TypeId} {x y : Operand} {a : Option Addr} {n1 c : Nat} {L : List Int} {sv : ByteArray}
    (hg : Region.wanted ⟨dst, .call ⟨.builtin .append, #[x, y], #[t, t']⟩, ty, pos, aft, gd⟩ (yielded ops (Fr n f u).tmps) = true)
    (hu : P.underlying t = some (.slice et)) (ht' : P.underlying t' = some .string) (hi : (P.info? et).map (fun i => (i.zero, i.size, i.bytes)) = some (some (.int .u8 0), 1, 1)) (hB : B ≤ w.heap.size)
    (hO : OS (rInt .u8) G B X w et a n1 c L) (hx : evf n f u x = .slice a n1 c) (hy : evf n f u y = .string sv)
    (hb : L.length + sv.size ≤ 140737488355328)
    (h : ∀ a' n' c' w' X', Step X w (blkL a) X' w' → OS (rInt .u8) G B X' w' et a' n' c' (L ++ bytesL sv) → (∀ l, Ap l (blkL a) → Old l w → Ap l (blkL a')) → next (Fr n f (pusho dst (.slice a' n' c') u)) w') :
    OpW P ops Q ⟨dst, .call ⟨.builtin .append, #[x, y], #[t, t']⟩, ty, pos, aft, gd⟩ n f u w next := by
  obtain ⟨i, hi1, hi2, hi3, hi4⟩ := info_parts hi
  obtain ⟨rfl, ⟨hbase, hmem, xs, ho, hf⟩, hW⟩ := hO
  have hm : L.length + sv.size ≤ maxLen := by unfold maxLen; omega
  obtain ⟨a', c', w', hr, hown, hgr, hnew⟩ := run_appS (P := P) 0 t t' ty et i hu ht' hi1 hi2 hi3 hi4 L.length xs ho sv hm hb (Nat.zero_le _)
  have hev : Evo (blkL a) w w' := ⟨hgr.os, hgr.tape, hgr.output, hgr.size, fun b hb hn => hgr.block b hb (fun e => hn ((ownBlock_blkL _ _ _ _).1 e.symm))⟩
  have hst : Step X w (blkL a) (blkL a' ++ X) w' := by
    refine ⟨hev, hmem, fun b hb => List.mem_append_right _ hb, fun b hb => ?_⟩
    rcases List.mem_append.1 hb with h | h
    · rcases hnew b h with h1 | h1
      · exact .inl (hmem b h1)
      · exact .inr ⟨h1, (hown.lt b ((ownBlock_blkL _ _ _ _).2 h)).2⟩
    · exact .inl h
  have hlen : (L ++ bytesL sv).length = L.length + sv.size := by rw [List.length_append, bytesL_len]
  refine o_val (w' := w') (.slice a' (L.length + sv.size) c') hg ?_ (h a' _ c' w' _ hst ⟨hlen.symm, ?_, fun x hx => ?_⟩ fun l hl ho x hx hm => ?_)
  · have hex : (execOp (evf n f u) ⟨dst, .call ⟨.builtin .append, #[x, y], #[t, t']⟩, ty, pos, aft, gd⟩).run P w = ((Builtin.append_ #[t, t'] ty #[.slice a L.length c, .string sv]).run P w).andThen fun v w' => .ok (.value v) w' := by
      unfold execOp
      simp only [resolve, invoke, builtin, Sem.run_bind, Sem.run_pure, Result.andThen_ok, List.map_toArray, List.map_cons, List.map_nil, hx, hy]
    rw [hex, hr]; rfl
  · refine ⟨Nat.zero_le _, fun b hb => List.mem_append_left _ hb, xs ++ Lib.strCells sv, by rw [hlen]; exact hown, ?_⟩
    rw [strCells_bytesL]
    exact ((hf.append (flat_ints _ (bytesL_u8 sv))).sub hst.new).evo hst.evo (hst.sub.trans hst.up)
  · rcases hnew x hx with h1 | h1
    · exact hW x h1
    · exact Or.inr (by omega)
  · rcases hnew x hm with h1 | h1
    · exact hl x hx h1
    · have := ho x hx; omega
end
/-! a pointer held against nil -/
section
variable {P : Program} {n : Nat} {f : Nat → Value} {u : List (Nat × Value)} {w : World} {dst : Option Tmp} {ty : TypeId} {pos : String} {aft : Array Edge} {gd : Option (Nat × Bool)}
theorem equal_ptr_nil {t e : TypeId} (a : Addr) (ht : P.underlying t = some (.pointer e)) : (Op.equal t (.pointer (some a)) (.pointer none)).run P w = .ok false w := by
  have h : ∀ d : Nat, (Op.equalIn (d + 1) t (.pointer (some a)) (.pointer none)).run P w = .ok false w := fun d => by simp [Op.equalIn, run_underlying ht]
  simp only [Op.equal, Op.maxDepth]
  exact h 9999
theorem x_pnil_eq {t t' : TypeId} {x y : Operand} {e : TypeId} {a : Addr} (ht : P.underlying t = some (.pointer e)) (hx : evf n f u x = .pointer (some a)) (hy : evf n f u y = .pointer none) :
    (execOp (evf n f u) ⟨dst, .binOp .eql t x y t', ty, pos, aft, gd⟩).run P w = .ok (.value (.bool false)) w := by
  simp [execOp, hx, hy, eqGuard, binOp, equal_ptr_nil a ht]
theorem x_pnil_ne {t t' : TypeId} {x y : Operand} {e : TypeId} {a : Addr} (ht : P.underlying t = some (.pointer e)) (hx : evf n f u x = .pointer (some a)) (hy : evf n f u y = .pointer none) :
    (execOp (evf n f u) ⟨dst, .binOp .neq t x y t', ty, pos, aft, gd⟩).run P w = .ok (.value (.bool true)) w := by
  simp [execOp, hx, hy, eqGuard, binOp, equal_ptr_nil a ht]
end
end Go.Proofs.YtfgmmabggjjhgaaGreatDoor
