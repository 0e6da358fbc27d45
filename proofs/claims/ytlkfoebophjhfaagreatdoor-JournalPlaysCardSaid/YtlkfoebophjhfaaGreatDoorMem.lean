/- Memory: how a world goes on, blocks that are known, data that reads from memory, slices that are owned. It speaks of any program; nothing of the claim's own program stands here. -/
import Derived.Test.YtlkfoebophjhfaaGreatDoorCore
import Derived.WalkKit
import Derived.WalkSpells
namespace Go.Proofs.YtlkfoebophjhfaaGreatDoor
open Go
/-! ### How a world goes on -/
/-- Of the blocks below B none has turned, but perhaps those of F. -/
structure RB (B : Nat) (F : List Nat) (w w' : World) : Prop where
  os : w'.os = w.os
  tape : w'.tape = w.tape
  output : w'.output = w.output
  size : w.heap.size ≤ w'.heap.size
  keep : ∀ b, b < B → b ∉ F → w'.heap[b]? = w.heap[b]?
abbrev Evo (F : List Nat) (w w' : World) : Prop := RB w.heap.size F w w'
theorem RB.refl (B : Nat) (F : List Nat) (w : World) : RB B F w w := ⟨rfl, rfl, rfl, Nat.le_refl _, fun _ _ _ => rfl⟩
theorem RB.trans {B : Nat} {F : List Nat} {a b c : World} (h : RB B F a b) (k : RB B F b c) : RB B F a c :=
  ⟨k.os.trans h.os, k.tape.trans h.tape, k.output.trans h.output, Nat.le_trans h.size k.size, fun x hx hf => (k.keep x hx hf).trans (h.keep x hx hf)⟩
theorem RB.pre (B : Nat) (F : List Nat) : PreR (RB B F) := ⟨RB.refl B F, fun _ _ _ => RB.trans⟩
theorem RB.mono {B B' : Nat} {F F' : List Nat} {a b : World} (h : RB B F a b) (hB : B' ≤ B) (hF : ∀ x ∈ F, x ∈ F' ∨ B' ≤ x) : RB B' F' a b :=
  ⟨h.os, h.tape, h.output, h.size, fun x hx hf => h.keep x (by omega) (fun hm => by rcases hF x hm with h1 | h1; exact hf h1; omega)⟩
theorem RB.drew (B : Nat) (F : List Nat) (w : World) : RB B F w { w with drawn := w.drawn + 1 } := ⟨rfl, rfl, rfl, Nat.le_refl _, fun _ _ _ => rfl⟩
theorem Evo.trans {F : List Nat} {a b c : World} (h : Evo F a b) (k : Evo F b c) : Evo F a c :=
  RB.trans h (k.mono h.size fun _ hx => Or.inl hx)
/-- What goes on from here, seen from an earlier world. -/
theorem RB.then {B : Nat} {F F' : List Nat} {a b c : World} (h : RB B F a b) (k : Evo F' b c) (hB : B ≤ b.heap.size) (hF : ∀ x ∈ F', x ∈ F ∨ B ≤ x) : RB B F a c :=
  RB.trans h (k.mono hB hF)
theorem Evo.then {F F' : List Nat} {a b c : World} (h : Evo F a b) (k : Evo F' b c) (hF : ∀ x ∈ F', x ∈ F ∨ a.heap.size ≤ x) : Evo F a c := RB.then h k h.size hF
theorem Evo.then0 {F : List Nat} {a b c : World} (h : Evo F a b) (k : Evo [] b c) : Evo F a c := h.then k (fun _ hx => by cases hx)
theorem Evo.cell {F : List Nat} {w w' : World} (h : Evo F w w') {p : Addr} {v : Value} (hp : w.cell? p = some v) (hf : p.block ∉ F) : w'.cell? p = some v :=
  (World.cell?_of_block (w := w) (h.keep p.block (World.block_lt_of_cell? _ _ hp) hf)).trans hp
theorem Evo.below {w w' : World} (h : Evo [] w w') : RowKit.Below w.heap.size w w' := ⟨h.os, h.tape, h.output, h.size, fun k hk => h.keep k hk (by simp)⟩
theorem Evo.alloc (w : World) (o : Obj) : Evo [] w (w.alloc o) := ⟨rfl, rfl, rfl, by simp, fun b hb _ => RowKit.Below.heap_alloc w o b hb⟩
theorem Evo.of_drew {w w' : World} (h : w' = { w with drawn := w.drawn + 1 }) : Evo [] w w' := by subst h; exact RB.drew _ _ _
/-- Every number of the one list is in the other. -/
def Sub (X Y : List Nat) : Prop := ∀ b ∈ X, b ∈ Y
theorem Sub.refl (X : List Nat) : Sub X X := fun _ h => h
theorem Sub.trans {X Y Z : List Nat} (h : Sub X Y) (k : Sub Y Z) : Sub X Z := fun b hb => k b (h b hb)
theorem Sub.cons (b : Nat) (X : List Nat) : Sub X (b :: X) := fun _ h => List.mem_cons_of_mem _ h
theorem Sub.nil (X : List Nat) : Sub [] X := fun _ h => by cases h
/-- All of X are blocks that are there. -/
def Old (X : List Nat) (w : World) : Prop := ∀ b ∈ X, b < w.heap.size
theorem Sub.of_cons {b : Nat} {X Y : List Nat} (h : b ∈ X) (k : Sub Y X) : Sub (b :: Y) X := fun x hx => by cases hx with | head => exact h | tail _ h => exact k x h
theorem Old.less {X Y : List Nat} {w : World} (h : Old X w) (s : Sub Y X) : Old Y w := fun b hb => h b (s b hb)
/-- A step of the ghost state: X is what may be written by us; F is what this step has written. -/
structure Step (X : List Nat) (w : World) (F : List Nat) (X' : List Nat) (w' : World) : Prop where
  evo : Evo F w w'
  sub : Sub F X
  up : Sub X X'
  news : ∀ b ∈ X', b ∈ X ∨ (w.heap.size ≤ b ∧ b < w'.heap.size)
theorem Step.new {X : List Nat} {w : World} {F : List Nat} {X' : List Nat} {w' : World} (h : Step X w F X' w') : ∀ b ∈ X', b ∈ X ∨ w.heap.size ≤ b := fun b hb => (h.news b hb).imp id (·.1)
theorem Old.step {X : List Nat} {w : World} {F : List Nat} {X' : List Nat} {w' : World} (h : Old X w) (s : Step X w F X' w') : Old X' w' := fun b hb => by
  rcases s.news b hb with h1 | h1
  · exact Nat.lt_of_lt_of_le (h b h1) s.evo.size
  · exact h1.2
theorem Old.evo {X : List Nat} {w w' : World} {F : List Nat} (h : Old X w) (e : Evo F w w') : Old X w' := fun b hb => Nat.lt_of_lt_of_le (h b hb) e.size
theorem Old.nil (w : World) : Old [] w := fun b hb => by cases hb
theorem Step.of0 (X : List Nat) {w w' : World} (h : Evo [] w w') : Step X w [] X w' := ⟨h, Sub.nil _, Sub.refl _, fun _ h => Or.inl h⟩
theorem Step.fresh (X : List Nat) {w w' : World} (h : Evo [] w w') (b : Nat) (hb : w.heap.size ≤ b) (hb' : b < w'.heap.size) : Step X w [] (b :: X) w' :=
  ⟨h, Sub.nil _, Sub.cons _ _, fun x hx => by cases hx with | head => exact Or.inr ⟨hb, hb'⟩ | tail _ h => exact Or.inl h⟩
theorem Step.app (X Y : List Nat) {w w' : World} (h : Evo [] w w') (hb : ∀ b ∈ Y, w.heap.size ≤ b ∧ b < w'.heap.size) : Step X w [] (Y ++ X) w' :=
  ⟨h, Sub.nil _, (fun _ h => List.mem_append_right _ h), fun x hx => by rcases List.mem_append.1 hx with h | h; exact Or.inr (hb x h); exact Or.inl h⟩
theorem Step.one {X : List Nat} {w w' : World} {b : Nat} (h : Evo [b] w w') (hb : b ∈ X) : Step X w [b] X w' :=
  ⟨h, fun x hx => by simp at hx; subst hx; exact hb, Sub.refl _, fun _ h => Or.inl h⟩
/-! ### A block that is known whole -/
def Blk (w : World) (b : Nat) (cs : List Value) (ty : TypeId) : Prop := w.heap[b]? = some (.cells cs.toArray ty (0, 0))
theorem Blk.lt {w : World} {b : Nat} {cs : List Value} {ty : TypeId} (h : Blk w b cs ty) : b < w.heap.size := (Array.getElem?_eq_some_iff.1 h).1
theorem Blk.evo {w w' : World} {F : List Nat} {b : Nat} {cs : List Value} {ty : TypeId} (h : Blk w b cs ty) (e : Evo F w w') (hb : b ∉ F) : Blk w' b cs ty := (e.keep b h.lt hb).trans h
theorem Blk.cell {w : World} {b : Nat} {cs : List Value} {ty : TypeId} (h : Blk w b cs ty) (j : Nat) : w.cell? ⟨b, j, none⟩ = cs[j]? := by
  rw [cell_of_row w b j _ ty _ h]; simp
theorem Blk.new (w : World) (cs : Array Value) (ty : TypeId) : Blk (w.alloc (.cells cs ty)) w.heap.size cs.toList ty := by
  unfold Blk; rw [heap_alloc_new]
/-! ### Data in memory -/
def CellsAt (w : World) (b o : Nat) (xs : List Value) : Prop := ∀ (j : Nat) (u : Value), xs[j]? = some u → w.cell? ⟨b, o + j, none⟩ = some u
theorem CellsAt.evo {w w' : World} {F : List Nat} {b o : Nat} {xs : List Value} (h : CellsAt w b o xs) (e : Evo F w w') (hb : b ∉ F) : CellsAt w' b o xs :=
  fun j u hj => e.cell (h j u hj) hb
theorem CellsAt.drop {w : World} {b o : Nat} {xs : List Value} (h : CellsAt w b o xs) (k : Nat) : CellsAt w b (o + k) (xs.drop k) := fun j u hj => by
  rw [List.getElem?_drop] at hj
  have := h (k + j) u hj
  rwa [← Nat.add_assoc] at this
theorem CellsAt.take {w : World} {b o : Nat} {xs : List Value} (h : CellsAt w b o xs) (k : Nat) : CellsAt w b o (xs.take k) := fun j u hj => by
  rw [List.getElem?_take] at hj
  split at hj
  · exact h j u hj
  · cases hj
/-- How data of one kind lies in memory: in so many cells; X: blocks that it does not lie in. -/
structure Rep (α : Type) where
  n : Nat
  ok : List Nat → World → List Value → α → Prop
  len : ∀ {X w cs d}, ok X w cs d → cs.length = n
  evo : ∀ {X w cs d F w'}, ok X w cs d → Evo F w w' → Sub F X → ok X w' cs d
  sub : ∀ {X w cs d X'}, ok X w cs d → (∀ b ∈ X', b ∈ X ∨ w.heap.size ≤ b) → ok X' w cs d
  one : ∀ {X w cs d}, ok X w cs d → ∀ c ∈ cs, c.oneCell' = true
theorem Rep.step {α : Type} (R : Rep α) {X X' : List Nat} {w w' : World} {F : List Nat} {cs : List Value} {d : α} (h : R.ok X w cs d) (s : Step X w F X' w') : R.ok X' w' cs d :=
  R.evo (R.sub h s.new) s.evo (s.sub.trans s.up)
def inR (k : IntKind) (x : Int) : Prop := k.min ≤ x ∧ x ≤ k.max
theorem inR_i64 {x : Int} : inR .i64 x ↔ -9223372036854775808 ≤ x ∧ x ≤ 9223372036854775807 := by
  unfold inR; rw [show IntKind.i64.min = -9223372036854775808 from by decide, show IntKind.i64.max = 9223372036854775807 from by decide]
theorem inR_u8 {x : Int} : inR .u8 x ↔ 0 ≤ x ∧ x ≤ 255 := by
  unfold inR; rw [show IntKind.u8.min = 0 from by decide, show IntKind.u8.max = 255 from by decide]
def rInt (k : IntKind) : Rep Int where
  n := 1
  ok _ _ cs x := cs = [.int k x] ∧ inR k x
  len h := by rw [h.1]; rfl
  evo h _ _ := h
  sub h _ := h
  one h c hc := by rw [h.1] at hc; simp at hc; subst hc; rfl
def rBool : Rep Bool where
  n := 1
  ok _ _ cs x := cs = [.bool x]
  len h := by rw [h]; rfl
  evo h _ _ := h
  sub h _ := h
  one h c hc := by rw [h] at hc; simp at hc; subst hc; rfl
def rStr : Rep ByteArray where
  n := 1
  ok _ _ cs x := cs = [.string x] ∧ x.size ≤ maxLen
  len h := by rw [h.1]; rfl
  evo h _ _ := h
  sub h _ := h
  one h c hc := by rw [h.1] at hc; simp at hc; subst hc; rfl
def rPair {α β : Type} (R : Rep α) (S : Rep β) : Rep (α × β) where
  n := R.n + S.n
  ok X w cs x := ∃ c1 c2, cs = c1 ++ c2 ∧ R.ok X w c1 x.1 ∧ S.ok X w c2 x.2
  len h := by obtain ⟨c1, c2, rfl, h1, h2⟩ := h; rw [List.length_append, R.len h1, S.len h2]
  evo h e s := by obtain ⟨c1, c2, rfl, h1, h2⟩ := h; exact ⟨c1, c2, rfl, R.evo h1 e s, S.evo h2 e s⟩
  sub h s := by obtain ⟨c1, c2, rfl, h1, h2⟩ := h; exact ⟨c1, c2, rfl, R.sub h1 s, S.sub h2 s⟩
  one h c hc := by
    obtain ⟨c1, c2, rfl, h1, h2⟩ := h
    rcases List.mem_append.1 hc with h | h
    · exact R.one h1 c h
    · exact S.one h2 c h
def rMap {α β : Type} (g : β → α) (R : Rep α) : Rep β where
  n := R.n
  ok X w cs x := R.ok X w cs (g x)
  len h := R.len h
  evo h e s := R.evo h e s
  sub h s := R.sub h s
  one h := R.one h
section
variable {α : Type} (R : Rep α) {X X' F : List Nat} {w w' : World}
/-- The cells of a row of data. -/
def Flat (X : List Nat) (w : World) : List Value → List α → Prop
  | xs, [] => xs = []
  | xs, d :: L => ∃ cs r, xs = cs ++ r ∧ R.ok X w cs d ∧ Flat X w r L
variable {R} {xs ys : List Value} {L M : List α}
theorem Flat.length : ∀ {L : List α} {xs : List Value}, Flat R X w xs L → xs.length = L.length * R.n
  | [], xs, h => by simp only [Flat] at h; subst h; simp
  | d :: L, xs, h => by
    obtain ⟨cs, r, rfl, h1, h2⟩ := h
    rw [List.length_append, R.len h1, Flat.length h2, List.length_cons, Nat.add_mul]
    omega
theorem Flat.evo : ∀ {L : List α} {xs : List Value}, Flat R X w xs L → Evo F w w' → Sub F X → Flat R X w' xs L
  | [], _, h, _, _ => h
  | _ :: _, _, ⟨cs, r, e, h1, h2⟩, ev, s => ⟨cs, r, e, R.evo h1 ev s, Flat.evo h2 ev s⟩
theorem Flat.sub : ∀ {L : List α} {xs : List Value}, Flat R X w xs L → (∀ b ∈ X', b ∈ X ∨ w.heap.size ≤ b) → Flat R X' w xs L
  | [], _, h, _ => h
  | _ :: _, _, ⟨cs, r, e, h1, h2⟩, s => ⟨cs, r, e, R.sub h1 s, Flat.sub h2 s⟩
theorem Flat.one : ∀ {L : List α} {xs : List Value}, Flat R X w xs L → ∀ c ∈ xs, c.oneCell' = true
  | [], xs, h, c, hc => by simp only [Flat] at h; subst h; cases hc
  | _ :: _, _, ⟨cs, r, e, h1, h2⟩, c, hc => by
    subst e
    rcases List.mem_append.1 hc with h | h
    · exact R.one h1 c h
    · exact Flat.one h2 c h
theorem Flat.append : ∀ {L : List α} {xs : List Value}, Flat R X w xs L → Flat R X w ys M → Flat R X w (xs ++ ys) (L ++ M)
  | [], xs, h, k => by simp only [Flat] at h; subst h; simpa using k
  | d :: L, _, ⟨cs, r, e, h1, h2⟩, k => by
    subst e
    exact ⟨cs, r ++ ys, by simp, h1, Flat.append h2 k⟩
theorem Flat.nil : Flat R X w [] ([] : List α) := rfl
theorem Flat.cons {cs : List Value} {d : α} (h : R.ok X w cs d) (hr : Flat R X w ys M) : Flat R X w (cs ++ ys) (d :: M) := ⟨cs, ys, rfl, h, hr⟩
theorem Flat.cons1 {c : Value} {d : α} (h : R.ok X w [c] d) (hr : Flat R X w ys M) : Flat R X w (c :: ys) (d :: M) := ⟨[c], ys, rfl, h, hr⟩
theorem Flat.single {cs : List Value} {d : α} (h : R.ok X w cs d) : Flat R X w cs [d] := ⟨cs, [], by simp, h, rfl⟩
theorem Flat.drop : ∀ {L : List α} {xs : List Value} (k : Nat), Flat R X w xs L → Flat R X w (xs.drop (k * R.n)) (L.drop k)
  | [], xs, k, h => by simp only [Flat] at h; subst h; simp [Flat]
  | d :: L, xs, 0, h => by simpa using h
  | d :: L, _, k + 1, ⟨cs, r, e, h1, h2⟩ => by
    subst e
    have hl := R.len h1
    have : (cs ++ r).drop ((k + 1) * R.n) = r.drop (k * R.n) := by
      rw [List.drop_append, List.drop_of_length_le (by rw [hl, Nat.add_mul]; omega), List.nil_append, hl]
      congr 1
      rw [Nat.add_mul]; omega
    rw [this]
    exact Flat.drop k h2
theorem Flat.take : ∀ {L : List α} {xs : List Value} (k : Nat), Flat R X w xs L → Flat R X w (xs.take (k * R.n)) (L.take k)
  | [], xs, k, h => by simp only [Flat] at h; subst h; simp [Flat]
  | d :: L, xs, 0, h => by simp [Flat]
  | d :: L, _, k + 1, ⟨cs, r, e, h1, h2⟩ => by
    subst e
    have hl := R.len h1
    have : (cs ++ r).take ((k + 1) * R.n) = cs ++ r.take (k * R.n) := by
      rw [List.take_append, List.take_of_length_le (by rw [hl, Nat.add_mul]; omega), hl]
      congr 2
      rw [Nat.add_mul]; omega
    rw [this]
    exact ⟨cs, _, rfl, h1, Flat.take k h2⟩
theorem Flat.get {L : List α} {xs : List Value} (h : Flat R X w xs L) (i : Nat) (hi : i < L.length) : ∃ cs, R.ok X w cs L[i] ∧ ∀ (j : Nat) (u : Value), cs[j]? = some u → xs[i * R.n + j]? = some u := by
  have hd := Flat.drop i h
  rw [List.drop_eq_getElem_cons hi] at hd
  obtain ⟨cs, r, e, h1, _⟩ := hd
  refine ⟨cs, h1, fun j u hj => ?_⟩
  rw [← List.getElem?_drop, e, List.getElem?_append_left]
  · exact hj
  · rcases Nat.lt_or_ge j cs.length with h | h
    · exact h
    · simp [List.getElem?_eq_none h] at hj
end
/-- A slice of data: what is read of it. -/
def Sl {α : Type} (R : Rep α) (X : List Nat) (w : World) (a : Option Addr) (c : Nat) (L : List α) : Prop :=
  L.length ≤ c ∧ c ≤ maxLen ∧ ((L = [] ∧ (a = none → c = 0)) ∨ ∃ b o xs, a = some ⟨b, o, none⟩ ∧ b ∉ X ∧ b < w.heap.size ∧ CellsAt w b o xs ∧ Flat R X w xs L)
section
variable {α : Type} {R : Rep α} {X X' F : List Nat} {w w' : World} {a : Option Addr} {c : Nat} {L : List α}
theorem Sl.evo (h : Sl R X w a c L) (e : Evo F w w') (s : Sub F X) : Sl R X w' a c L := by
  obtain ⟨h1, h2, h3⟩ := h
  refine ⟨h1, h2, ?_⟩
  rcases h3 with h3 | ⟨b, o, xs, rfl, hb, hl, hc, hf⟩
  · exact .inl h3
  · exact .inr ⟨b, o, xs, rfl, hb, Nat.lt_of_lt_of_le hl e.size, hc.evo e (fun hm => hb (s b hm)), hf.evo e s⟩
theorem Sl.sub (h : Sl R X w a c L) (s : ∀ b ∈ X', b ∈ X ∨ w.heap.size ≤ b) : Sl R X' w a c L := by
  obtain ⟨h1, h2, h3⟩ := h
  refine ⟨h1, h2, ?_⟩
  rcases h3 with h3 | ⟨b, o, xs, rfl, hb, hl, hc, hf⟩
  · exact .inl h3
  · exact .inr ⟨b, o, xs, rfl, fun hm => by rcases s b hm with h | h; exact hb h; omega, hl, hc, hf.sub s⟩
theorem Sl.less (h : Sl R X w a c L) (s : Sub X' X) : Sl R X' w a c L := h.sub fun b hb => .inl (s b hb)
theorem Sl.step (h : Sl R X w a c L) (s : Step X w F X' w') : Sl R X' w' a c L := (h.sub s.new).evo s.evo (s.sub.trans s.up)
theorem Sl.len (h : Sl R X w a c L) : L.length ≤ 9223372036854775807 := by have := h.1; have := h.2.1; unfold maxLen at this; omega
theorem Sl.nil : Sl R X w none 0 [] := ⟨by simp, by simp, .inl ⟨rfl, fun _ => rfl⟩⟩
theorem Sl.cap (h : Sl R X w a c L) : c ≤ 9223372036854775807 := by have := h.2.1; unfold maxLen at this; omega
/-- An element: its address, and its cells. -/
theorem Sl.at (h : Sl R X w a c L) (i : Nat) (hi : i < L.length) : ∃ b o cs, a = some ⟨b, o, none⟩ ∧ b ∉ X ∧ b < w.heap.size ∧ R.ok X w cs L[i] ∧ CellsAt w b (o + i * R.n) cs := by
  obtain ⟨_, _, h3⟩ := h
  rcases h3 with ⟨rfl, _⟩ | ⟨b, o, xs, rfl, hb, hl, hc, hf⟩
  · cases hi
  · obtain ⟨cs, h1, h2⟩ := hf.get i hi
    refine ⟨b, o, cs, rfl, hb, hl, h1, fun j u hj => ?_⟩
    rw [Nat.add_assoc]
    exact hc _ u (h2 j u hj)
end
def rSl {α : Type} (R : Rep α) : Rep (List α) where
  n := 1
  ok X w cs L := ∃ a c, cs = [.slice a L.length c] ∧ Sl R X w a c L
  len h := by obtain ⟨a, c, rfl, _⟩ := h; rfl
  evo h e s := by obtain ⟨a, c, rfl, h⟩ := h; exact ⟨a, c, rfl, h.evo e s⟩
  sub h s := by obtain ⟨a, c, rfl, h⟩ := h; exact ⟨a, c, rfl, h.sub s⟩
  one h u hu := by obtain ⟨a, c, rfl, h⟩ := h; simp at hu; subst hu; rfl
/-! ### A slice that we own, and may append to -/
def blkL : Option Addr → List Nat
  | some a => [a.block]
  | none => []
theorem ownBlock_blkL (a : Option Addr) (n c : Nat) (b : Nat) : Value.ownBlock (.slice a n c) = some b ↔ b ∈ blkL a := by
  cases a with
  | none => simp [Value.ownBlock, blkL]
  | some a => simp [Value.ownBlock, blkL]; exact eq_comm
def Own {α : Type} (R : Rep α) (X : List Nat) (w : World) (base : Nat) (ty : TypeId) (a : Option Addr) (c : Nat) (L : List α) : Prop :=
  base ≤ w.heap.size ∧ (∀ b ∈ blkL a, b ∈ X) ∧ ∃ xs, w.ownsRow base ty R.n (.slice a L.length c) L.length xs ∧ Flat R X w xs L
section
variable {α : Type} {R : Rep α} {X X' F : List Nat} {w w' : World} {a : Option Addr} {c base : Nat} {ty : TypeId} {L : List α}
theorem Own.nil (hb : base ≤ w.heap.size) : Own R X w base ty none 0 ([] : List α) := ⟨hb, (fun _ h => by cases h), [], World.ownsRow_nil w base ty R.n, rfl⟩
theorem Own.lt (h : Own R X w base ty a c L) : ∀ b ∈ blkL a, base ≤ b ∧ b < w.heap.size := fun b hb => by
  obtain ⟨_, _, xs, ho, _⟩ := h
  exact ho.lt b ((ownBlock_blkL _ _ _ _).2 hb)
theorem Own.mem (h : Own R X w base ty a c L) : Sub (blkL a) X := h.2.1
theorem Own.step (h : Own R X w base ty a c L) (s : Step X w F X' w') (hf : ∀ b ∈ blkL a, b ∉ F) : Own R X' w' base ty a c L := by
  obtain ⟨hb, hm, xs, ho, hx⟩ := h
  refine ⟨Nat.le_trans hb s.evo.size, fun b hb => s.up b (hm b hb), xs, ?_, (hx.sub s.new).evo s.evo (s.sub.trans s.up)⟩
  refine ⟨ho.1, ?_⟩
  rcases ho.2 with h2 | ⟨g, cap, cur, hv, hbg, hg, h3⟩
  · exact .inl h2
  · refine .inr ⟨g, cap, cur, hv, hbg, ?_, h3⟩
    have ha : a = some ⟨g, 0, none⟩ := by injection hv
    rw [s.evo.keep g (Array.getElem?_eq_some_iff.1 hg).1 (hf g (by rw [ha]; simp [blkL]))]
    exact hg
/-- What we own may be read; once it is only read it need not be ours. -/
theorem Own.sl (h : Own R X w base ty a c L) (s : Sub X' X) (hn : ∀ b ∈ blkL a, b ∉ X') : Sl R X' w a c L := by
  obtain ⟨hb, hm, xs, ho, hx⟩ := h
  have hl := hx.length
  rcases ho.2 with ⟨h1, h2⟩ | ⟨g, cap, cur, hv, hbg, hg, hnc, hcm, hcs, htake⟩
  · have h3 : L = [] := List.eq_nil_of_length_eq_zero h2
    injection h1 with e1 e2 e3
    subst h3; subst e1; subst e3
    exact Sl.nil
  · injection hv with e1 e2 e3
    subst e1; subst e3
    refine ⟨hnc, hcm, .inr ⟨g, 0, xs, rfl, hn g (by simp [blkL]), (Array.getElem?_eq_some_iff.1 hg).1, fun j u hj => ?_, hx.sub fun b hb => .inl (s b hb)⟩⟩
    have := ho.cells (g := g) rfl j u hj
    have hadd : (⟨g, 0, none⟩ : Addr).add j = ⟨g, 0 + j, none⟩ := by unfold Addr.add; split <;> simp_all
    rwa [hadd] at this
theorem Own.sub' (h : Own R X w base ty a c L) (h1 : ∀ b ∈ blkL a, b ∈ X') (h2 : ∀ b ∈ X', b ∈ X ∨ w.heap.size ≤ b) : Own R X' w base ty a c L := by
  obtain ⟨hb, _, xs, ho, hx⟩ := h
  exact ⟨hb, h1, xs, ho, hx.sub h2⟩
/-- .. by the caller of the whole, whose own blocks are older. -/
theorem Own.out (h : Own R X w base ty a c L) (s : Sub X' X) (hn : ∀ b ∈ X', b < base) : Sl R X' w a c L :=
  h.sl s fun b hb hx => by have := (h.lt b hb).1; have := hn b hx; omega
theorem NotIn.cons {c : Nat} {Y : List Nat} (hq : c ∉ blkL a) (h : ∀ b ∈ blkL a, b ∉ Y) : ∀ b ∈ blkL a, b ∉ c :: Y := fun b hb hm => by
  cases hm with
  | head => exact hq hb
  | tail _ h1 => exact h b hb h1
theorem NotIn.app {a' : Option Addr} {Y : List Nat} (hq : ∀ b ∈ blkL a, b ∉ blkL a') (h : ∀ b ∈ blkL a, b ∉ Y) : ∀ b ∈ blkL a, b ∉ blkL a' ++ Y := fun b hb hm => by
  rcases List.mem_append.1 hm with h1 | h1
  · exact hq b hb h1
  · exact h b hb h1
theorem Own.less (h : Own R X w base ty a c L) (s : Sub X' X) (hm : Sub (blkL a) X') : Own R X' w base ty a c L := h.sub' hm fun b hb => .inl (s b hb)
theorem Own.len (h : Own R X w base ty a c L) : L.length ≤ 9223372036854775807 := by
  have := (h.sl (X' := []) (Sub.nil _) (by simp)).len
  exact this
theorem Own.cap (h : Own R X w base ty a c L) : L.length ≤ c := (h.sl (X' := []) (Sub.nil _) (by simp)).1
end
end Go.Proofs.YtlkfoebophjhfaaGreatDoor
