/- Slices that are full (as long as their room), that are read only and appended to. It speaks of any program; nothing of the claim's own program stands here. -/
import Derived.Test.YtnnbnljofklieaaDoorArr
namespace Go.Proofs.YtnnbnljofklieaaDoor
open Go
section
variable {P : Program} {ops : Array Oper} {Q : Exit → Act → World → Prop} {n : Nat} {f : Nat → Value} {u : List (Nat × Value)} {w : World} {next : Act → World → Prop}
variable {dst : Option Tmp} {ty : TypeId} {pos : String} {aft : Array Edge} {gd : Option (Nat × Bool)}
/-- 'x[:i:i]'. -/
theorem o_slice3F {α : Type} {R : Rep α} {X : List Nat} {t : TypeId} {x hx mx : Operand} {et : TypeId} {a : Option Addr} {m c : Nat} {L : List α} {k k' : IntKind} (hi : Int)
    (ht : P.underlying t = some (.slice et)) (hs : ∀ w, (sizeOf et).run P w = .ok R.n w) (hS : Sl R X w a c L) (hxx : evf n f u x = .slice a m c) (hm : m = L.length)
    (hg : Region.wanted ⟨dst, .slice t x none (some hx) (some mx), ty, pos, aft, gd⟩ (yielded ops (Fr n f u).tmps) = true)
    (hh : evf n f u hx = .int k hi) (hmx : evf n f u mx = .int k' hi) (h1 : 0 ≤ hi ∧ hi ≤ (L.length : Int))
    (h : ∀ a', Sl R X w a' (L.take hi.toNat).length (L.take hi.toNat) → next (Fr n f (pusho dst (.slice a' (L.take hi.toNat).length (L.take hi.toNat).length) u)) w) : OpW P ops Q ⟨dst, .slice t x none (some hx) (some mx), ty, pos, aft, gd⟩ n f u w next := by
  have e : hi = ((hi.toNat : Nat) : Int) := by omega
  have hc := hS.1
  have el : (L.take hi.toNat).length = hi.toNat := by simp; omega
  refine o_slice3 hi.toNat hi.toNat _ ht hs hS hxx hm hg (.inr ⟨k, by show some (evf n f u hx) = _; rw [hh, ← e]⟩) (.inr ⟨k', by show some (evf n f u mx) = _; rw [hmx, ← e]⟩) ⟨Nat.le_refl _, by omega, by omega⟩ rfl fun a' hs' => ?_
  have := h a' (by rw [el]; exact hs')
  rw [el] at this ⊢
  exact this
/-- What is appended, behind what is full: a new block, or nothing is done. -/
theorem run_appF {α : Type} {R : Rep α} {X : List Nat} {t et bytes : TypeId} {a a2 : Option Addr} {c2 : Nat} {L M : List α} (hX : Old X w) (ht : ElemT P t et R.n bytes)
    (hL : Sl R X w a L.length L) (hS : Src R X w a2 c2 M) (hb : (L.length + M.length) * bytes ≤ 140737488355328) :
    ∃ a' c' w', (Builtin.append_ #[t, t] ty #[.slice a L.length L.length, .slice a2 M.length c2]).run P w = .ok (.slice a' (L ++ M).length c') w' ∧ Step X w [] X w' ∧ Sl R X w' a' c' (L ++ M) := by
  obtain ⟨⟨i, z, hi, hz, hsz, hby, hzs⟩, hu, _, hpos, hbp⟩ := ht
  have hlen : L.length + M.length ≤ maxLen := by
    have : L.length + M.length ≤ 140737488355328 := Nat.le_trans (Nat.le_mul_of_pos_right _ hbp) hb
    unfold maxLen; omega
  have hl63 : L.length + M.length ≤ 9223372036854775807 := by unfold maxLen at hlen; omega
  by_cases hM : M = []
  · subst hM
    refine ⟨a, L.length, w, ?_, Step.of0 X (RB.refl _ _ _), by simpa using hL⟩
    rw [List.append_nil]
    have hn : ¬ (9223372036854775807 < (L.length : Int)) := by simp only [List.length_nil, Nat.add_zero] at hl63; omega
    simp [Builtin.append_, run_underlying hu, sizeOf, typeInfo, hi, Builtin.lenOf, Builtin.firstCells, loadCells, loadCellsFrom]
    cases a with
    | some ad => cases a2 <;> simp [storeCells]
    | none =>
      have h0 : L = [] := by
        rcases hL.2.2 with h | ⟨b, o, xs, h, _⟩
        · exact h.1
        · cases h
      subst h0
      cases a2 <;> simp
  rcases hS with ⟨h, _⟩ | ⟨b2, o2, ys, rfl, hc2, hf2⟩
  · exact absurd h hM
  have hMpos : 0 < M.length := by cases M with | nil => exact absurd rfl hM | cons _ _ => simp
  have mk : ∀ (zs : List Value) (cap : Nat), Flat R X w zs (L ++ M) → (L.length + M.length) ≤ cap → cap ≤ maxLen →
      Step X w [] X (w.drew.alloc (.cells (zs.toArray ++ Builtin.zeroCells z.cells (cap - (L.length + M.length))) et)) ∧ Sl R X (w.drew.alloc (.cells (zs.toArray ++ Builtin.zeroCells z.cells (cap - (L.length + M.length))) et)) (some ⟨w.heap.size, 0, none⟩) cap (L ++ M) := by
    intro zs cap hz1 hcap hcm
    have hev : Evo [] w (w.drew.alloc (.cells (zs.toArray ++ Builtin.zeroCells z.cells (cap - (L.length + M.length))) et)) := ⟨rfl, rfl, rfl, by simp, fun b hb _ => RowKit.Below.heap_alloc w.drew _ b hb⟩
    have hs := Step.of0 X hev
    refine ⟨hs, by rw [List.length_append]; exact hcap, hcm, .inr ⟨w.heap.size, 0, zs, rfl, fun hm => Nat.lt_irrefl _ (hX _ hm), by simp, fun j v hj => ?_, hz1.evo hev (Sub.nil _)⟩⟩
    have hk : Blk (w.drew.alloc (.cells (zs.toArray ++ Builtin.zeroCells z.cells (cap - (L.length + M.length))) et)) w.heap.size (zs ++ (Builtin.zeroCells z.cells (cap - (L.length + M.length))).toList) et := by
      have := Blk.new w.drew (zs.toArray ++ Builtin.zeroCells z.cells (cap - (L.length + M.length))) et
      simpa using this
    rw [Nat.zero_add, hk.cell, List.getElem?_append_left (by
      rcases Nat.lt_or_ge j zs.length with h | h
      · exact h
      · simp [List.getElem?_eq_none h] at hj)]
    exact hj
  have cap_ge := grownCap_ge w (L.length + M.length) L.length et
  have cap_le := grownCap_le_maxLen w (L.length + M.length) L.length et hlen
  rcases hL.2.2 with ⟨h0, hcz⟩ | ⟨b, o, xs, rfl, hbX, hbl, hc, hf⟩
  · subst h0
    cases a with
    | none =>
      have hr := run_append_nil (P := P) (w := w) t ty et i z hu hi hz ⟨b2, o2, none⟩ M.length c2 ys (by rw [hsz]; exact hf2.length) (fun j v hj => by rw [Addr_add]; exact hc2 j v hj) hMpos (by simp at hl63; omega) (by
        rw [hby]; simp only [List.length_nil, Nat.zero_add] at hb; omega)
      simp only [List.length_nil, Nat.zero_add] at cap_ge cap_le mk
      obtain ⟨m1, m2⟩ := mk ys _ (by simpa using hf2) cap_ge cap_le
      exact ⟨_, _, _, by simpa using hr, m1, m2⟩
    | some ad =>
      have hr := run_append_grow (P := P) (w := w) t ty et i z hu hi hz ad 0 0 [] (by simp) (fun j v hj => by simp at hj) ⟨b2, o2, none⟩ M.length c2 ys (by rw [hsz]; exact hf2.length) (fun j v hj => by rw [Addr_add]; exact hc2 j v hj) (by omega) (by simp at hl63 ⊢; omega) (by
        rw [hby]; exact growslice_fits (by omega) (by simpa using hb))
      simp only [List.length_nil, Nat.zero_add] at cap_ge cap_le mk
      obtain ⟨m1, m2⟩ := mk ys _ (by simpa using hf2) cap_ge cap_le
      exact ⟨_, _, _, by simpa using hr, m1, m2⟩
  · have hr := run_append_grow (P := P) (w := w) t ty et i z hu hi hz ⟨b, o, none⟩ L.length L.length xs (by rw [hsz]; exact hf.length) (fun j v hj => by rw [Addr_add]; exact hc j v hj) ⟨b2, o2, none⟩ M.length c2 ys (by rw [hsz]; exact hf2.length) (fun j v hj => by rw [Addr_add]; exact hc2 j v hj) (by omega) (by omega) (by
      rw [hby]; exact growslice_fits (by omega) hb)
    obtain ⟨m1, m2⟩ := mk (xs ++ ys) _ (hf.append hf2) cap_ge cap_le
    refine ⟨_, _, _, ?_, m1, m2⟩
    rw [hr]
    simp
theorem o_appF {α : Type} {R : Rep α} {X : List Nat} {t t' et bytes : TypeId} {x y : Operand} {a a2 : Option Addr} {n1 c1 n2 c2 : Nat} {L M : List α}
    (hg : Region.wanted ⟨dst, .call ⟨.builtin .append, #[x, y], #[t, t']⟩, ty, pos, aft, gd⟩ (yielded ops (Fr n f u).tmps) = true)
    (ht : ElemT P t et R.n bytes) (htt : t' = t) (hX : Old X w) (hL : Sl R X w a c1 L) (hc1 : c1 = L.length) (hn1 : n1 = L.length) (hS : Src R X w a2 c2 M) (hn2 : n2 = M.length) (hx : evf n f u x = .slice a n1 c1) (hy : evf n f u y = .slice a2 n2 c2)
    (hb : (L.length + M.length) * bytes ≤ 140737488355328)
    (h : ∀ a' c' w', Step X w [] X w' → Sl R X w' a' c' (L ++ M) → next (Fr n f (pusho dst (.slice a' (L ++ M).length c') u)) w') :
    OpW P ops Q ⟨dst, .call ⟨.builtin .append, #[x, y], #[t, t']⟩, ty, pos, aft, gd⟩ n f u w next := by
  subst hc1; subst hn1; subst hn2; subst htt
  obtain ⟨a', c', w', hr, hs, hS'⟩ := run_appF (P := P) (ty := ty) hX ht hL hS hb
  refine o_val (w' := w') (.slice a' (L ++ M).length c') hg ?_ (h a' c' w' hs hS')
  have hex : (execOp (evf n f u) ⟨dst, .call ⟨.builtin .append, #[x, y], #[t', t']⟩, ty, pos, aft, gd⟩).run P w = ((Builtin.append_ #[t', t'] ty #[.slice a L.length L.length, .slice a2 M.length c2]).run P w).andThen fun v w' => .ok (.value v) w' := by
    unfold execOp
    simp only [resolve, invoke, builtin, Sem.run_bind, Sem.run_pure, Result.andThen_ok, List.map_toArray, List.map_cons, List.map_nil, hx, hy]
  rw [hex, hr]; rfl
end
/-! bytes that are written out, as bytes: the row is marked, and only read from there on -/
section
variable {P : Program} {ops : Array Oper} {Q : Exit → Act → World → Prop} {n : Nat} {f : Nat → Value} {u : List (Nat × Value)} {w : World} {next : Act → World → Prop}
variable {dst : Option Tmp} {ty : TypeId} {pos : String} {aft : Array Edge} {gd : Option (Nat × Bool)}
theorem o_mark {X G : List Nat} {B : Nat} {t et : TypeId} {x : Operand} {b m c : Nat} {L : List Int} (hg : Region.wanted ⟨dst, .convert t t x, ty, pos, aft, gd⟩ (yielded ops (Fr n f u).tmps) = true)
    (ht : P.underlying t = some (.slice et)) (he : P.underlying et = some (.int .u8)) (hO : OS (rInt .u8) G B X w et (some ⟨b, 0, none⟩) m c L) (hx : evf n f u x = .slice (some ⟨b, 0, none⟩) m c)
    (h : ∀ w' X1, Step X w [b] X w' → Sub X1 X → Sl (rInt .u8) X1 w' (some ⟨b, 0, none⟩) c L → (∀ l, Ap l [b] → Sub l X → Sub l X1) → next (Fr n f (pusho dst (.slice (some ⟨b, 0, none⟩) m c) u)) w') :
    OpW P ops Q ⟨dst, .convert t t x, ty, pos, aft, gd⟩ n f u w next := by
  obtain ⟨rfl, ⟨_, hmem, xs, ho, hf⟩, hW⟩ := hO
  obtain ⟨hxl, h2⟩ := ho
  rcases h2 with ⟨h2, _⟩ | ⟨g, cap, cur, hv, _, hg', hnc, hcm, hcs, htake⟩
  · cases h2
  injection hv with e1 e2 e3
  injection e1 with e1; injection e1 with e1 _ _
  subst e1; subst e3
  have hbX : b ∈ X := hmem b (by simp [blkL])
  have hlt : b < w.heap.size := (Array.getElem?_eq_some_iff.1 hg').1
  have hn1 : ¬ ((1 : Nat) = 0) := by decide
  have hE : Evo [b] w (w.freeze ⟨b, cur.size, none⟩ 1) := by
    unfold World.freeze; rw [if_neg hn1]
    refine ⟨rfl, rfl, rfl, by simp, fun k _ hk => ?_⟩
    have : ¬ b = k := fun e => hk (by simp [e])
    simp [Array.getElem?_modify, this]
  have hb' : (w.freeze ⟨b, cur.size, none⟩ 1).heap[b]? = some (.cells cur et (cur.size, cur.size + 1)) := by
    unfold World.freeze; rw [if_neg hn1]
    simp [Array.getElem?_modify, hg']
  have hr : (convert t t (.slice (some ⟨b, 0, none⟩) L.length c)).run P w = .ok (.slice (some ⟨b, 0, none⟩) L.length c) (w.freeze ⟨b, cur.size, none⟩ 1) := by
    simp [convert, run_underlying ht, run_underlying he, markStringish, World.shape?, hg']
  refine o_val (w' := w.freeze ⟨b, cur.size, none⟩ 1) _ hg (by simp [execOp, hx, hr]) (h _ (X.filter fun x => decide (x ≠ b)) (Step.one hE hbX) (fun x hx => (List.mem_filter.1 hx).1) ?_ fun l hl hs x hx => List.mem_filter.2 ⟨hs x hx, ?_⟩)
  · refine ⟨hnc, hcm, .inr ⟨b, 0, xs, rfl, fun hm => ?_, by rw [← Nat.not_le]; intro hle; have := hE.size; omega, fun j v hj => ?_, ?_⟩⟩
    · have := (List.mem_filter.1 hm).2; simp at this
    · have hj2 : cur[j]? = some v := by
        rw [← htake] at hj
        rw [List.getElem?_take] at hj
        split at hj
        · simpa using hj
        · cases hj
      rw [Nat.zero_add]
      simp [World.cell?, hb', hj2]
    · have h3 := Flat.u8 hf
      subst h3
      refine flat_ints L fun y hy => ?_
      obtain ⟨k, hk, rfl⟩ := List.getElem_of_mem hy
      obtain ⟨cs, h4, _⟩ := hf.get k hk
      exact h4.2
  · have := hl x hx; simp at this; simpa using this
end
theorem Sl.u8s {X : List Nat} {w : World} {a : Option Addr} {c : Nat} {L : List Int} {k : IntKind} (h : Sl (rInt k) X w a c L) : ∀ y ∈ L, inR k y := fun y hy => by
  obtain ⟨i, hi, rfl⟩ := List.getElem_of_mem hy
  obtain ⟨b, o, cs, _, _, _, h1, _⟩ := h.at i hi
  exact h1.2
/-! what comes of a region is told to what follows, whatever it is -/
theorem yon0  {R : Prop} {A : (Prop) → Prop} (h : ∀ k : Prop, (R  → k ) → A k) : ∃ k : Prop, (k  → R ) ∧ A k := ⟨R, fun  h => h, h R fun  h => h⟩
theorem yon1 {α0 : Type} {R : α0 → Prop} {A : (α0 → Prop) → Prop} (h : ∀ k : α0 → Prop, (∀ v0, R v0 → k v0) → A k) : ∃ k : α0 → Prop, (∀ v0, k v0 → R v0) ∧ A k := ⟨R, fun _  h => h, h R fun _  h => h⟩
theorem yon2 {α0 : Type} {α1 : Type} {R : α0 → α1 → Prop} {A : (α0 → α1 → Prop) → Prop} (h : ∀ k : α0 → α1 → Prop, (∀ v0 v1, R v0 v1 → k v0 v1) → A k) : ∃ k : α0 → α1 → Prop, (∀ v0 v1, k v0 v1 → R v0 v1) ∧ A k := ⟨R, fun _ _  h => h, h R fun _ _  h => h⟩
theorem yon3 {α0 : Type} {α1 : Type} {α2 : Type} {R : α0 → α1 → α2 → Prop} {A : (α0 → α1 → α2 → Prop) → Prop} (h : ∀ k : α0 → α1 → α2 → Prop, (∀ v0 v1 v2, R v0 v1 v2 → k v0 v1 v2) → A k) : ∃ k : α0 → α1 → α2 → Prop, (∀ v0 v1 v2, k v0 v1 v2 → R v0 v1 v2) ∧ A k := ⟨R, fun _ _ _  h => h, h R fun _ _ _  h => h⟩
theorem yon4 {α0 : Type} {α1 : Type} {α2 : Type} {α3 : Type} {R : α0 → α1 → α2 → α3 → Prop} {A : (α0 → α1 → α2 → α3 → Prop) → Prop} (h : ∀ k : α0 → α1 → α2 → α3 → Prop, (∀ v0 v1 v2 v3, R v0 v1 v2 v3 → k v0 v1 v2 v3) → A k) : ∃ k : α0 → α1 → α2 → α3 → Prop, (∀ v0 v1 v2 v3, k v0 v1 v2 v3 → R v0 v1 v2 v3) ∧ A k := ⟨R, fun _ _ _ _  h => h, h R fun _ _ _ _  h => h⟩
theorem yon5 {α0 : Type} {α1 : Type} {α2 : Type} {α3 : Type} {α4 : Type} {R : α0 → α1 → α2 → α3 → α4 → Prop} {A : (α0 → α1 → α2 → α3 → α4 → Prop) → Prop} (h : ∀ k : α0 → α1 → α2 → α3 → α4 → Prop, (∀ v0 v1 v2 v3 v4, R v0 v1 v2 v3 v4 → k v0 v1 v2 v3 v4) → A k) : ∃ k : α0 → α1 → α2 → α3 → α4 → Prop, (∀ v0 v1 v2 v3 v4, k v0 v1 v2 v3 v4 → R v0 v1 v2 v3 v4) ∧ A k := ⟨R, fun _ _ _ _ _  h => h, h R fun _ _ _ _ _  h => h⟩
theorem yon6 {α0 : Type} {α1 : Type} {α2 : Type} {α3 : Type} {α4 : Type} {α5 : Type} {R : α0 → α1 → α2 → α3 → α4 → α5 → Prop} {A : (α0 → α1 → α2 → α3 → α4 → α5 → Prop) → Prop} (h : ∀ k : α0 → α1 → α2 → α3 → α4 → α5 → Prop, (∀ v0 v1 v2 v3 v4 v5, R v0 v1 v2 v3 v4 v5 → k v0 v1 v2 v3 v4 v5) → A k) : ∃ k : α0 → α1 → α2 → α3 → α4 → α5 → Prop, (∀ v0 v1 v2 v3 v4 v5, k v0 v1 v2 v3 v4 v5 → R v0 v1 v2 v3 v4 v5) ∧ A k := ⟨R, fun _ _ _ _ _ _  h => h, h R fun _ _ _ _ _ _  h => h⟩
theorem yon7 {α0 : Type} {α1 : Type} {α2 : Type} {α3 : Type} {α4 : Type} {α5 : Type} {α6 : Type} {R : α0 → α1 → α2 → α3 → α4 → α5 → α6 → Prop} {A : (α0 → α1 → α2 → α3 → α4 → α5 → α6 → Prop) → Prop} (h : ∀ k : α0 → α1 → α2 → α3 → α4 → α5 → α6 → Prop, (∀ v0 v1 v2 v3 v4 v5 v6, R v0 v1 v2 v3 v4 v5 v6 → k v0 v1 v2 v3 v4 v5 v6) → A k) : ∃ k : α0 → α1 → α2 → α3 → α4 → α5 → α6 → Prop, (∀ v0 v1 v2 v3 v4 v5 v6, k v0 v1 v2 v3 v4 v5 v6 → R v0 v1 v2 v3 v4 v5 v6) ∧ A k := ⟨R, fun _ _ _ _ _ _ _  h => h, h R fun _ _ _ _ _ _ _  h => h⟩
theorem yon8 {α0 : Type} {α1 : Type} {α2 : Type} {α3 : Type} {α4 : Type} {α5 : Type} {α6 : Type} {α7 : Type} {R : α0 → α1 → α2 → α3 → α4 → α5 → α6 → α7 → Prop} {A : (α0 → α1 → α2 → α3 → α4 → α5 → α6 → α7 → Prop) → Prop} (h : ∀ k : α0 → α1 → α2 → α3 → α4 → α5 → α6 → α7 → Prop, (∀ v0 v1 v2 v3 v4 v5 v6 v7, R v0 v1 v2 v3 v4 v5 v6 v7 → k v0 v1 v2 v3 v4 v5 v6 v7) → A k) : ∃ k : α0 → α1 → α2 → α3 → α4 → α5 → α6 → α7 → Prop, (∀ v0 v1 v2 v3 v4 v5 v6 v7, k v0 v1 v2 v3 v4 v5 v6 v7 → R v0 v1 v2 v3 v4 v5 v6 v7) ∧ A k := ⟨R, fun _ _ _ _ _ _ _ _  h => h, h R fun _ _ _ _ _ _ _ _  h => h⟩
theorem apge {w : World} {B b : Nat} (h : ∀ l, Old l w → Ap l [b]) (hB : B ≤ w.heap.size) : B ≤ b := by
  rcases Nat.lt_or_ge b B with hb | hb
  · exact absurd (List.mem_cons_self) (h (List.range B) (fun x hx => Nat.lt_of_lt_of_le (List.mem_range.1 hx) hB) b (List.mem_range.2 hb))
  · exact hb
end Go.Proofs.YtnnbnljofklieaaDoor
