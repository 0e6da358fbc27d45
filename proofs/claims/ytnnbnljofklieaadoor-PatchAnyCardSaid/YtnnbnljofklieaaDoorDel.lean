/- Rows known whole, written by copy, append, clear; a row of zero values that is grown out of nothing. It speaks of any program; nothing of the claim's own program stands here. -/
import Derived.Test.YtnnbnljofklieaaDoorStEq
import Derived.Lib.AppendZerosOnto
namespace Go.Proofs.YtnnbnljofklieaaDoor
open Go
section
variable {P : Program} {w : World}
theorem run_copy_at {dT sT ty et : TypeId} {i : TypeInfo} (hu : P.underlying dT = some (.slice et)) (hi : P.info? et = some i) (g o : Nat) (cur : Array Value) (t : TypeId) (hg : w.heap[g]? = some (.cells cur t (0, 0)))
    (dLen dCap sLen sCap : Nat) (a : Addr) (news : List Value) (hn : news.length = Nat.min sLen dLen * i.size) (hsrc : ∀ j v, news[j]? = some v → w.cell? (a.add j) = some v) (h1 : ∀ v ∈ news, v.oneCell' = true) (hfit : o + news.length ≤ cur.size) :
    (Builtin.copy_ #[dT, sT] ty #[.slice (some ⟨g, o, none⟩) dLen dCap, .slice (some a) sLen sCap]).run P w = .ok (goInt (Nat.min sLen dLen)) (w.setRow g (cur.toList.take o ++ news ++ cur.toList.drop (o + news.length)).toArray) := by
  have hl := run_loadCells_list (P := P) w a news hsrc
  rw [hn] at hl
  have hst := run_storeCells_at (P := P) g o t news 0 cur w hg (by simpa using hfit) h1
  simp only [Nat.add_zero] at hst
  simp [Builtin.copy_, run_underlying hu, Builtin.lenOf, Builtin.firstCells, sizeOf, typeInfo, hi, hl, hst]
theorem zeroCells_length (z : Array Value) (n : Nat) : (Builtin.zeroCells z n).toList.length = n * z.size := by simp [Builtin.zeroCells]
theorem zeroCells_one {z : Array Value} (hz : 0 < z.size) (h : ∀ v ∈ z.toList, v.oneCell' = true) (n : Nat) : ∀ v ∈ (Builtin.zeroCells z n).toList, v.oneCell' = true := by
  intro v hv
  simp only [Builtin.zeroCells, Array.toList_map, List.mem_map] at hv
  obtain ⟨j, _, rfl⟩ := hv
  have hlt : j % z.size < z.size := Nat.mod_lt _ hz
  rw [getElem!_pos z (j % z.size) hlt]
  exact h _ (by simp)
theorem blk_setRow {g : Nat} {cs cs' : List Value} {t : TypeId} (h : Blk w g cs t) : Blk (w.setRow g cs'.toArray) g cs' t := setRow_heap w g _ _ _ _ h
theorem evo_setRow (g : Nat) (r : Array Value) : Evo [g] w (w.setRow g r) := ⟨rfl, rfl, rfl, by simp, fun k _ hk => setRow_other w g k _ (fun e => hk (by simp [e]))⟩
end
section
variable {P : Program} {ops : Array Oper} {Q : Exit → Act → World → Prop} {n : Nat} {f : Nat → Value} {u : List (Nat × Value)} {w : World} {next : Act → World → Prop}
variable {dst : Option Tmp} {ty : TypeId} {pos : String} {aft : Array Edge} {gd : Option (Nat × Bool)}
/-- 'x[lo:hi]', its address worked out. -/
theorem x_sliceA {t : TypeId} {x : Operand} {et : TypeId} {sz : Nat} {b o m c : Nat} (lo hi : Nat) {lx hx : Option Operand} (ht : P.underlying t = some (.slice et)) (hs : ∀ w, (sizeOf et).run P w = .ok sz w)
    (hxx : evf n f u x = .slice (some ⟨b, o, none⟩) m c)
    (hl : (lx.map (evf n f u) = none ∧ lo = 0) ∨ ∃ k, lx.map (evf n f u) = some (.int k (lo : Int)))
    (hh : (hx.map (evf n f u) = none ∧ hi = m ∧ (none : Option Operand) = none) ∨ ∃ k, hx.map (evf n f u) = some (.int k (hi : Int))) (hmm : m ≤ c) (h1 : lo ≤ hi) (h2 : hi ≤ c) (h3 : lo ≠ c) :
    (execOp (evf n f u) ⟨dst, .slice t x lx hx none, ty, pos, aft, gd⟩).run P w = .ok (.value (.slice (some ⟨b, o + lo * sz, none⟩) (hi - lo) (c - lo))) w := by
  have h := x_slice (dst := dst) (ty := ty) (pos := pos) (aft := aft) (gd := gd) (w := w) (mx := c) ht hs hxx hl hh (.inl ⟨rfl, rfl⟩) hmm h1 h2 (Nat.le_refl _)
  rw [if_neg (fun e => h3 e.symm)] at h
  simpa [Addr_add] using h
/-- 'copy(x, y)' into a row known whole. -/
theorem o_copyB {X G : List Nat} {B g o : Nat} {t t' et : TypeId} {rt : TypeId} {x y : Operand} {cs : List Value} {i : TypeInfo} {dLen dCap sLen sCap : Nat} {a : Addr} (news : List Value) (k : Nat)
    (hg : Region.wanted ⟨dst, .call ⟨.builtin .copy, #[x, y], #[t, t']⟩, ty, pos, aft, gd⟩ (yielded ops (Fr n f u).tmps) = true)
    (hO : OB G B X w g cs rt) (hu : P.underlying t = some (.slice et)) (hi : P.info? et = some i) (hx : evf n f u x = .slice (some ⟨g, o, none⟩) dLen dCap) (hy : evf n f u y = .slice (some a) sLen sCap)
    (hk : Nat.min sLen dLen = k) (hn : news.length = k * i.size) (hsrc : ∀ j v, news[j]? = some v → w.cell? (a.add j) = some v) (h1 : ∀ v ∈ news, v.oneCell' = true) (hfit : o + news.length ≤ cs.length)
    (h : ∀ w', Step X w [g] X w' → OB G B X w' g (cs.take o ++ news ++ cs.drop (o + news.length)) rt → next (Fr n f (pusho dst (.int .i64 (k : Int)) u)) w') :
    OpW P ops Q ⟨dst, .call ⟨.builtin .copy, #[x, y], #[t, t']⟩, ty, pos, aft, gd⟩ n f u w next := by
  subst hk
  obtain ⟨hgX, hb, hw⟩ := hO
  have hr := run_copy_at (P := P) (ty := ty) (sT := t') hu hi g o cs.toArray rt hb dLen dCap sLen sCap a news hn hsrc h1 (by simpa using hfit)
  refine o_val (w' := w.setRow g (cs.take o ++ news ++ cs.drop (o + news.length)).toArray) _ hg ?_ (h _ (Step.one (evo_setRow g _) hgX) ⟨hgX, blk_setRow hb, hw⟩)
  have hex : (execOp (evf n f u) ⟨dst, .call ⟨.builtin .copy, #[x, y], #[t, t']⟩, ty, pos, aft, gd⟩).run P w = ((Builtin.copy_ #[t, t'] ty #[.slice (some ⟨g, o, none⟩) dLen dCap, .slice (some a) sLen sCap]).run P w).andThen fun v w' => .ok (.value v) w' := by
    unfold execOp
    simp only [resolve, invoke, builtin, Sem.run_bind, Sem.run_pure, Result.andThen_ok, List.map_toArray, List.map_cons, List.map_nil, hx, hy]
  rw [hex, hr]; rfl
/-- 'append(x, y...)' within a row known whole. -/
theorem o_appB {X G : List Nat} {B g : Nat} {t rt : TypeId} {x y : Operand} {cs : List Value} {i : TypeInfo} {m c k c2 : Nat} {a : Addr} (news : List Value)
    (hg : Region.wanted ⟨dst, .call ⟨.builtin .append, #[x, y], #[t, t]⟩, ty, pos, aft, gd⟩ (yielded ops (Fr n f u).tmps) = true)
    (hO : OB G B X w g cs rt) (hu : P.underlying t = some (.slice rt)) (hi : P.info? rt = some i) (hx : evf n f u x = .slice (some ⟨g, 0, none⟩) m c) (hy : evf n f u y = .slice (some a) k c2)
    (hn : news.length = k * i.size) (hsrc : ∀ j v, news[j]? = some v → w.cell? (a.add j) = some v) (h1 : ∀ v ∈ news, v.oneCell' = true) (hroom : m + k ≤ c) (hfit : m * i.size + news.length ≤ cs.length)
    (h : ∀ w', Step X w [g] X w' → OB G B X w' g (cs.take (m * i.size) ++ news ++ cs.drop (m * i.size + news.length)) rt → next (Fr n f (pusho dst (.slice (some ⟨g, 0, none⟩) (m + k) c) u)) w') :
    OpW P ops Q ⟨dst, .call ⟨.builtin .append, #[x, y], #[t, t]⟩, ty, pos, aft, gd⟩ n f u w next := by
  obtain ⟨hgX, hb, hw⟩ := hO
  have hr := run_append_room (P := P) w t ty rt i hu hi g m c cs.toArray hb a k c2 news hn hsrc h1 hroom (by simpa using hfit)
  refine o_val (w' := w.setRow g (cs.take (m * i.size) ++ news ++ cs.drop (m * i.size + news.length)).toArray) _ hg ?_ (h _ (Step.one (evo_setRow g _) hgX) ⟨hgX, blk_setRow hb, hw⟩)
  have hex : (execOp (evf n f u) ⟨dst, .call ⟨.builtin .append, #[x, y], #[t, t]⟩, ty, pos, aft, gd⟩).run P w = ((Builtin.append_ #[t, t] ty #[.slice (some ⟨g, 0, none⟩) m c, .slice (some a) k c2]).run P w).andThen fun v w' => .ok (.value v) w' := by
    unfold execOp
    simp only [resolve, invoke, builtin, Sem.run_bind, Sem.run_pure, Result.andThen_ok, List.map_toArray, List.map_cons, List.map_nil, hx, hy]
  rw [hex, hr]; rfl
theorem append_tt {t t' et et' : TypeId} (ht : P.underlying t = some (.slice et)) (ht' : P.underlying t' = some (.slice et')) (ty : TypeId) (a : Option Addr) (m c : Nat) (y : Value) : (Builtin.append_ #[t, t'] ty #[.slice a m c, y]).run P w = (Builtin.append_ #[t, t] ty #[.slice a m c, y]).run P w := by
  simp [Builtin.append_, run_underlying ht, run_underlying ht']
/-- 'append(x, y...)' where x is full: a new row; the two may be of two types. -/
theorem o_appF2 {α : Type} {R : Rep α} {X : List Nat} {t t' et et' bytes : TypeId} {x y : Operand} {a a2 : Option Addr} {c2 : Nat} {L M : List α}
    (hg : Region.wanted ⟨dst, .call ⟨.builtin .append, #[x, y], #[t, t']⟩, ty, pos, aft, gd⟩ (yielded ops (Fr n f u).tmps) = true)
    (ht : ElemT P t et R.n bytes) (hu : P.underlying t = some (.slice et)) (hu' : P.underlying t' = some (.slice et')) (hX : Old X w) (hL : Sl R X w a L.length L) (hS : Src R X w a2 c2 M) (hx : evf n f u x = .slice a L.length L.length) (hy : evf n f u y = .slice a2 M.length c2)
    (hb : (L.length + M.length) * bytes ≤ 140737488355328)
    (h : ∀ a' c' w', Step X w [] X w' → Sl R X w' a' c' (L ++ M) → next (Fr n f (pusho dst (.slice a' (L ++ M).length c') u)) w') :
    OpW P ops Q ⟨dst, .call ⟨.builtin .append, #[x, y], #[t, t']⟩, ty, pos, aft, gd⟩ n f u w next := by
  obtain ⟨a', c', w', hr, hs, hS'⟩ := run_appF (P := P) (ty := ty) hX ht hL hS hb
  refine o_val (w' := w') (.slice a' (L ++ M).length c') hg ?_ (h a' c' w' hs hS')
  have hex : (execOp (evf n f u) ⟨dst, .call ⟨.builtin .append, #[x, y], #[t, t']⟩, ty, pos, aft, gd⟩).run P w = ((Builtin.append_ #[t, t'] ty #[.slice a L.length L.length, .slice a2 M.length c2]).run P w).andThen fun v w' => .ok (.value v) w' := by
    unfold execOp
    simp only [resolve, invoke, builtin, Sem.run_bind, Sem.run_pure, Result.andThen_ok, List.map_toArray, List.map_cons, List.map_nil, hx, hy]
  rw [hex, append_tt hu hu', hr]; rfl
/-- 'clear(x)' of a part of a row known whole. -/
theorem o_clearB {X G : List Nat} {B g o : Nat} {t et rt : TypeId} {x : Operand} {cs : List Value} {m c : Nat} (z : Value)
    (hg : Region.wanted ⟨dst, .call ⟨.builtin .clear, #[x], #[t]⟩, ty, pos, aft, gd⟩ (yielded ops (Fr n f u).tmps) = true)
    (hO : OB G B X w g cs rt) (hu : P.underlying t = some (.slice et)) (hx : evf n f u x = .slice (some ⟨g, o, none⟩) m c) (hm : 0 < m)
    (hv : ∀ w, (zeroValue et).run P w = .ok z w) (hz : 0 < z.cells.size) (h1 : ∀ v ∈ z.cells.toList, v.oneCell' = true) (hfit : o + m * z.cells.size ≤ cs.length)
    (h : ∀ w' news, Step X w [g] X w' → news.length = m * z.cells.size → OB G B X w' g (cs.take o ++ news ++ cs.drop (o + news.length)) rt → next (Fr n f (pusho dst (.tuple #[]) u)) w') :
    OpW P ops Q ⟨dst, .call ⟨.builtin .clear, #[x], #[t]⟩, ty, pos, aft, gd⟩ n f u w next := by
  obtain ⟨hgX, hb, hw⟩ := hO
  have hlen := zeroCells_length z.cells m
  have hst := run_storeCells_at (P := P) g o rt (Builtin.zeroCells z.cells m).toList 0 cs.toArray w hb (by rw [hlen]; simpa using hfit) (zeroCells_one hz h1 m)
  simp only [Nat.add_zero] at hst
  obtain ⟨q, rfl⟩ : ∃ q, m = q + 1 := ⟨m - 1, by omega⟩
  refine o_val (w' := w.setRow g (cs.take o ++ (Builtin.zeroCells z.cells (q + 1)).toList ++ cs.drop (o + (Builtin.zeroCells z.cells (q + 1)).toList.length)).toArray) _ hg ?_ (h _ _ (Step.one (evo_setRow g _) hgX) hlen ⟨hgX, blk_setRow hb, hw⟩)
  unfold execOp
  simp only [resolve, invoke, builtin, Sem.run_bind, Sem.run_pure, Result.andThen_ok, List.map_toArray, List.map_cons, List.map_nil, hx]
  simp [Builtin.clear_, run_underlying hu, hv, hst]
/-- 'append(x[:0], make(..)...)' where there is no room: a new row. -/
theorem o_appZ {X : List Nat} {B : Nat} {t tn et : TypeId} {kn kq : IntKind} {x y : Operand} {a : Option Addr} {c k : Nat} {sz bytes : Nat} (hB : B ≤ w.heap.size)
    (hg : Region.wanted ⟨dst, .call ⟨.builtin .append, #[x, y], #[t, tn]⟩, ty, pos, aft, gd⟩ (yielded ops (Fr n f u).tmps) = true)
    (ht : ElemT P t et sz bytes) (htn : P.underlying tn = some (.int kn)) (hx : evf n f u x = .slice a 0 c) (hy : evf n f u y = .int kq (k : Int)) (hck : c < k) (hb : k * bytes ≤ 140737488355328)
    (h : ∀ b cap w' cs X', Step X w [] X' w' → OB [] B X' w' b cs et → cs.length = cap * sz → k ≤ cap → cap ≤ maxLen → (∀ l, Old l w → Ap l [b]) → next (Fr n f (pusho dst (.slice (some ⟨b, 0, none⟩) k cap) u)) w') :
    OpW P ops Q ⟨dst, .call ⟨.builtin .append, #[x, y], #[t, tn]⟩, ty, pos, aft, gd⟩ n f u w next := by
  obtain ⟨⟨i, z, hi, hz, hsz, hby, hzs⟩, hu, _, hpos, hbp⟩ := ht
  have hk47 : k ≤ 140737488355328 := Nat.le_trans (Nat.le_mul_of_pos_right _ hbp) hb
  have hold : (Builtin.firstCells i.size 0 (.slice a 0 c)).run P w.drew = .ok (([] : List Value).toArray) w.drew := by
    cases a with
    | none => exact run_firstCells_none (P := P) (w := w.drew) _ _ _ _
    | some ad => exact run_firstCells_some (P := P) w.drew _ 0 ad 0 c [] (by simp) (fun j v hj => by simp at hj)
  have hr := Lib.run_append_grow_zeros (P := P) w t tn ty et i z kq kn hu htn hi hz a 0 c [] hold k (by omega) (by omega) (by omega) (by omega) (by rw [hby]; omega) (by rw [hby, Nat.zero_add]; exact growslice_fits hck hb)
  simp only [Nat.zero_add] at hr
  have cap_ge := grownCap_ge w k c et
  have cap_le := grownCap_le_maxLen w k c et (by unfold maxLen; omega)
  generalize hcap : grownCap w k c et = cap at hr cap_ge cap_le
  have hev : ∀ row, Evo [] w (w.drew.alloc (.cells row et)) := fun row => ⟨rfl, rfl, rfl, by simp, fun b hb _ => RowKit.Below.heap_alloc w.drew _ b hb⟩
  have hbk := Blk.new w.drew (([] : List Value).toArray ++ Builtin.zeroCells z.cells k ++ Builtin.zeroCells z.cells (cap - k)) et
  obtain ⟨s, o, p⟩ := ob_new (X := X) (b := w.heap.size) hB rfl (hev _) hbk
  refine o_val (w' := _) (.slice (some ⟨w.heap.size, 0, none⟩) k cap) hg ?_ (h _ cap _ _ _ s o ?_ cap_ge cap_le p)
  · have hex : (execOp (evf n f u) ⟨dst, .call ⟨.builtin .append, #[x, y], #[t, tn]⟩, ty, pos, aft, gd⟩).run P w = ((Builtin.append_ #[t, tn] ty #[.slice a 0 c, .int kq (k : Int)]).run P w).andThen fun v w' => .ok (.value v) w' := by
      unfold execOp
      simp only [resolve, invoke, builtin, Sem.run_bind, Sem.run_pure, Result.andThen_ok, List.map_toArray, List.map_cons, List.map_nil, hx, hy]
    rw [hex, hr]; rfl
  · have e1 := zeroCells_length z.cells k
    have e2 := zeroCells_length z.cells (cap - k)
    rw [hzs] at e1 e2
    simp only [Array.toList_append, List.length_append, List.length_nil, Nat.zero_add] at e1 e2 ⊢
    rw [e1, e2, ← Nat.add_mul]
    congr 1; omega
end
section
variable {α : Type} {R : Rep α} {X X' F G : List Nat} {w w' : World} {B b n c : Nat} {cs : List Value} {ty : TypeId} {a : Option Addr} {L : List α}
/-- A slice of ours that has something is a row known whole. -/
theorem OS.row (h : OS R G B X w ty a n c L) (h0 : L ≠ []) : ∃ g cs, a = some ⟨g, 0, none⟩ ∧ OB G B X w g cs ty ∧ cs.length = c * R.n ∧ L.length ≤ c ∧ c ≤ maxLen ∧ Flat R X w (cs.take (L.length * R.n)) L := by
  obtain ⟨hn, ⟨hb, hmem, xs, ho, hx⟩, hw⟩ := h
  rcases ho.2 with ⟨_, h2⟩ | ⟨g, cap, cur, hv, hbg, hg, hnc, hcm, hcs, htake⟩
  · exact absurd (List.eq_nil_of_length_eq_zero h2) h0
  · injection hv with e1 e2 e3
    subst e1; subst e3
    exact ⟨g, cur.toList, rfl, ⟨hmem g (by simp [blkL]), by unfold Blk; simpa using hg, hw⟩, by simpa using hcs, hnc, hcm, by rw [htake]; exact hx⟩
/-- A new row, read. -/
theorem OB.slX {X0 : List Nat} (h : OB [] B X w b cs ty) (h0 : ∀ x ∈ X0, x < B) (xs : List Value) (hc : ∀ (j : Nat) (v : Value), xs[j]? = some v → cs[j]? = some v) (hf : Flat R X0 w xs L) (h1 : L.length ≤ c) (h2 : c ≤ maxLen) : Sl R X0 w (some ⟨b, 0, none⟩) c L :=
  ⟨h1, h2, .inr ⟨b, 0, xs, rfl, h.notin h0, h.2.1.lt, fun j v hj => by rw [Nat.zero_add, h.2.1.cell]; exact hc j v hj, hf⟩⟩
/-- What a slice that has something holds. -/
theorem Sl.row (h : Sl R X w a c L) (h0 : L ≠ []) : ∃ g o xs, a = some ⟨g, o, none⟩ ∧ CellsAt w g o xs ∧ Flat R X w xs L := by
  rcases h.2.2 with ⟨h1, _⟩ | ⟨g, o, xs, rfl, _, _, hc, hf⟩
  · exact absurd h1 h0
  · exact ⟨g, o, xs, rfl, hc, hf⟩
theorem Sl.full (h : Sl R X w a c L) : Sl R X w a L.length L := h.clip
/-- Two rows written one behind the other. -/
theorem ins_at {x y z : List Value} {m : Nat} (hm : x.length = m) (cs : List Value) (he : cs = (([] : List Value) ++ x ++ z).take m ++ y ++ (([] : List Value) ++ x ++ z).drop (m + y.length)) : ∀ (j : Nat) (v : Value), (x ++ y)[j]? = some v → cs[j]? = some v := by
  intro j v hj
  subst hm
  rw [he, List.nil_append, List.take_left', List.getElem?_append_left (by
    rcases Nat.lt_or_ge j (x ++ y).length with h | h
    · exact h
    · simp [List.getElem?_eq_none h] at hj)]
  exact hj
  rfl
/-- What is kept when a row that is ours is only read from here on. -/
theorem OB.rel (h : OB [] B X w b cs ty) (o : Nat) (xs : List Value) (hc : ∀ j v, xs[j]? = some v → cs[o + j]? = some v) (hf : Flat R X w xs L) (h1 : L.length ≤ c) (h2 : c ≤ maxLen) :
    ∃ X1, Sub X1 X ∧ Sl R X1 w (some ⟨b, o, none⟩) c L ∧ (∀ l, Ap l [b] → Sub l X → Sub l X1) := by
  refine ⟨X.filter fun x => decide (x ≠ b), fun x hx => (List.mem_filter.1 hx).1, ⟨h1, h2, .inr ⟨b, o, xs, rfl, fun hm => ?_, h.2.1.lt, fun j v hj => ?_, hf.sub fun x hx => .inl (List.mem_filter.1 hx).1⟩⟩, fun l hl hs x hx => List.mem_filter.2 ⟨hs x hx, ?_⟩⟩
  · have := (List.mem_filter.1 hm).2; simp at this
  · rw [h.2.1.cell]; exact hc j v hj
  · have := hl x hx; simp at this; simpa using this
end
end Go.Proofs.YtnnbnljofklieaaDoor
