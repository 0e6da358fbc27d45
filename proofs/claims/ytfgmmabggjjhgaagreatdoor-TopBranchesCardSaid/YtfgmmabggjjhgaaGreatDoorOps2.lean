/- More laws of operations: rows that are made, elements that are stored, an error held against nil. It speaks of any program; nothing of the claim's own program stands here. -/
import Derived.Test.YtfgmmabggjjhgaaGreatDoorMem
import Derived.Laws.BytesArg
import Derived.OwnWalk
namespace Go.Proofs.YtfgmmabggjjhgaaGreatDoor
open Go

section
variable {P : Program} {ops : Array Oper} {Q : Exit → Act → World → Prop} {n : Nat} {f : Nat → Value} {u : List (Nat × Value)} {w : World} {next : Act → World → Prop}
variable {dst : Option Tmp} {ty : TypeId} {pos : String} {aft : Array Edge} {gd : Option (Nat × Bool)}

/-- A new block: a variable, a box. -/
theorem o_new {op : Op} (cs : List Value) (t : TypeId) (hg : Region.wanted ⟨dst, op, ty, pos, aft, gd⟩ (yielded ops (Fr n f u).tmps) = true)
    (hr : (execOp (evf n f u) ⟨dst, op, ty, pos, aft, gd⟩).run P w = .ok (.value (.pointer (some ⟨w.heap.size, 0, none⟩))) (w.alloc (.cells cs.toArray t)))
    (h : ∀ b w', b = w.heap.size → Evo [] w w' → Blk w' b cs t → next (Fr n f (pusho dst (.pointer (some ⟨b, 0, none⟩)) u)) w') : OpW P ops Q ⟨dst, op, ty, pos, aft, gd⟩ n f u w next :=
  o_val _ hg hr (h _ _ rfl (Evo.alloc _ _) (by have := Blk.new w cs.toArray t; simpa using this))

/-- A new row: a slice that is written out. -/
theorem o_row {op : Op} (cs : List Value) (t : TypeId) (m : Nat) (hg : Region.wanted ⟨dst, op, ty, pos, aft, gd⟩ (yielded ops (Fr n f u).tmps) = true)
    (hr : (execOp (evf n f u) ⟨dst, op, ty, pos, aft, gd⟩).run P w = .ok (.value (.slice (some ⟨w.heap.size, 0, none⟩) m m)) (w.alloc (.cells cs.toArray t)))
    (h : ∀ b w', b = w.heap.size → Evo [] w w' → Blk w' b cs t → next (Fr n f (pusho dst (.slice (some ⟨b, 0, none⟩) m m) u)) w') : OpW P ops Q ⟨dst, op, ty, pos, aft, gd⟩ n f u w next :=
  o_val _ hg hr (h _ _ rfl (Evo.alloc _ _) (by have := Blk.new w cs.toArray t; simpa using this))

theorem ble_le {a b : Nat} (h : Nat.ble a b = true) : a ≤ b := by rwa [Nat.ble_eq] at h
theorem Addr_add (b o k : Nat) : (⟨b, o, none⟩ : Addr).add k = ⟨b, o + k, none⟩ := by unfold Addr.add; split <;> simp_all

/-! loads -/
theorem x_load1 {t : TypeId} {x : Operand} {ad : Addr} {v : Value} (hx : evf n f u x = .pointer (some ad)) (ha : ∀ w, (isAgg t).run P w = .ok false w) (hc : w.cell? ad = some v) :
    (execOp (evf n f u) ⟨dst, .load t x, ty, pos, aft, gd⟩).run P w = .ok (.value v) w := by
  simp [execOp, Instr.loadAt, Instr.sureAddr, hx, loadVar, ha, hc]
theorem loadCells_at (b o : Nat) (xs : List Value) (hc : CellsAt w b o xs) : (loadCells ⟨b, o, none⟩ xs.length).run P w = .ok xs.toArray w := by
  have key : ∀ (ys : List Value) (i : Nat) (acc : Array Value), (∀ (j : Nat) (u : Value), ys[j]? = some u → w.cell? ⟨b, o + (i + j), none⟩ = some u) →
      (loadCellsFrom ⟨b, o, none⟩ i ys.length acc).run P w = .ok (acc ++ ys.toArray) w := by
    intro ys
    induction ys with
    | nil => intro i acc _; simp [loadCellsFrom]
    | cons y ys ih =>
      intro i acc h
      have h0 := h 0 y rfl
      simp only [Nat.add_zero] at h0
      simp only [List.length_cons, loadCellsFrom, Addr_add]
      rw [Sem.run_bind]
      have : (load ⟨b, o + i, none⟩).run P w = .ok y w := by simp [h0]
      rw [this, Result.andThen_ok, ih (i + 1) (acc.push y) (fun j u hj => by have := h (j + 1) u (by simpa using hj); rwa [show i + (j + 1) = i + 1 + j from by omega] at this)]
      simp
  have := key xs 0 #[] (fun j u hj => by rw [Nat.zero_add]; exact hc j u hj)
  simpa [loadCells] using this
theorem x_loadN {t : TypeId} {x : Operand} {b o : Nat} (xs : List Value) (hx : evf n f u x = .pointer (some ⟨b, o, none⟩)) (ha : ∀ w, (isAgg t).run P w = .ok true w) (hs : ∀ w, (sizeOf t).run P w = .ok xs.length w) (hc : CellsAt w b o xs) :
    (execOp (evf n f u) ⟨dst, .load t x, ty, pos, aft, gd⟩).run P w = .ok (.value (.agg xs.toArray)) w := by
  simp [execOp, Instr.loadAt, Instr.sureAddr, hx, loadVar, ha, hs, loadCells_at b o xs hc]
theorem Blk.cells {b : Nat} {cs : List Value} {t : TypeId} (h : Blk w b cs t) (o k : Nat) : CellsAt w b o ((cs.drop o).take k) := fun j u hj => by
  rw [List.getElem?_take] at hj
  split at hj
  · rw [h.cell, ← List.getElem?_drop]; exact hj
  · cases hj
theorem Blk.cells' {b : Nat} {cs xs : List Value} {t : TypeId} (h : Blk w b cs t) (o : Nat) (hx : (cs.drop o).take xs.length = xs) : CellsAt w b o xs := by
  have := h.cells o xs.length; rwa [hx] at this
theorem Blk.cell' {b : Nat} {cs : List Value} {t : TypeId} {v : Value} (h : Blk w b cs t) (o : Nat) (hx : cs[o]? = some v) : w.cell? ⟨b, o, none⟩ = some v := by rw [h.cell, hx]

/-! stores -/
theorem o_store {t bt : TypeId} {x y : Operand} {b o : Nat} {cs : List Value} {v : Value} (cs' : List Value) (hg : Region.wanted ⟨dst, .store t x y, ty, pos, aft, gd⟩ (yielded ops (Fr n f u).tmps) = true)
    (hB : Blk w b cs bt) (hx : evf n f u x = .pointer (some ⟨b, o, none⟩)) (hy : evf n f u y = v) (hs : ∀ w, (sizeOf t).run P w = .ok v.cells.size w)
    (hfit : Nat.ble (o + v.cells.size) cs.length = true) (h1 : v.cells.toList.all Value.oneCell' = true) (hcs : cs.take o ++ v.cells.toList ++ cs.drop (o + v.cells.size) = cs')
    (h : ∀ w', Evo [b] w w' → Blk w' b cs' bt → next (Fr n f (pusho dst undef u)) w') : OpW P ops Q ⟨dst, .store t x y, ty, pos, aft, gd⟩ n f u w next := by
  have hfit' : o + v.cells.size ≤ cs.length := ble_le hfit
  have hst := run_storeCells_at (P := P) b o bt v.cells.toList 0 cs.toArray w hB (by simpa using hfit') (fun u hu => by
    exact List.all_eq_true.1 h1 u hu)
  refine o_skip hg (w' := w.setRow b cs'.toArray) ?_ (h _ ?_ ?_)
  · have e : (cs.toArray.toList.take (o + 0) ++ v.cells.toList ++ cs.toArray.toList.drop (o + 0 + v.cells.toList.length)) = cs' := by
      simpa using hcs
    rw [e] at hst
    simp [execOp, Instr.storeAt, Instr.sureAddr, hx, hy, storeVar, hs, hst]
  · refine ⟨rfl, rfl, rfl, by simp, fun k _ hk => ?_⟩
    exact setRow_other w b k _ (fun e => hk (by simp [e]))
  · exact setRow_heap w b _ _ _ _ hB

/-! slices -/
theorem x_indexAddr {t : TypeId} {x ix : Operand} {b o m c sz i : Nat} {k : IntKind} {e : Int} {et : TypeId} (ht : P.underlying t = some (.slice et)) (hs : ∀ w, (sizeOf et).run P w = .ok sz w)
    (hx : evf n f u x = .slice (some ⟨b, o, none⟩) m c) (hi : evf n f u ix = .int k e) (he : e = (i : Int)) (hlt : i < m) :
    (execOp (evf n f u) ⟨dst, .indexAddr t x ix, ty, pos, aft, gd⟩).run P w = .ok (.value (.pointer (some ⟨b, o + i * sz, none⟩))) w := by
  subst he
  have h0 : (0 : Int) ≤ (i : Int) := Int.natCast_nonneg _
  simp [execOp, Instr.indexAt, asIntOf, hx, hi, run_underlying ht, hlt, hs, Addr_add]

theorem Sl.cut {α : Type} {R : Rep α} {X : List Nat} {a : Option Addr} {c : Nat} {L : List α} (h : Sl R X w a c L) (lo hi : Nat) (h1 : lo ≤ hi) (h2 : hi ≤ L.length) :
    Sl R X w (if c = lo then a else a.map (·.add (lo * R.n))) (c - lo) ((L.take hi).drop lo) := by
  obtain ⟨hc, hm, h3⟩ := h
  refine ⟨by simp; omega, by omega, ?_⟩
  rcases h3 with ⟨rfl, hz⟩ | ⟨b, o, xs, rfl, hb, hl, hcs, hf⟩
  · refine .inl ⟨by simp, ?_⟩
    have : lo = 0 := by simp at h2; omega
    subst this
    split
    · intro; omega
    · intro ha; simp at ha; have := hz ha; omega
  · by_cases he : (L.take hi).drop lo = []
    · refine .inl ⟨he, ?_⟩
      split <;> simp
    · have hlt : lo < c := by
        rcases Nat.lt_or_ge lo c with h | h
        · exact h
        · exact absurd (List.drop_eq_nil_of_le (by simp; omega)) he
      rw [if_neg (by omega)]
      refine .inr ⟨b, o + lo * R.n, (xs.take (hi * R.n)).drop (lo * R.n), by simp [Addr_add], hb, hl, (hcs.take _).drop _, ?_⟩
      exact (hf.take hi).drop lo

theorem x_slice {t : TypeId} {x : Operand} {et : TypeId} {sz : Nat} {a : Option Addr} {m c lo hi mx : Nat} {lx hx mxx : Option Operand} (ht : P.underlying t = some (.slice et)) (hs : ∀ w, (sizeOf et).run P w = .ok sz w)
    (hxx : evf n f u x = .slice a m c)
    (hl : (lx.map (evf n f u) = none ∧ lo = 0) ∨ ∃ k, lx.map (evf n f u) = some (.int k (lo : Int)))
    (hh : (hx.map (evf n f u) = none ∧ hi = m ∧ mxx = none) ∨ ∃ k, hx.map (evf n f u) = some (.int k (hi : Int)))
    (hmx : (mxx = none ∧ mx = c) ∨ ∃ k, mxx.map (evf n f u) = some (.int k (mx : Int))) (hmm : m ≤ c)
    (h1 : lo ≤ hi) (h2 : hi ≤ mx) (h3 : mx ≤ c) :
    (execOp (evf n f u) ⟨dst, .slice t x lx hx mxx, ty, pos, aft, gd⟩).run P w = .ok (.value (.slice (if mx = lo then a else a.map (·.add (lo * sz))) (hi - lo) (mx - lo))) w := by
  have e1 : (0 : Int) ≤ (lo : Int) := Int.natCast_nonneg _
  have e2 : (0 : Int) ≤ (hi : Int) := Int.natCast_nonneg _
  have e3 : (0 : Int) ≤ (mx : Int) := Int.natCast_nonneg _
  have hb : (Instr.sliceBounds true m c (lx.map (evf n f u)) (hx.map (evf n f u)) (mxx.map (evf n f u))).run P w = .ok (lo, hi, mx) w := by
    rcases hmx with ⟨rfl, rfl⟩ | ⟨k3, hk3⟩
    · rcases hh with ⟨hh, rfl, _⟩ | ⟨k2, hk2⟩
      · rcases hl with ⟨hl, rfl⟩ | ⟨k1, hk1⟩
        · rw [hl, hh]; simp [Instr.sliceBounds]
        · rw [hk1, hh]; simp [Instr.sliceBounds, run_sliceBound, e1, h1]
      · rcases hl with ⟨hl, rfl⟩ | ⟨k1, hk1⟩
        · rw [hl, hk2]; simp [Instr.sliceBounds, run_sliceBound, e2, h2]
        · rw [hk1, hk2]; simp [Instr.sliceBounds, run_sliceBound, e1, h1, e2, h2]
    · rcases hh with ⟨_, _, rfl⟩ | ⟨k2, hk2⟩
      · cases hk3
      · rcases hl with ⟨hl, rfl⟩ | ⟨k1, hk1⟩
        · rw [hl, hk2, hk3]; simp [Instr.sliceBounds, run_sliceBound, e2, h2, e3, h3]
        · rw [hk1, hk2, hk3]; simp [Instr.sliceBounds, run_sliceBound, e1, h1, e2, h2, e3, h3]
  simp [execOp, Instr.sliceAt, Instr.slice, run_underlying ht, hxx, hb, hs]

/-- 'x[lo:hi]' of a slice that is read; hi at most its length. -/
theorem o_slice {α : Type} {R : Rep α} {X : List Nat} {t : TypeId} {x : Operand} {et : TypeId} {a : Option Addr} {m c : Nat} {L : List α} {lx hx : Option Operand} (lo hi : Nat) (L' : List α)
    (hg : Region.wanted ⟨dst, .slice t x lx hx none, ty, pos, aft, gd⟩ (yielded ops (Fr n f u).tmps) = true)
    (ht : P.underlying t = some (.slice et)) (hs : ∀ w, (sizeOf et).run P w = .ok R.n w) (hS : Sl R X w a c L) (hxx : evf n f u x = .slice a m c) (hm : m = L.length)
    (hl : (lx.map (evf n f u) = none ∧ lo = 0) ∨ ∃ k, lx.map (evf n f u) = some (.int k (lo : Int)))
    (hh : (hx.map (evf n f u) = none ∧ hi = m ∧ (none : Option Operand) = none) ∨ ∃ k, hx.map (evf n f u) = some (.int k (hi : Int)))
    (h1 : lo ≤ hi) (h2 : hi ≤ L.length) (hL : L' = (L.take hi).drop lo)
    (h : ∀ a' c', Sl R X w a' c' L' → next (Fr n f (pusho dst (.slice a' L'.length c') u)) w) : OpW P ops Q ⟨dst, .slice t x lx hx none, ty, pos, aft, gd⟩ n f u w next := by
  subst hL; subst hm
  have hc := hS.1
  refine o_val _ hg (x_slice (lo := lo) (hi := hi) (mx := c) ht hs hxx hl hh (.inl ⟨rfl, rfl⟩) hc h1 (by omega) (Nat.le_refl _)) ?_
  have := h _ _ (hS.cut lo hi h1 h2)
  rwa [show ((L.take hi).drop lo).length = hi - lo from by simp; omega] at this

/-- A row that is written out is a slice of data. -/
theorem Blk.flat {α : Type} {R : Rep α} {X : List Nat} {b : Nat} {cs : List Value} {t : TypeId} {L : List α} (h : Blk w b cs t) (hb : b ∉ X) (hf : Flat R X w cs L) (c : Nat) (hc : L.length = c) (hm : c ≤ maxLen) :
    Sl R X w (some ⟨b, 0, none⟩) c L := by
  subst hc
  exact ⟨Nat.le_refl _, hm, .inr ⟨b, 0, cs, rfl, hb, h.lt, fun j u hj => by rw [Nat.zero_add, h.cell]; exact hj, hf⟩⟩
theorem Blk.own {α : Type} {R : Rep α} {X : List Nat} {b base : Nat} {cs : List Value} {t : TypeId} {L : List α} (h : Blk w b cs t) (hb : b ∈ X) (hf : Flat R X w cs L) (c : Nat) (hc : L.length = c) (hm : c ≤ maxLen) (hbase : base ≤ b) :
    Own R X w base t (some ⟨b, 0, none⟩) c L := by
  subst hc
  refine ⟨Nat.le_trans hbase (Nat.le_of_lt h.lt), fun x hx => by simp [blkL] at hx; subst hx; exact hb, cs, ⟨hf.length, .inr ⟨b, _, _, rfl, hbase, h, Nat.le_refl _, hm, by simp [hf.length], ?_⟩⟩, hf⟩
  rw [← hf.length]; simp

/-! append -/
theorem run_app (base : Nat) (t ty e : TypeId) (i : TypeInfo) (z : Value) (size bytes : Nat) (ht : P.underlying t = some (.slice e)) (hi : P.info? e = some i) (hz : i.zero = some z)
    (hsize : i.size = size) (hby : i.bytes = bytes) (hzs : z.cells.size = size) (hsz : 0 < size) {a0 : Option Addr} {c0 : Nat}
    (n : Nat) (xs : List Value) (hown : w.ownsRow base e size (.slice a0 n c0) n xs)
    (a : Addr) (m c : Nat) (news : List Value) (hl : news.length = m * size) (hnews : ∀ j u, news[j]? = some u → w.cell? (a.add j) = some u) (h1 : ∀ u ∈ news, u.oneCell' = true)
    (h63 : n + m ≤ maxLen) (hbytes : (n + m) * bytes ≤ 140737488355328) (hbase : base ≤ w.heap.size) :
    ∃ a' c' w', (Builtin.append_ #[t, t] ty #[.slice a0 n c0, .slice (some a) m c]).run P w = .ok (.slice a' (n + m) c') w' ∧ w'.ownsRow base e size (.slice a' (n + m) c') (n + m) (xs ++ news) ∧
      w.grownBy w' (Value.ownBlock (.slice a0 n c0)) ∧ (∀ b ∈ blkL a', b ∈ blkL a0 ∨ b = w.heap.size) := by
  obtain ⟨v', w', hr, hown', hgr, _⟩ := run_append_own (P := P) w base t ty e i z size bytes ht hi hz hsize hby hzs hsz (.slice a0 n c0) n xs hown a m c news hl hnews h1 h63 hbytes hbase
  have hform : ∃ a' c', v' = .slice a' (n + m) c' := by
    rcases hown'.2 with ⟨rfl, h0⟩ | ⟨g, cap, cur, rfl, _⟩
    · exact ⟨none, 0, by rw [h0]⟩
    · exact ⟨_, _, rfl⟩
  obtain ⟨a', c', rfl⟩ := hform
  refine ⟨a', c', w', hr, hown', hgr, ?_⟩
  have hsmall : n + m ≤ 9223372036854775807 := by simp only [maxLen] at h63; omega
  subst hsize
  subst hby
  rcases hown.2 with ⟨hv, h0⟩ | ⟨g, cap, cur, hv, hbg, hg, hnc, hcm, hcs, htake⟩
  · injection hv with e1 e2 e3
    subst e1; subst e3; subst h0
    by_cases hm : m = 0
    · subst hm
      rcases hown'.2 with ⟨hv', _⟩ | ⟨g', cap', cur', hv', hb', hg', _⟩
      · injection hv' with e1 _ _; subst e1; intro b hb; cases hb
      · have hn : news = [] := List.eq_nil_of_length_eq_zero (by simpa using hl)
        subst hn
        have : (Builtin.append_ #[t, t] ty #[.slice none 0 0, .slice (some a) 0 c]).run P w = .ok (.slice none 0 0) w := by
          simp [Builtin.append_, run_underlying ht, sizeOf, typeInfo, hi, Builtin.lenOf, Builtin.firstCells, loadCells, loadCellsFrom]
        rw [this] at hr
        injection hr with e1 _
        injection e1 with e2 _ _
        subst e2; intro b hb; cases hb
    · have hr2 := run_append_nil (P := P) w t ty e i z ht hi hz a m c news hl hnews (by omega) (by omega) (by have hb := hbytes; simp only [Nat.zero_add] at hb; omega)
      rw [hr2] at hr
      injection hr with e1 _
      injection e1 with e2 _ _
      subst e2; intro b hb; simp [blkL] at hb; exact .inr hb
  · injection hv with e1 e2 e3
    subst e1; subst e3
    by_cases hroom : n + m ≤ c0
    · have hfit : n * i.size + news.length ≤ cur.size := by rw [hl, hcs, ← Nat.add_mul]; exact Nat.mul_le_mul_right _ hroom
      have hr2 := run_append_room (P := P) w t ty e i ht hi g n c0 cur hg a m c news hl hnews h1 hroom hfit
      rw [hr2] at hr
      injection hr with e1 _
      injection e1 with e2 _ _
      subst e2; intro b hb; exact .inl hb
    · have holds : ∀ j u, xs[j]? = some u → w.cell? ((⟨g, 0, none⟩ : Addr).add j) = some u := hown.cells (g := g) rfl
      have hr2 := run_append_grow (P := P) w t ty e i z ht hi hz ⟨g, 0, none⟩ n c0 xs hown.1 holds a m c news hl hnews (by omega) (by omega) (growslice_fits (by omega) hbytes)
      rw [hr2] at hr
      injection hr with e1 _
      injection e1 with e2 _ _
      subst e2; intro b hb; simp [blkL] at hb; exact .inr hb

/-- The facts on an element type that append and make ask. -/
structure ElemT (P : Program) (t et size bytes : Nat) : Prop where
  ex : ∃ (i : TypeInfo) (z : Value), P.info? et = some i ∧ i.zero = some z ∧ i.size = size ∧ i.bytes = bytes ∧ z.cells.size = size
  under : P.underlying t = some (.slice et)
  size_of : ∀ w, (sizeOf et).run P w = .ok size w
  pos : 0 < size
  bpos : 0 < bytes

/-- What may be appended. -/
def Src {α : Type} (R : Rep α) (X : List Nat) (w : World) (a : Option Addr) (c : Nat) (L : List α) : Prop :=
  (L = [] ∧ (a = none → c = 0)) ∨ ∃ b o xs, a = some ⟨b, o, none⟩ ∧ CellsAt w b o xs ∧ Flat R X w xs L
theorem Sl.src {α : Type} {R : Rep α} {X : List Nat} {a : Option Addr} {c : Nat} {L : List α} (h : Sl R X w a c L) : Src R X w a c L :=
  h.2.2.imp id fun ⟨b, o, xs, h1, _, _, h2, h3⟩ => ⟨b, o, xs, h1, h2, h3⟩
theorem Blk.src {α : Type} {R : Rep α} {X : List Nat} {b c : Nat} {cs : List Value} {t : TypeId} {L : List α} (h : Blk w b cs t) (hf : Flat R X w cs L) : Src R X w (some ⟨b, 0, none⟩) c L :=
  .inr ⟨b, 0, cs, rfl, (fun j u hj => by rw [Nat.zero_add, h.cell]; exact hj), hf⟩

/-- 'append(x, y...)', x ours, y read. -/
theorem o_append {α : Type} {R : Rep α} {X : List Nat} {base : Nat} {t t' et bytes : TypeId} {x y : Operand} {a a2 : Option Addr} {c c2 m1 m2 : Nat} {L M : List α}
    (hg : Region.wanted ⟨dst, .call ⟨.builtin .append, #[x, y], #[t, t']⟩, ty, pos, aft, gd⟩ (yielded ops (Fr n f u).tmps) = true)
    (ht : ElemT P t et R.n bytes) (htt : t' = t)
    (hO : Own R X w base et a c L) (hS : Src R X w a2 c2 M) (hx : evf n f u x = .slice a m1 c) (hy : evf n f u y = .slice a2 m2 c2) (hm1 : m1 = L.length) (hm2 : m2 = M.length)
    (hb : (L.length + M.length) * bytes ≤ 140737488355328)
    (h : ∀ a' c' w' X', Step X w (blkL a) X' w' → X' = blkL a' ++ X → (∀ b ∈ blkL a', b ∈ blkL a ∨ b = w.heap.size) → Own R X' w' base et a' c' (L ++ M) → next (Fr n f (pusho dst (.slice a' (L ++ M).length c') u)) w') :
    OpW P ops Q ⟨dst, .call ⟨.builtin .append, #[x, y], #[t, t']⟩, ty, pos, aft, gd⟩ n f u w next := by
  subst htt; subst hm1; subst hm2
  obtain ⟨⟨i, z, hi, hz, hsz, hby, hzs⟩, hu, _, hpos, hbp⟩ := ht
  obtain ⟨hbase, hmem, xs, ho, hf⟩ := hO
  have hlen : L.length + M.length ≤ maxLen := by
    have : L.length + M.length ≤ 140737488355328 := Nat.le_trans (Nat.le_mul_of_pos_right _ hbp) hb
    unfold maxLen; omega
  have hrun : ∃ a' c' w' ys, (Builtin.append_ #[t', t'] ty #[.slice a L.length c, .slice a2 M.length c2]).run P w = .ok (.slice a' (L.length + M.length) c') w' ∧
      w.grownBy w' (Value.ownBlock (.slice a L.length c)) ∧ w'.ownsRow base et R.n (.slice a' (L.length + M.length) c') (L.length + M.length) (xs ++ ys) ∧ Flat R X w ys M ∧ (∀ b ∈ blkL a', b ∈ blkL a ∨ b = w.heap.size) := by
    rcases hS with ⟨rfl, hz2⟩ | ⟨b, o, ys, rfl, hcs, hfl⟩
    · cases a2 with
      | some ad =>
        obtain ⟨a', c', w', hr, h1, h2, h3⟩ := run_app (P := P) base t' ty et i z R.n bytes hu hi hz hsz hby hzs hpos L.length xs ho ad 0 c2 [] (by simp) (fun j u hj => by simp at hj) (by simp) (by simpa using hlen) (by simpa using hb) hbase
        exact ⟨a', c', w', [], hr, h2, h1, rfl, h3⟩
      | none =>
        have hc2 := hz2 rfl
        subst hc2
        have := run_append_owned_none (P := P) (w := w) base t' ty et i R.n hu hi (.slice a L.length c) L.length xs ho
        exact ⟨a, c, w, [], by simpa using this, ⟨rfl, rfl, rfl, Nat.le_refl _, fun _ _ _ => rfl⟩, by simpa using ho, rfl, fun b hb => .inl hb⟩
    · obtain ⟨a', c', w', hr, h1, h2, h3⟩ := run_app (P := P) base t' ty et i z R.n bytes hu hi hz hsz hby hzs hpos L.length xs ho ⟨b, o, none⟩ M.length c2 ys hfl.length (fun j u hj => by rw [Addr_add]; exact hcs j u hj) (fun u hu => hfl.one u hu) hlen hb hbase
      exact ⟨a', c', w', ys, hr, h2, h1, hfl, h3⟩
  obtain ⟨a', c', w', ys, hr, hgr, hown, hfl, hnew⟩ := hrun
  have hev : Evo (blkL a) w w' := ⟨hgr.os, hgr.tape, hgr.output, hgr.size, fun b hb hn => hgr.block b hb (fun e => hn ((ownBlock_blkL _ _ _ _).1 e.symm))⟩
  have hst : Step X w (blkL a) (blkL a' ++ X) w' := by
    refine ⟨hev, hmem, fun b hb => List.mem_append_right _ hb, fun b hb => ?_⟩
    rcases List.mem_append.1 hb with h | h
    · rcases hnew b h with h1 | h1
      · exact .inl (hmem b h1)
      · exact .inr ⟨by omega, (hown.lt b ((ownBlock_blkL _ _ _ _).2 h)).2⟩
    · exact .inl h
  refine o_val (w' := w') (.slice a' (L ++ M).length c') hg ?_ (h a' c' w' _ hst rfl hnew ?_)
  · have hex : (execOp (evf n f u) ⟨dst, .call ⟨.builtin .append, #[x, y], #[t', t']⟩, ty, pos, aft, gd⟩).run P w = ((Builtin.append_ #[t', t'] ty #[.slice a L.length c, .slice a2 M.length c2]).run P w).andThen fun v w' => .ok (.value v) w' := by
      unfold execOp
      simp only [resolve, invoke, builtin, Sem.run_bind, Sem.run_pure, Result.andThen_ok, List.map_toArray, List.map_cons, List.map_nil, hx, hy]
    rw [hex, hr, List.length_append]
    rfl
  · refine ⟨Nat.le_trans hbase hgr.size, fun b hb => List.mem_append_left _ hb, xs ++ ys, by rw [List.length_append]; exact hown, ?_⟩
    exact ((hf.append hfl).sub hst.new).evo hst.evo (hst.sub.trans hst.up)


/-! numbers -/
theorem wrap_i64 {r : Int} (h1 : -9223372036854775808 ≤ r) (h2 : r ≤ 9223372036854775807) : IntKind.i64.wrap r = r := by
  rw [IntKind.wrap_i64]; omega
theorem x_add {t t' : TypeId} {x y : Operand} {k : IntKind} {a b : Int} (r : Int) (hx : evf n f u x = .int k a) (hy : evf n f u y = .int k b) (he : a + b = r) (hw : k.wrap r = r) :
    (execOp (evf n f u) ⟨dst, .binOp .add t x y t', ty, pos, aft, gd⟩).run P w = .ok (.value (.int k r)) w := by
  subst he; simp [execOp, hx, hy, eqGuard, binOp, Op.intArith, hw]
theorem x_sub {t t' : TypeId} {x y : Operand} {k : IntKind} {a b : Int} (r : Int) (hx : evf n f u x = .int k a) (hy : evf n f u y = .int k b) (he : a - b = r) (hw : k.wrap r = r) :
    (execOp (evf n f u) ⟨dst, .binOp .sub t x y t', ty, pos, aft, gd⟩).run P w = .ok (.value (.int k r)) w := by
  subst he; simp [execOp, hx, hy, eqGuard, binOp, Op.intArith, hw]
theorem x_mul {t t' : TypeId} {x y : Operand} {k : IntKind} {a b : Int} (r : Int) (hx : evf n f u x = .int k a) (hy : evf n f u y = .int k b) (he : a * b = r) (hw : k.wrap r = r) :
    (execOp (evf n f u) ⟨dst, .binOp .mul t x y t', ty, pos, aft, gd⟩).run P w = .ok (.value (.int k r)) w := by
  subst he; simp [execOp, hx, hy, eqGuard, binOp, Op.intArith, hw]
theorem x_rem {t t' : TypeId} {x y : Operand} {k : IntKind} {a b : Int} (r : Int) (hx : evf n f u x = .int k a) (hy : evf n f u y = .int k b) (h0 : 0 ≤ a) (hb : 0 < b) (he : a % b = r) :
    (execOp (evf n f u) ⟨dst, .binOp .rem t x y t', ty, pos, aft, gd⟩).run P w = .ok (.value (.int k r)) w := by
  subst he
  have : ¬ b = 0 := by omega
  have e : a.tmod b = a % b := Int.tmod_eq_emod_of_nonneg h0
  simp [execOp, hx, hy, eqGuard, binOp, Op.intDiv, this, e]
theorem x_quo {t t' : TypeId} {x y : Operand} {k : IntKind} {a b : Int} (r : Int) (hx : evf n f u x = .int k a) (hy : evf n f u y = .int k b) (h0 : 0 ≤ a) (hb : 0 < b) (he : a / b = r) (hw : k.wrap r = r) :
    (execOp (evf n f u) ⟨dst, .binOp .quo t x y t', ty, pos, aft, gd⟩).run P w = .ok (.value (.int k r)) w := by
  subst he
  have : ¬ b = 0 := by omega
  have e : a.tdiv b = a / b := Int.tdiv_eq_ediv_of_nonneg h0
  simp [execOp, hx, hy, eqGuard, binOp, Op.intDiv, this, e, hw]
theorem x_conv {s d : TypeId} {x : Operand} {k k' : IntKind} {a : Int} {sd : TypeDesc} (hs : P.underlying s = some sd) (hd : P.underlying d = some (.int k')) (hx : evf n f u x = .int k a) (hw : k'.wrap a = a) :
    (execOp (evf n f u) ⟨dst, .convert s d x, ty, pos, aft, gd⟩).run P w = .ok (.value (.int k' a)) w := by
  simp [execOp, convert, run_underlying hs, run_underlying hd, hx, Conv.intToInt, hw]

/-! strings -/
theorem toList_beq (a b : ByteArray) : (a.toList == b.toList) = decide (a = b) := by
  by_cases h : a = b
  · subst h; simp
  · have : a.toList ≠ b.toList := fun e => h (by
      have := congrArg (fun l : List UInt8 => (⟨l.toArray⟩ : ByteArray)) e
      have h2 : a.data = b.data := by simpa [ByteArray.toList_eq] using this
      cases a; cases b; simp at h2; rw [h2])
    simp [this, h]
theorem x_streq {t t' : TypeId} {x y : Operand} {a b : ByteArray} (hx : evf n f u x = .string a) (hy : evf n f u y = .string b) :
    (execOp (evf n f u) ⟨dst, .binOp .eql t x y t', ty, pos, aft, gd⟩).run P w = .ok (.value (.bool (decide (a = b)))) w := by
  simp [execOp, hx, hy, eqGuard, binOp, Op.stringOp, toList_beq]
theorem x_strne {t t' : TypeId} {x y : Operand} {a b : ByteArray} (hx : evf n f u x = .string a) (hy : evf n f u y = .string b) :
    (execOp (evf n f u) ⟨dst, .binOp .neq t x y t', ty, pos, aft, gd⟩).run P w = .ok (.value (.bool (!decide (a = b)))) w := by
  simp [execOp, hx, hy, eqGuard, binOp, Op.stringOp, toList_beq]

theorem x_b2s {s d et : TypeId} {x : Operand} {b o len c : Nat} (xs : List Int) (hs : P.underlying s = some (.slice et)) (he : P.underlying et = some (.int .u8)) (hd : P.underlying d = some .string)
    (hx : evf n f u x = .slice (some ⟨b, o, none⟩) len c) (hl : xs.length = len) (hc : CellsAt w b o (xs.map (Value.int .u8))) :
    (execOp (evf n f u) ⟨dst, .convert s d x, ty, pos, aft, gd⟩).run P w = .ok (.value (.string (strOfNums xs))) w := by
  have := run_convert_bytes_arg (P := P) w s et hs he b o len c xs hl (fun i hi => by
    refine hc i _ ?_
    rw [List.getElem?_map, List.getElem?_eq_getElem (by omega)]
    simp [List.getD, List.getElem?_eq_getElem (show i < xs.length by omega)]) d hd
  simp [execOp, hx, this]
theorem Flat.u8 {X : List Nat} : ∀ {L : List Int} {xs : List Value}, Flat (rInt .u8) X w xs L → xs = L.map (Value.int .u8)
  | [], _, h => h
  | _ :: _, _, ⟨cs, r, e, h1, h2⟩ => by
    have h3 := Flat.u8 h2
    subst e; subst h3
    rw [h1.1]; rfl
theorem x_b2s_sl {X : List Nat} {s d et : TypeId} {x : Operand} {a : Option Addr} {len c : Nat} (L : List Int) (hs : P.underlying s = some (.slice et)) (he : P.underlying et = some (.int .u8)) (hd : P.underlying d = some .string)
    (hx : evf n f u x = .slice a len c) (hl : len = L.length) (hS : Sl (rInt .u8) X w a c L) :
    (execOp (evf n f u) ⟨dst, .convert s d x, ty, pos, aft, gd⟩).run P w = .ok (.value (.string (strOfNums L))) w := by
  subst hl
  rcases hS.2.2 with ⟨rfl, _⟩ | ⟨b, o, xs, rfl, _, _, hc, hf⟩
  · cases a with
    | none =>
      have := run_convert_bytes_nil (P := P) w s et hs he 0 c d hd
      simp only [List.length_nil] at hx
      simp [execOp, hx, this]; rfl
    | some ad =>
      have h0 : (convert s d (.slice (some ad) 0 c)).run P w = .ok (.string (strOfNums [])) w := by
        rw [run_convert_bytes_string w s d et _ 0 c hs he hd, run_bytesToString w _ 0 c [] (by simp [loadCells, loadCellsFrom])]
        rfl
      simp only [List.length_nil] at hx
      simp [execOp, hx, h0]
  · rw [hf.u8] at hc
    exact x_b2s L hs he hd hx rfl hc

/-! what goes on, seen from the beginning; other blocks -/
theorem RB.then1 {B : Nat} {F : List Nat} {a b c : World} {x : Nat} (h : RB B F a b) (k : Evo [x] b c) (hB : B ≤ b.heap.size) (hx : B ≤ x) : RB B F a c :=
  h.then k hB fun y hy => by simp at hy; subst hy; exact Or.inr hx
theorem Evo.then1 {F : List Nat} {a b c : World} {x : Nat} (h : Evo F a b) (k : Evo [x] b c) (hx : a.heap.size ≤ x) : Evo F a c := RB.then1 h k h.size hx
theorem Evo.thenO {α : Type} {R : Rep α} {X F : List Nat} {a b c : World} {et : TypeId} {ad : Option Addr} {cp : Nat} {L : List α} (h : Evo F a b) (k : Evo (blkL ad) b c) {base : Nat} (ho : Own R X b base et ad cp L) (hb : a.heap.size ≤ base) : Evo F a c :=
  h.then k fun x hx => Or.inr (Nat.le_trans hb (ho.lt x hx).1)
theorem Blk.rb {w' : World} {B b : Nat} {F : List Nat} {cs : List Value} {t : TypeId} (h : Blk w b cs t) (e : RB B F w w') (hb : b < B) (hf : b ∉ F) : Blk w' b cs t := (e.keep b hb hf).trans h
theorem CellsAt.rb {w' : World} {B b o : Nat} {F : List Nat} {xs : List Value} (h : CellsAt w b o xs) (e : RB B F w w') (hb : b < B) (hf : b ∉ F) : CellsAt w' b o xs := fun j u hj => by
  have := World.cell?_of_block (w := w) (w' := w') (a := ⟨b, o + j, none⟩) (e.keep b hb hf)
  rw [this]; exact h j u hj
/-- The one cell of an element. -/
theorem CellsAt.one {b o : Nat} {v : Value} (h : CellsAt w b o [v]) : w.cell? ⟨b, o, none⟩ = some v := by simpa using h 0 v rfl

theorem wrap_eq (k : IntKind) {r : Int} (h1 : k.min ≤ r) (h2 : r ≤ k.max) : k.wrap r = r := by
  cases k <;> simp [IntKind.wrap, IntKind.min, IntKind.max, IntKind.signed, IntKind.bits] at * <;> omega
theorem wrap_u8 {r : Int} (h1 : 0 ≤ r) (h2 : r ≤ 255) : IntKind.u8.wrap r = r := wrap_eq .u8 (by simpa [IntKind.min, IntKind.signed] using h1) (by simpa [IntKind.max, IntKind.signed, IntKind.bits] using h2)
theorem wrap_u32 {r : Int} (h1 : 0 ≤ r) (h2 : r ≤ 4294967295) : IntKind.u32.wrap r = r := wrap_eq .u32 (by simpa [IntKind.min, IntKind.signed] using h1) (by simpa [IntKind.max, IntKind.signed, IntKind.bits] using h2)
theorem wrap_u64 {r : Int} (h1 : 0 ≤ r) (h2 : r ≤ 18446744073709551615) : IntKind.u64.wrap r = r := wrap_eq .u64 (by simpa [IntKind.min, IntKind.signed] using h1) (by simpa [IntKind.max, IntKind.signed, IntKind.bits] using h2)
theorem x_max {t1 t2 : TypeId} {x y : Operand} {k : IntKind} {a b : Int} (r : Int) (hx : evf n f u x = .int k a) (hy : evf n f u y = .int k b) (he : max a b = r) :
    (execOp (evf n f u) ⟨dst, .call ⟨.builtin .max, #[x, y], #[t1, t2]⟩, ty, pos, aft, gd⟩).run P w = .ok (.value (.int k r)) w := by
  subst he
  have : (if b > a then b else a) = max a b := by simp only [Int.max_def]; split <;> split <;> omega
  simp [execOp, resolve, invoke, builtin, Builtin.max_, Builtin.max2, hx, hy, ← this]
theorem x_min {t1 t2 : TypeId} {x y : Operand} {k : IntKind} {a b : Int} (r : Int) (hx : evf n f u x = .int k a) (hy : evf n f u y = .int k b) (he : min a b = r) :
    (execOp (evf n f u) ⟨dst, .call ⟨.builtin .min, #[x, y], #[t1, t2]⟩, ty, pos, aft, gd⟩).run P w = .ok (.value (.int k r)) w := by
  subst he
  have : (if b < a then b else a) = min a b := by simp only [Int.min_def]; split <;> split <;> omega
  simp [execOp, resolve, invoke, builtin, Builtin.min_, Builtin.min2, hx, hy, ← this]
theorem x_nn {t : TypeId} {x : Operand} (p : Prop) [Decidable p] (hx : evf n f u x = .bool (!decide p)) :
    (execOp (evf n f u) ⟨dst, .unOp .not t x, ty, pos, aft, gd⟩).run P w = .ok (.value (.bool (decide p))) w := by
  simp [execOp, Op.unary, hx]
theorem elemT_mk {t et size bytes : Nat} {i : TypeInfo} {z : Value} (hi : P.info? et = some i) (hz : i.zero = some z) (hs : (i.size, i.bytes) = (size, bytes)) (hzs : z.cells.size = size) (hu : P.underlying t = some (.slice et))
    (hso : ∀ w, (sizeOf et).run P w = .ok size w) (h1 : 0 < size) (h2 : 0 < bytes) : ElemT P t et size bytes := by
  injection hs with e1 e2
  exact ⟨⟨i, z, hi, hz, e1, e2, hzs⟩, hu, hso, h1, h2⟩

/-- 'x[:hi:max]' of a slice that is read. -/
theorem o_slice3 {α : Type} {R : Rep α} {X : List Nat} {t : TypeId} {x hx mx : Operand} {et : TypeId} {a : Option Addr} {m c : Nat} {L : List α} (hi mx' : Nat) (L' : List α)
    (ht : P.underlying t = some (.slice et)) (hs : ∀ w, (sizeOf et).run P w = .ok R.n w) (hS : Sl R X w a c L) (hxx : evf n f u x = .slice a m c) (hm : m = L.length)
    (hg : Region.wanted ⟨dst, .slice t x none (some hx) (some mx), ty, pos, aft, gd⟩ (yielded ops (Fr n f u).tmps) = true)
    (hh : (none : Option Nat) = some 0 ∨ ∃ k, (some hx).map (evf n f u) = some (.int k (hi : Int)))
    (hmx : (none : Option Nat) = some 0 ∨ ∃ k, (some mx).map (evf n f u) = some (.int k (mx' : Int)))
    (h1 : hi ≤ mx' ∧ mx' ≤ c ∧ hi ≤ L.length) (hL : L' = L.take hi)
    (h : ∀ a', Sl R X w a' mx' L' → next (Fr n f (pusho dst (.slice a' L'.length mx') u)) w) : OpW P ops Q ⟨dst, .slice t x none (some hx) (some mx), ty, pos, aft, gd⟩ n f u w next := by
  subst hL; subst hm
  have hc := hS.1
  have hh := hh.resolve_left (by simp)
  have hmx := hmx.resolve_left (by simp)
  refine o_pv _ hg (x_slice (lo := 0) (hi := hi) (mx := mx') ht hs hxx (.inl ⟨rfl, rfl⟩) (.inr hh) (.inr hmx) hc (Nat.zero_le _) h1.1 h1.2.1) ?_
  have hsl : Sl R X w (if mx' = 0 then a else a.map (·.add (0 * R.n))) mx' (L.take hi) := by
    obtain ⟨_, hcm, h3⟩ := hS.cut 0 hi (Nat.zero_le _) h1.2.2
    refine ⟨by simp; omega, by omega, ?_⟩
    have e : (if mx' = 0 then a else a.map (·.add (0 * R.n))) = a := by
      split
      · rfl
      · cases a with
        | none => rfl
        | some ad => simp [Addr.add]
    have e2 : (if c = 0 then a else a.map (·.add (0 * R.n))) = a := by
      split
      · rfl
      · cases a with
        | none => rfl
        | some ad => simp [Addr.add]
    rw [e2] at h3
    rw [e]
    simp only [List.drop_zero] at h3
    rcases h3 with ⟨h3, h4⟩ | h3
    · exact .inl ⟨h3, fun ha => by have := h4 ha; omega⟩
    · exact .inr h3
  have := h _ hsl
  rwa [show (L.take hi).length = hi - 0 from by simp; omega] at this

/-! results -/
/-- What a result's variable holds in the end. -/
def ResV (P : Program) (tmps : Array Value) (w : World) (r : ResultVar) (v : Value) : Prop :=
  (match r with | .tmp t => pure (tmps.getD t undef) | .cell a t => do loadVar t (← asAddr (tmps.getD a undef)) : Sem Value).run P w = .ok v w
theorem rs_tmp {tmps : Array Value} {t : Tmp} {v : Value} (h : tmps.getD t undef = v) : ResV P tmps w (.tmp t) v := by subst h; rfl
theorem rs_agg {tmps : Array Value} {t : Tmp} {ct : TypeId} {b o : Nat} (xs : List Value) (h : tmps.getD t undef = .pointer (some ⟨b, o, none⟩)) (ha : ∀ w, (isAgg ct).run P w = .ok true w) (hs : ∀ w, (sizeOf ct).run P w = .ok xs.length w) (hc : CellsAt w b o xs) :
    ResV P tmps w (.cell t ct) (.agg xs.toArray) := by
  unfold ResV; simp only []; rw [h]; simp [asAddr, loadVar, ha, hs, loadCells_at b o xs hc]
theorem rs_one {tmps : Array Value} {t : Tmp} {ct : TypeId} {ad : Addr} {v : Value} (h : tmps.getD t undef = .pointer (some ad)) (ha : ∀ w, (isAgg ct).run P w = .ok false w) (hc : w.cell? ad = some v) :
    ResV P tmps w (.cell t ct) v := by
  unfold ResV; simp only []; rw [h]; simp [asAddr, loadVar, ha, hc]
theorem res_run {fn : Func} {tmps : Array Value} : ∀ (rs : List ResultVar) (vs : List Value), fn.results = rs.toArray → rs.length = vs.length → (∀ (i : Nat) (r : ResultVar) (v : Value), rs[i]? = some r → vs[i]? = some v → ResV P tmps w r v) →
    (results fn tmps).run P w = .ok (if h : vs.toArray.size = 1 then vs.toArray[0] else .tuple vs.toArray) w := by
  intro rs vs h hl hall
  have key : ∀ (rs : List ResultVar) (vs : List Value), rs.length = vs.length → (∀ (i : Nat) (r : ResultVar) (v : Value), rs[i]? = some r → vs[i]? = some v → ResV P tmps w r v) →
      (rs.mapM (fun (r : ResultVar) => (match r with | .tmp t => pure (tmps.getD t undef) | .cell a t => do loadVar t (← asAddr (tmps.getD a undef)) : Sem Value))).run P w = .ok vs w := by
    intro rs
    induction rs with
    | nil => intro vs hl _; cases vs with | nil => rfl | cons v vs => cases hl
    | cons r rs ih =>
      intro vs hl hall
      cases vs with
      | nil => cases hl
      | cons v vs =>
        have h0 : ResV P tmps w r v := hall 0 r v rfl rfl
        have h1 := ih vs (by simpa using hl) (fun i r v hr hv => hall (i + 1) r v (by simpa using hr) (by simpa using hv))
        unfold ResV at h0
        simp only [List.mapM_cons, Sem.run_bind, h0, Result.andThen_ok, h1]
        rfl
  unfold results
  rw [h, List.mapM_toArray]
  have := key rs vs hl hall
  simp only [Sem.run_bind, Sem.run_map]
  refine (congrArg (fun r => Result.andThen (Result.andThen r _) _) this).trans ?_
  simp only [Result.andThen_ok]
  rfl
theorem rs_single {fn : Func} {tmps : Array Value} {r : ResultVar} {v : Value} (h : fn.results = #[r]) (hv : ResV P tmps w r v) : (results fn tmps).run P w = .ok v w := by
  have := res_run (P := P) (w := w) (tmps := tmps) [r] [v] h rfl (fun i r' v' hr hv' => by
    cases i with
    | zero => simp at hr hv'; subst hr; subst hv'; exact hv
    | succ i => simp at hr)
  simpa using this
theorem rs2 {fn : Func} {tmps : Array Value} {r1 r2 : ResultVar} {v1 v2 : Value} (h : fn.results = #[r1, r2]) (h1 : ResV P tmps w r1 v1) (h2 : ResV P tmps w r2 v2) : (results fn tmps).run P w = .ok (.tuple #[v1, v2]) w := by
  have := res_run (P := P) (w := w) (tmps := tmps) [r1, r2] [v1, v2] h rfl (fun i r' v' hr hv' => by
    match i with
    | 0 => simp at hr hv'; subst hr; subst hv'; exact h1
    | 1 => simp at hr hv'; subst hr; subst hv'; exact h2
    | i + 2 => simp at hr)
  simpa using this
theorem rs3 {fn : Func} {tmps : Array Value} {r1 r2 r3 : ResultVar} {v1 v2 v3 : Value} (h : fn.results = #[r1, r2, r3]) (h1 : ResV P tmps w r1 v1) (h2 : ResV P tmps w r2 v2) (h3 : ResV P tmps w r3 v3) : (results fn tmps).run P w = .ok (.tuple #[v1, v2, v3]) w := by
  have := res_run (P := P) (w := w) (tmps := tmps) [r1, r2, r3] [v1, v2, v3] h rfl (fun i r' v' hr hv' => by
    match i with
    | 0 => simp at hr hv'; subst hr; subst hv'; exact h1
    | 1 => simp at hr hv'; subst hr; subst hv'; exact h2
    | 2 => simp at hr hv'; subst hr; subst hv'; exact h3
    | i + 3 => simp at hr)
  simpa using this

/-- 'x[lo:hi]' in a region that draws: taken first. -/
theorem r_slice {R' : World → World → Prop} {mm : Nat} {done : List Nat} (i : Nat) {α : Type} {R : Rep α} {X : List Nat} {t : TypeId} {x : Operand} {et : TypeId} {a : Option Addr} {m c : Nat} {L : List α} {lx hx : Option Operand}
    (hp : PreR R') (hi' : ops[i]? = some ⟨dst, .slice t x lx hx none, ty, pos, aft, gd⟩)
    (hB : (Nat.blt i mm && tailB ops mm i && Region.noSelect ops && Region.free .any ops (marksOf ops.size done) i && (Region.ready .any ops (marksOf ops.size done)).contains i && Nat.blt done.length ops.size) = true)
    (hQ' : ∀ c a v w, Q (.panic c) (a.put dst v) w → Q (.panic c) a w)
    (lo hi : Nat) (L' : List α)
    (hg : Region.wanted ⟨dst, .slice t x lx hx none, ty, pos, aft, gd⟩ (yielded ops (Fr n f u).tmps) = true)
    (ht : P.underlying t = some (.slice et)) (hs : ∀ w, (sizeOf et).run P w = .ok R.n w) (hS : Sl R X w a c L) (hxx : evf n f u x = .slice a m c) (hm : m = L.length)
    (hl : (lx.map (evf n f u) = none ∧ lo = 0) ∨ ∃ k, lx.map (evf n f u) = some (.int k (lo : Int)))
    (hh : (hx.map (evf n f u) = none ∧ hi = m ∧ (none : Option Operand) = none) ∨ ∃ k, hx.map (evf n f u) = some (.int k (hi : Int)))
    (h1 : lo ≤ hi) (h2 : hi ≤ L.length) (hL : L' = (L.take hi).drop lo)
    (h : ∀ a' c', Sl R X w a' c' L' → AtR P ops Q R' mm (i :: done) (Fr n f (pusho dst (.slice a' L'.length c') u)) w) : AtR P ops Q R' mm done (Fr n f u) w := by
  subst hL; subst hm
  have hc := hS.1
  have := h _ _ (hS.cut lo hi h1 h2)
  rw [show ((L.take hi).drop lo).length = hi - lo from by simp; omega] at this
  exact r_take i _ hp hi' hB (fun c a w => hQ' c a _ w) (.inl ⟨hg, fun wq _ => x_slice (lo := lo) (hi := hi) (mx := c) ht hs hxx hl hh (.inl ⟨rfl, rfl⟩) hc h1 (by omega) (Nat.le_refl _)⟩) this
end
end Go.Proofs.YtfgmmabggjjhgaaGreatDoor
namespace Go.Proofs.YtfgmmabggjjhgaaGreatDoor
open Go

section
variable {P : Program} {ops : Array Oper} {Q : Exit → Act → World → Prop} {n : Nat} {f : Nat → Value} {u : List (Nat × Value)} {w : World} {next : Act → World → Prop}
variable {dst : Option Tmp} {ty : TypeId} {pos : String} {aft : Array Edge} {gd : Option (Nat × Bool)}

theorem Flat.repl {α : Type} {R : Rep α} {X : List Nat} {z : Value} {d : α} (h : R.ok X w [z] d) : ∀ m, Flat R X w (List.replicate m z) (List.replicate m d)
  | 0 => rfl
  | m + 1 => ⟨[z], _, rfl, h, Flat.repl h m⟩

/-- 'make([]T, m)', T of one cell. -/
theorem o_make {α : Type} {R : Rep α} {X : List Nat} {base : Nat} {t et bytes : TypeId} {l c : Operand} {kl kc : IntKind} (d : α) (z : Value) (m : Nat) (L : List α)
    (hg : Region.wanted ⟨dst, .makeSlice t l c, ty, pos, aft, gd⟩ (yielded ops (Fr n f u).tmps) = true)
    (hu : P.underlying t = some (.slice et)) (hi : (P.info? et).map (fun i => (i.zero, i.size, i.bytes)) = some (some z, 1, bytes)) (hR : R.n = 1) (hzc : z.cells.toList = [z]) (hd : ∀ X w, R.ok X w [z] d)
    (hl : evf n f u l = .int kl (m : Int)) (hc : evf n f u c = .int kc (m : Int)) (hb : bytes * m ≤ 281474976710656) (hm : m ≤ 9223372036854775807) (hbase : base ≤ w.heap.size) (hL : List.replicate m d = L)
    (h : ∀ a' w' X', Step X w [] X' w' → X' = blkL a' ++ X → (∀ b ∈ blkL a', b = w.heap.size) → Own R X' w' base et a' m L → next (Fr n f (pusho dst (.slice a' m m) u)) w') :
    OpW P ops Q ⟨dst, .makeSlice t l c, ty, pos, aft, gd⟩ n f u w next := by
  subst hL
  obtain ⟨i, hi1, hi2, hi3, hi4⟩ := info_parts hi
  obtain ⟨w', hrun, ho, hgr⟩ := run_make_full (P := P) w base t et i z 1 hu hi1 hi2 hi3 kl kc m (by rw [hi4]; exact hb) (by unfold maxLen; omega) hbase
  have hev : Evo [] w w' := ⟨hgr.os, hgr.tape, hgr.output, hgr.size, fun b hb _ => hgr.block b hb (by simp)⟩
  have hlt := ho.lt w.heap.size ((ownBlock_blkL _ _ _ _).2 (by simp [blkL]))
  have hst : Step X w [] (blkL (some ⟨w.heap.size, 0, none⟩) ++ X) w' := Step.app _ _ hev (fun b hb => by simp [blkL] at hb; subst hb; exact ⟨Nat.le_refl _, hlt.2⟩)
  refine o_val (w' := w') (.slice (some ⟨w.heap.size, 0, none⟩) m m) hg ?_ (h _ w' _ hst rfl (fun b hb => by simpa [blkL] using hb) ?_)
  · simp [execOp, hl, hc, hrun]
  · refine ⟨Nat.le_trans hbase hgr.size, fun b hb => List.mem_append_left _ hb, List.replicate m z, ?_, Flat.repl (hd _ _) m⟩
    have e : (madeCells z.cells (m * 1)).toList = List.replicate m z := by
      have : z.cells = #[z] := by have := congrArg List.toArray hzc; simpa using this
      rw [this, Nat.mul_one, toList_madeCells_one]
    rw [e] at ho
    rw [hR, List.length_replicate]
    exact ho

theorem Flat.set {α : Type} {R : Rep α} {X : List Nat} {L : List α} {xs cs : List Value} {d : α} (h : Flat R X w xs L) (i : Nat) (hi : i < L.length) (hd : R.ok X w cs d) :
    Flat R X w (xs.take (i * R.n) ++ cs ++ xs.drop (i * R.n + R.n)) (L.set i d) := by
  have e : L.set i d = L.take i ++ (d :: L.drop (i + 1)) := List.set_eq_take_append_cons_drop .. |>.trans (by rw [if_pos hi])
  rw [e, List.append_assoc]
  refine (h.take i).append ⟨cs, _, rfl, hd, ?_⟩
  have := h.drop (i + 1)
  rwa [Nat.add_mul, Nat.one_mul] at this

/-- 'x[i] = v', x ours. -/
theorem o_storeOwn {α : Type} {R : Rep α} {X : List Nat} {base : Nat} {t et : TypeId} {x y : Operand} {a : Option Addr} {c b o : Nat} {L : List α} {v : Value} (i : Nat) (d : α) (L' : List α)
    (hg : Region.wanted ⟨dst, .store t x y, ty, pos, aft, gd⟩ (yielded ops (Fr n f u).tmps) = true)
    (hO : Own R X w base et a c L) (ha : a = some ⟨b, o, none⟩) (hi : i < L.length) (hL : L.set i d = L')
    (hx : evf n f u x = .pointer (some ⟨b, o + i * R.n, none⟩)) (hy : evf n f u y = v) (hs : ∀ w, (sizeOf t).run P w = .ok R.n w) (hv : ∀ w, R.ok X w v.cells.toList d)
    (h : ∀ w', Step X w (blkL a) X w' → Own R X w' base et a c L' → next (Fr n f (pusho dst undef u)) w') : OpW P ops Q ⟨dst, .store t x y, ty, pos, aft, gd⟩ n f u w next := by
  subst ha; subst hL
  obtain ⟨hbase, hmem, xs, ho, hf⟩ := hO
  have hxl := hf.length
  rcases ho.2 with ⟨h1, _⟩ | ⟨g, cap, cur, hsl, hbg, hgg, hnc, hcm, hcs, htake⟩
  · cases h1
  injection hsl with e1 e2 e3
  injection e1 with e1
  injection e1 with e4 e5 _
  subst e4; subst e5; subst e3
  have hsz : v.cells.toList.length = R.n := R.len (hv w)
  have hsz' : v.cells.size = R.n := by simpa using hsz
  have hlt : i * R.n + R.n ≤ L.length * R.n := by
    have : (i + 1) * R.n ≤ L.length * R.n := Nat.mul_le_mul_right _ hi
    rwa [Nat.add_mul, Nat.one_mul] at this
  have hle : L.length * R.n ≤ c * R.n := Nat.mul_le_mul_right _ hnc
  have hst := run_storeCells_at (P := P) b (i * R.n) et v.cells.toList 0 cur w hgg (by rw [hsz, hcs]; omega) (fun u hu => R.one (hv w) u hu)
  rw [hsz] at hst
  have hev : Evo (blkL (some ⟨b, 0, none⟩)) w (w.setRow b (cur.toList.take (i * R.n + 0) ++ v.cells.toList ++ cur.toList.drop (i * R.n + 0 + R.n)).toArray) := by
    refine ⟨rfl, rfl, rfl, by simp, fun k _ hk => ?_⟩
    exact setRow_other w b k _ (fun e => hk (by simp [blkL, e]))
  have hstep : Step X w (blkL (some ⟨b, 0, none⟩)) X (w.setRow b (cur.toList.take (i * R.n + 0) ++ v.cells.toList ++ cur.toList.drop (i * R.n + 0 + R.n)).toArray) := ⟨hev, hmem, Sub.refl _, fun _ h => .inl h⟩
  refine o_skip hg (w' := w.setRow b (cur.toList.take (i * R.n + 0) ++ v.cells.toList ++ cur.toList.drop (i * R.n + 0 + R.n)).toArray) ?_ (h _ hstep ?_)
  · simp [execOp, Instr.storeAt, Instr.sureAddr, hx, hy, storeVar, hs, hst, hsz']
  · refine ⟨Nat.le_trans hbase hev.size, hmem, xs.take (i * R.n) ++ v.cells.toList ++ xs.drop (i * R.n + R.n), ⟨?_, .inr ⟨b, c, _, ?_, hbg, setRow_heap w b _ _ _ _ hgg, ?_, hcm, ?_, ?_⟩⟩, (Flat.set hf i hi (hv w)).evo hev hmem⟩
    · rw [List.length_append, List.length_append, List.length_take, List.length_drop, hsz, hxl, List.length_set, Nat.min_eq_left (by omega)]; omega
    · rw [List.length_set]
    · rw [List.length_set]; exact hnc
    · have hcl : cur.toList.length = c * R.n := by simpa using hcs
      rw [List.size_toArray, List.length_append, List.length_append, List.length_take, List.length_drop, hsz, hcl, Nat.add_zero, Nat.min_eq_left (by omega)]; omega
    · rw [List.length_set]
      have hcl : cur.toList.length = c * R.n := by simpa using hcs
      have e1 : xs.take (i * R.n) = cur.toList.take (i * R.n) := by rw [← htake, List.take_take, Nat.min_eq_left (by omega)]
      have e2 : xs.drop (i * R.n + R.n) = (cur.toList.drop (i * R.n + R.n)).take (L.length * R.n - (i * R.n + R.n)) := by rw [← htake, List.drop_take]
      rw [e1, e2, List.toList_toArray, Nat.add_zero]
      have hl2 : (cur.toList.take (i * R.n) ++ v.cells.toList).length = i * R.n + R.n := by rw [List.length_append, List.length_take, hsz, hcl, Nat.min_eq_left (by omega)]
      rw [List.take_append, List.take_of_length_le (by rw [hl2]; omega), hl2]

/-! an error held against nil -/
theorem equal_iface_nil {t : TypeId} {ms : Array (String × TypeId)} (tp : TypeId) (v : Value) (ht : P.underlying t = some (.interface ms)) : (Op.equal t (.iface tp v) .nilIface).run P w = .ok false w := by
  have h : ∀ d : Nat, (Op.equalIn (d + 1) t (.iface tp v) .nilIface).run P w = .ok false w := fun d => by simp [Op.equalIn, run_underlying ht]
  simp only [Op.equal, Op.maxDepth]
  exact h 9999
theorem equal_nil_nil {t : TypeId} {ms : Array (String × TypeId)} (ht : P.underlying t = some (.interface ms)) : (Op.equal t .nilIface .nilIface).run P w = .ok true w := by
  have h : ∀ d : Nat, (Op.equalIn (d + 1) t .nilIface .nilIface).run P w = .ok true w := fun d => by simp [Op.equalIn, run_underlying ht]
  simp only [Op.equal, Op.maxDepth]
  exact h 9999
theorem x_inil_eq {t t' : TypeId} {x y : Operand} {ms : Array (String × TypeId)} {tp : TypeId} {v : Value} (ht : P.underlying t = some (.interface ms)) (hx : evf n f u x = .iface tp v) (hy : evf n f u y = .nilIface) :
    (execOp (evf n f u) ⟨dst, .binOp .eql t x y t', ty, pos, aft, gd⟩).run P w = .ok (.value (.bool false)) w := by
  simp [execOp, hx, hy, eqGuard, binOp, equal_iface_nil tp v ht]
theorem x_inil_ne {t t' : TypeId} {x y : Operand} {ms : Array (String × TypeId)} {tp : TypeId} {v : Value} (ht : P.underlying t = some (.interface ms)) (hx : evf n f u x = .iface tp v) (hy : evf n f u y = .nilIface) :
    (execOp (evf n f u) ⟨dst, .binOp .neq t x y t', ty, pos, aft, gd⟩).run P w = .ok (.value (.bool true)) w := by
  simp [execOp, hx, hy, eqGuard, binOp, equal_iface_nil tp v ht]
theorem x_nilnil_eq {t t' : TypeId} {x : Operand} {c : Value} {ms : Array (String × TypeId)} (ht : P.underlying t = some (.interface ms)) (hx : evf n f u x = .nilIface) (hy : evf n f u (.const c) = .nilIface) :
    (execOp (evf n f u) ⟨dst, .binOp .eql t x (.const c) t', ty, pos, aft, gd⟩).run P w = .ok (.value (.bool true)) w := by
  simp [execOp, hx, hy, eqGuard, binOp, equal_nil_nil ht]
theorem x_nilnil_ne {t t' : TypeId} {x : Operand} {c : Value} {ms : Array (String × TypeId)} (ht : P.underlying t = some (.interface ms)) (hx : evf n f u x = .nilIface) (hy : evf n f u (.const c) = .nilIface) :
    (execOp (evf n f u) ⟨dst, .binOp .neq t x (.const c) t', ty, pos, aft, gd⟩).run P w = .ok (.value (.bool false)) w := by
  simp [execOp, hx, hy, eqGuard, binOp, equal_nil_nil ht]
end
end Go.Proofs.YtfgmmabggjjhgaaGreatDoor
