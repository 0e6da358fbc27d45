/- Rows of our own, held in a block of our own, written in place. It speaks of any program; nothing of the claim's own program stands here. -/
import Derived.Test.YtnnbnljofklieaaDoorStEq
namespace Go.Proofs.YtnnbnljofklieaaDoor
open Go
/-- rows of our own, one behind the other -/
def rowsOK {α : Type} (R : Rep α) (tr : TypeId) (X : List Nat) (w : World) : List Nat → List Value → List (List α) → Prop
  | F, cs, [] => F = [] ∧ cs = []
  | F, cs, d :: L => ∃ a c F2 r, F = blkL a ++ F2 ∧ cs = .slice a d.length c :: r ∧ Ap (blkL a) F2 ∧ Own R X w 0 tr a c d ∧ rowsOK R tr X w F2 r L
section
variable {α : Type} {R : Rep α} {tr : TypeId} {X X' G : List Nat} {w w' : World}
theorem rowsOK.step (s : Step X w G X' w') : ∀ {L : List (List α)} {F : List Nat} {cs : List Value}, rowsOK R tr X w F cs L → Ap F G → rowsOK R tr X' w' F cs L
  | [], _, _, h, _ => h
  | d :: L, _, _, ⟨a, c, F2, r, h1, h2, h3, h4, h5⟩, p => by
    subst h1; subst h2
    exact ⟨a, c, F2, r, rfl, rfl, h3, h4.step s p.symm.l.symm, rowsOK.step s h5 p.symm.r.symm⟩
theorem rowsOK.mem : ∀ {L : List (List α)} {F : List Nat} {cs : List Value}, rowsOK R tr X w F cs L → Sub F X
  | [], _, _, h => by rw [h.1]; exact Sub.nil _
  | d :: L, _, _, ⟨a, c, F2, r, h1, h2, h3, h4, h5⟩ => by subst h1; exact h4.mem.app (rowsOK.mem h5)
theorem rowsOK.old : ∀ {L : List (List α)} {F : List Nat} {cs : List Value}, rowsOK R tr X w F cs L → Old F w
  | [], _, _, h => by rw [h.1]; exact Old.nil _
  | d :: L, _, _, ⟨a, c, F2, r, h1, h2, h3, h4, h5⟩ => by subst h1; exact Old.app (fun b hb => (h4.lt b hb).2) (rowsOK.old h5)
theorem rowsOK.less (s : Sub X' X) : ∀ {L : List (List α)} {F : List Nat} {cs : List Value}, rowsOK R tr X w F cs L → Sub F X' → rowsOK R tr X' w F cs L
  | [], _, _, h, _ => h
  | d :: L, _, _, ⟨a, c, F2, r, h1, h2, h3, h4, h5⟩, m => by
    subst h1; subst h2
    exact ⟨a, c, F2, r, rfl, rfl, h3, h4.less s m.appl, rowsOK.less s h5 m.appr⟩
theorem rowsOK.length : ∀ {L : List (List α)} {F : List Nat} {cs : List Value}, rowsOK R tr X w F cs L → cs.length = L.length
  | [], _, _, h => by rw [h.2]; rfl
  | d :: L, _, _, ⟨a, c, F2, r, h1, h2, h3, h4, h5⟩ => by subst h2; simp [rowsOK.length h5]
theorem rowsOK.nils (m : Nat) : rowsOK R tr X w [] (List.replicate m (.slice none 0 0)) (List.replicate m ([] : List α)) := by
  induction m with
  | zero => exact ⟨rfl, rfl⟩
  | succ m ih => exact ⟨none, 0, [], _, rfl, rfl, Ap.nil_l _, Own.nil (Nat.zero_le _), ih⟩
theorem rowsOK.get : ∀ {L : List (List α)} {F : List Nat} {cs : List Value} (i : Nat) (d : List α), rowsOK R tr X w F cs L → L[i]? = some d → ∃ a c, cs[i]? = some (.slice a d.length c) ∧ Own R X w 0 tr a c d ∧ Sub (blkL a) F
  | [], _, _, i, d, h, hi => by simp at hi
  | e :: L, _, _, 0, d, ⟨a, c, F2, r, h1, h2, h3, h4, h5⟩, hi => by
    simp at hi; subst hi; subst h1; subst h2
    exact ⟨a, c, rfl, h4, Sub.inl _ _⟩
  | e :: L, _, _, i + 1, d, ⟨a, c, F2, r, h1, h2, h3, h4, h5⟩, hi => by
    subst h1; subst h2
    obtain ⟨a', c', k1, k2, k3⟩ := rowsOK.get i d h5 (by simpa using hi)
    exact ⟨a', c', by simpa using k1, k2, k3.trans (Sub.inr _ _)⟩
/-- A row whose cells were turned, in its own block. -/
theorem rowsOK.turn {a : Option Addr} {c : Nat} {d' : List α} (s : Step X w (blkL a) X' w') (ho : Own R X' w' 0 tr a c d') : ∀ {L : List (List α)} {F : List Nat} {cs : List Value} (i : Nat) (d : List α), rowsOK R tr X w F cs L → L[i]? = some d → cs[i]? = some (.slice a d.length c) → d'.length = d.length →
    rowsOK R tr X' w' F cs (L.set i d')
  | [], _, _, i, d, h, hi, _, _ => by simp at hi
  | e :: L, _, _, 0, d, ⟨a1, c1, F2, r, h1, h2, h3, h4, h5⟩, hi, hc, hl => by
    simp at hi; subst hi; subst h1; subst h2
    simp at hc; obtain ⟨rfl, rfl⟩ := hc
    exact ⟨a1, c1, F2, r, rfl, by rw [hl], h3, ho, rowsOK.step s h5 h3.symm⟩
  | e :: L, _, _, i + 1, d, ⟨a1, c1, F2, r, h1, h2, h3, h4, h5⟩, hi, hc, hl => by
    subst h1; subst h2
    have hi' : L[i]? = some d := by simpa using hi
    have hc' : r[i]? = some (.slice a d.length c) := by simpa using hc
    obtain ⟨a', c', k1, k2, k3⟩ := rowsOK.get i d h5 hi'
    rw [hc'] at k1; simp at k1; obtain ⟨rfl, rfl⟩ := k1
    exact ⟨a1, c1, F2, r, rfl, rfl, h3, h4.step s fun b hb hm => h3 b hb (k3 b hm), rowsOK.turn s ho i d h5 hi' hc' hl⟩
/-- Another row put in a row's place. -/
theorem rowsOK.put {a : Option Addr} {c : Nat} {d' : List α} (ho : Own R X w 0 tr a c d') : ∀ {L : List (List α)} {F : List Nat} {cs : List Value} (i : Nat), rowsOK R tr X w F cs L → i < L.length → Ap (blkL a) F →
    ∃ F', rowsOK R tr X w F' (cs.set i (.slice a d'.length c)) (L.set i d') ∧ Sub F' (blkL a ++ F)
  | [], _, _, i, h, hi, _ => by simp at hi
  | e :: L, _, _, 0, ⟨a1, c1, F2, r, h1, h2, h3, h4, h5⟩, hi, p => by
    subst h1; subst h2
    exact ⟨blkL a ++ F2, ⟨a, c, F2, r, rfl, rfl, p.r, ho, h5⟩, Sub.app (Sub.inl _ _) ((Sub.inr _ _).trans (Sub.inr _ _))⟩
  | e :: L, _, _, i + 1, ⟨a1, c1, F2, r, h1, h2, h3, h4, h5⟩, hi, p => by
    subst h1; subst h2
    obtain ⟨F', k1, k2⟩ := rowsOK.put ho i h5 (by simpa using hi) p.r
    refine ⟨blkL a1 ++ F', ⟨a1, c1, F', _, rfl, rfl, (Ap.app p.l.symm h3).subr k2, h4, k1⟩, Sub.app ((Sub.inl _ _).trans (Sub.inr _ _)) (k2.trans (Sub.app (Sub.inl _ _) ((Sub.inr _ _).trans (Sub.inr _ _))))⟩
theorem rowsOK.flat (s : Sub X' X) : ∀ {L : List (List α)} {F : List Nat} {cs : List Value}, rowsOK R tr X w F cs L → (∀ b ∈ F, b ∉ X') → Flat (rSl R) X' w cs L
  | [], _, _, h, _ => h.2
  | d :: L, _, _, ⟨a, c, F2, r, h1, h2, h3, h4, h5⟩, hn => by
    subst h1; subst h2
    exact Flat.cons1 (rSl_mk (h4.sl s fun b hb => hn b (List.mem_append_left _ hb))) (rowsOK.flat s h5 fun b hb => hn b (List.mem_append_right _ hb))
/-- rows of our own, as a part of an object -/
def oRows {α : Type} (R : Rep α) (tr : TypeId) : Obj (List (List α)) where
  ok F X w cs L := rowsOK R tr X w F cs L
  step h s p := h.step s p
  mem h := h.mem
  old h := h.old
  less h s m := h.less s m
end
section
variable {P : Program} {ops : Array Oper} {Q : Exit → Act → World → Prop} {n : Nat} {f : Nat → Value} {u : List (Nat × Value)} {w : World} {next : Act → World → Prop}
variable {dst : Option Tmp} {ty : TypeId} {pos : String} {aft : Array Edge} {gd : Option (Nat × Bool)}
/-- a slice that is nil -/
def rNil (α : Type) : Rep (List α) where
  n := 1
  ok _ _ cs d := cs = [.slice none 0 0] ∧ d = []
  len h := by rw [h.1]; rfl
  evo h _ _ := h
  sub h _ := h
  one h u hu := by rw [h.1] at hu; simp at hu; subst hu; rfl
theorem flat_rNil {α : Type} {X : List Nat} : ∀ {m : Nat} {xs : List Value}, Flat (rNil α) X w xs (List.replicate m []) → xs = List.replicate m (.slice none 0 0)
  | 0, _, h => h
  | m + 1, _, h => by
    obtain ⟨cs, r, rfl, h1, h2⟩ := h
    rw [h1.1, flat_rNil h2]; rfl
/-- 'make([][]T, m)'. -/
theorem o_mkrows {α : Type} {R : Rep α} {tr : TypeId} {X : List Nat} {B : Nat} {t et bytes : TypeId} {l c : Operand} {kl kc : IntKind} (m : Int) (hB : B ≤ w.heap.size)
    (hg : Region.wanted ⟨dst, .makeSlice t l c, ty, pos, aft, gd⟩ (yielded ops (Fr n f u).tmps) = true)
    (hu : P.underlying t = some (.slice et)) (hi : (P.info? et).map (fun i => (i.zero, i.size, i.bytes)) = some (some (.slice none 0 0), 1, bytes))
    (hl : evf n f u l = .int kl m) (hc : evf n f u c = .int kc m) (hm : 0 ≤ m ∧ (bytes : Int) * m ≤ 281474976710656) (hm2 : inR .i64 m)
    (h : ∀ b w' X', Step X w [] X' w' → MO (oRows R tr) et [] B X' w' [b] b (List.replicate m.toNat ([] : List α)) → (∀ l, Old l w → Ap l [b]) → next (Fr n f (pusho dst (.slice (some ⟨b, 0, none⟩) m.toNat m.toNat) u)) w') :
    OpW P ops Q ⟨dst, .makeSlice t l c, ty, pos, aft, gd⟩ n f u w next := by
  have e : m = ((m.toNat : Nat) : Int) := by omega
  have h2 := inR_i64.1 hm2
  obtain ⟨i, hi1, hi2, hi3, hi4⟩ := info_parts hi
  have hb : bytes * m.toNat ≤ 281474976710656 := by
    have : ((bytes * m.toNat : Nat) : Int) ≤ 281474976710656 := by rw [Int.natCast_mul, ← e]; exact hm.2
    exact Int.ofNat_le.1 this
  obtain ⟨w', hrun, ho, hgr⟩ := run_make_full (P := P) w 0 t et i (.slice none 0 0) 1 hu hi1 hi2 hi3 kl kc m.toNat (by rw [hi4]; exact hb) (by unfold maxLen; omega) (Nat.zero_le _)
  have hev : Evo [] w w' := ⟨hgr.os, hgr.tape, hgr.output, hgr.size, fun b hb _ => hgr.block b hb (by simp)⟩
  have hx := ho
  rcases hx.2 with ⟨h1, h2⟩ | ⟨g, cap, cur, hv, hbg, hgg, hnc, hcm, hcz, htake⟩
  · cases h1
  injection hv with e1 e2 e3
  injection e1 with e1
  injection e1 with e4 e5 _
  subst e4; subst e3
  have hcur : cur.toList = List.replicate m.toNat (.slice none 0 0) := by
    rw [← toList_madeCells_one]
    have e6 : (madeCells (Value.slice none 0 0).cells (m.toNat * 1)).toList = (madeCells #[Value.slice none 0 0] m.toNat).toList := by rw [Nat.mul_one]; rfl
    rw [← e6, ← htake, List.take_of_length_le (by simp [hcz])]
  refine o_val (w' := w') (.slice (some ⟨w.heap.size, 0, none⟩) m.toNat m.toNat) hg ?_ (h w.heap.size w' (w.heap.size :: X) (Step.fresh X hev w.heap.size (Nat.le_refl _) (Array.getElem?_eq_some_iff.1 hgg).1) ⟨⟨_, [], rfl, List.mem_cons_self, by simp, ?_, rowsOK.nils _⟩, ?_⟩ fun l hl x hx hm => by simp at hm; subst hm; exact absurd (hl _ hx) (Nat.lt_irrefl _))
  · have hl' : evf n f u l = .int kl ((m.toNat : Nat) : Int) := by rw [hl, ← e]
    have hc' : evf n f u c = .int kc ((m.toNat : Nat) : Int) := by rw [hc, ← e]
    generalize m.toNat = k at hl' hc' hrun ⊢
    simp [execOp, hl', hc', hrun]
  · show w'.heap[w.heap.size]? = _
    rw [hgg, ← hcur]
  · exact fun x hx => by simp at hx; subst hx; exact .inr hB
section
variable {α : Type} {R : Rep α} {tr et : TypeId} {X G F : List Nat} {B b : Nat} {L : List (List α)}
theorem MO.row [Inhabited α] {i : Int} (h : MO (oRows R tr) et G B X w F b L) (hi : inL L i) : ∃ ar cr, w.cell? ⟨b, 0 + i.toNat * 1, none⟩ = some (.slice ar (lget L i).length cr) ∧ Own R X w 0 tr ar cr (lget L i) := by
  obtain ⟨⟨cs, F', rfl, hb, hn, hk, ho⟩, hw⟩ := h
  have hL : L[i.toNat]? = some (lget L i) := by rw [List.getElem?_eq_getElem hi.lt, lget_eq hi]
  obtain ⟨a, c, h1, h2, h3⟩ := rowsOK.get i.toNat _ ho hL
  exact ⟨a, c, by rw [Nat.zero_add, Nat.mul_one, hk.cell]; exact h1, h2⟩
theorem MO.rowI [Inhabited α] {i : Int} (h : MO (oRows R tr) et G B X w F b L) (hi : inL L i) : ∃ ar cr, b < w.heap.size ∧ CellsAt w b (0 + i.toNat * 1) [.slice ar (lget L i).length cr] ∧ Sl R [] w ar cr (lget L i) := by
  obtain ⟨ar, cr, h1, h2⟩ := h.row hi
  refine ⟨ar, cr, ?_, fun j u hj => ?_, h2.sl (Sub.nil _) (fun _ _ hx => by cases hx)⟩
  · obtain ⟨⟨cs, F', rfl, hb, hn, hk, ho⟩, hw⟩ := h
    exact hk.lt
  · cases j with
    | zero => simp at hj; subst hj; exact h1
    | succ j => simp at hj
theorem MO.apold {α : Type} {O : Obj α} {et : TypeId} {X X0 F : List Nat} {B b : Nat} {d : α} (h : MO O et [] B X w F b d) (h0 : ∀ b ∈ X0, b < B) : Ap X0 F := fun x hx hm => by
  rcases h.2 x hm with h1 | h1
  · cases h1
  · have := h0 x hx; omega
/-- 'c[i] = row'. -/
theorem o_strow {t : TypeId} {x y : Operand} {a : Option Addr} {m c : Nat} {M : List α} {G' : List Nat} (i : Int) (hg : Region.wanted ⟨dst, .store t x y, ty, pos, aft, gd⟩ (yielded ops (Fr n f u).tmps) = true)
    (hM : MO (oRows R tr) et G B X w F b L) (hO : OS R G' B X w tr a m c M) (hp : Ap F (blkL a)) (hw : Wr G B (blkL a)) (hi : inL L i)
    (hx : evf n f u x = .pointer (some ⟨b, 0 + i.toNat * 1, none⟩)) (hy : evf n f u y = .slice a m c) (hs : ∀ w, (sizeOf t).run P w = .ok 1 w)
    (h : ∀ w' F', Step X w F X w' → MO (oRows R tr) et G B X w' F' b (lset L i M) → (∀ l, Ap l F → Ap l (blkL a) → Ap l F') → next (Fr n f (pusho dst undef u)) w') : OpW P ops Q ⟨dst, .store t x y, ty, pos, aft, gd⟩ n f u w next := by
  obtain ⟨⟨cs, F', rfl, hb, hn, hk, ho⟩, hwr⟩ := hM
  have hlen := rowsOK.length ho
  have hil : i.toNat < cs.length := by rw [hlen]; exact hi.lt
  rw [Nat.zero_add, Nat.mul_one] at hx
  have hset : cs.take i.toNat ++ (Value.slice a m c).cells.toList ++ cs.drop (i.toNat + (Value.slice a m c).cells.size) = cs.set i.toNat (.slice a m c) := by
    show cs.take i.toNat ++ [Value.slice a m c] ++ cs.drop (i.toNat + 1) = _
    rw [List.set_eq_take_append_cons_drop, if_pos hil]; simp
  refine o_store (cs.set i.toNat (.slice a m c)) hg hk hx hy hs (by rw [Nat.ble_eq]; show i.toNat + 1 ≤ _; omega) rfl hset fun w' he hk' => ?_
  have s : Step X w [b] X w' := Step.one he hb
  have hp2 : Ap [b] (b :: F') → False := fun h => h b (by simp) (by simp)
  have hb2 : b ∉ blkL a := hp b (by simp)
  have ho2 := ho.step s (fun x' hx' hm => by simp at hm; subst hm; exact hn hx')
  have hO2 := hO.2.1.step s (fun x' hx' hm => by simp at hm; subst hm; exact hb2 hx')
  obtain ⟨F2, k1, k2⟩ := rowsOK.put hO2 i.toNat ho2 hi.lt (fun x hx hm => hp x (List.mem_cons_of_mem _ hm) hx)
  have hm : m = M.length := hO.1
  refine h w' (b :: F2) ⟨he.mono (Nat.le_refl _) (fun x hx => .inl (by simp at hx; subst hx; simp)), Sub.of_cons hb ho.mem, Sub.refl _, fun _ h => .inl h⟩ ⟨⟨_, F2, rfl, hb, fun hm => ?_, hk', by rw [hm]; exact k1⟩, ?_⟩ ?_
  · rcases List.mem_append.1 (k2 b hm) with h1 | h1
    · exact hb2 h1
    · exact hn h1
  · intro x hx
    rcases List.mem_cons.1 hx with rfl | hx
    · exact hwr x (by simp)
    · rcases List.mem_append.1 (k2 x hx) with h1 | h1
      · exact hw x h1
      · exact hwr x (List.mem_cons_of_mem _ h1)
  · intro l h1 h2 z hz hm
    rcases List.mem_cons.1 hm with rfl | hm
    · exact h1 _ hz (by simp)
    · rcases List.mem_append.1 (k2 z hm) with h3 | h3
      · exact h2 z hz h3
      · exact h1 z hz (List.mem_cons_of_mem _ h3)
/-- 'c[i][j] = v'. -/
theorem o_stcell [Inhabited α] {t : TypeId} {x y : Operand} {ar : Option Addr} {br o cr : Nat} {v : Value} (i j : Int) (d : α) (hg : Region.wanted ⟨dst, .store t x y, ty, pos, aft, gd⟩ (yielded ops (Fr n f u).tmps) = true)
    (hM : MO (oRows R tr) et G B X w F b L) (hi : inL L i) (hc : CellsAt w b (0 + i.toNat * 1) [.slice ar (lget L i).length cr]) (ha : ar = some ⟨br, o, none⟩) (hj : inL (lget L i) j)
    (hx : evf n f u x = .pointer (some ⟨br, o + j.toNat * R.n, none⟩)) (hy : evf n f u y = v) (hs : ∀ w, (sizeOf t).run P w = .ok R.n w) (hv : ∀ w, R.ok X w v.cells.toList d)
    (h : ∀ w', Step X w F X w' → MO (oRows R tr) et G B X w' F b (lset L i (lset (lget L i) j d)) → next (Fr n f (pusho dst undef u)) w') : OpW P ops Q ⟨dst, .store t x y, ty, pos, aft, gd⟩ n f u w next := by
  obtain ⟨⟨cs, F', rfl, hb, hn, hk, ho⟩, hwr⟩ := hM
  have hL : L[i.toNat]? = some (lget L i) := by rw [List.getElem?_eq_getElem hi.lt, lget_eq hi]
  obtain ⟨a', c', h1, h2, h3⟩ := rowsOK.get i.toNat _ ho hL
  have hc := hc 0 _ rfl
  rw [Nat.add_zero, Nat.zero_add, Nat.mul_one, hk.cell, h1] at hc
  injection hc with hc
  injection hc with e1 _ e3
  subst e1; subst e3
  refine o_storeOwn (X := X) j.toNat d (lset (lget L i) j d) hg h2 ha hj.lt rfl hx hy hs hv fun w' s hO => ?_
  have k := rowsOK.turn s hO i.toNat _ ho hL h1 (by simp [lset])
  refine h w' ⟨s.evo.mono (Nat.le_refl _) (fun x hx => .inl (List.mem_cons_of_mem _ (h3 x hx))), Sub.of_cons hb ho.mem, Sub.refl _, fun _ h => .inl h⟩ ⟨⟨cs, F', rfl, hb, hn, hk.evo s.evo (fun hm => hn (h3 b hm)), k⟩, hwr⟩
theorem MO.rows_release {n : Nat} (h : MO (oRows R tr) et G B X w F b L) (hn : n = L.length) (hl : L.length ≤ maxLen) : ∃ X1, Sub X1 X ∧ Sl (rSl R) X1 w (some ⟨b, 0, none⟩) n L ∧ (∀ l, Ap l F → Sub l X → Sub l X1) := by
  subst hn
  obtain ⟨⟨cs, F', rfl, hb, hn, hk, ho⟩, hwr⟩ := h
  have hs : Sub (X.filter fun x => decide (x ∉ b :: F')) X := fun b hb => (List.mem_filter.1 hb).1
  have hno : ∀ x ∈ b :: F', x ∉ X.filter fun x => decide (x ∉ b :: F') := fun x hx hm => by have := (List.mem_filter.1 hm).2; simp only [decide_eq_true_eq] at this; exact this hx
  refine ⟨X.filter fun x => decide (x ∉ b :: F'), hs, ?_, fun l hl hs x hx => List.mem_filter.2 ⟨hs x hx, by simpa using hl x hx⟩⟩
  exact Blk.flat hk (hno b (by simp)) (rowsOK.flat hs ho fun x hx => hno x (List.mem_cons_of_mem _ hx)) _ rfl hl
end
end
end Go.Proofs.YtnnbnljofklieaaDoor
