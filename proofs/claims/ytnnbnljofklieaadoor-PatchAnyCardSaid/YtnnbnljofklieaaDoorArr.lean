/- Arrays of numbers: in blocks, and as values. It speaks of any program; nothing of the claim's own program stands here. -/
import Derived.Test.YtnnbnljofklieaaDoorBits
import Derived.ChangeKeysEq
namespace Go.Proofs.YtnnbnljofklieaaDoor
open Go
def okArr (k : IntKind) (m : Nat) (e : List Int) : Prop := e.length = m ∧ ∀ x ∈ e, inR k x
def okArrB (k : IntKind) (m : Nat) (e : List Int) : Bool := e.length == m && e.all fun x => decide (k.min ≤ x) && decide (x ≤ k.max)
theorem okArr_lit {k : IntKind} {m : Nat} {e : List Int} (h : okArrB k m e = true) : okArr k m e := by
  unfold okArrB at h
  simp only [Bool.and_eq_true, beq_iff_eq, List.all_eq_true, decide_eq_true_eq] at h
  exact ⟨h.1, fun x hx => h.2 x hx⟩
theorem okArr_nil (k : IntKind) : okArr k 0 [] := ⟨rfl, fun _ h => by cases h⟩
theorem okArr_cons {k : IntKind} {m : Nat} {x : Int} {e : List Int} (hx : inR k x) (h : okArr k m e) : okArr k (m + 1) (x :: e) :=
  ⟨by simp [h.1], fun y hy => by cases hy with | head => exact hx | tail _ h1 => exact h.2 y h1⟩
theorem okArr_rep (k : IntKind) (m : Nat) : okArr k m (List.replicate m 0) := ⟨by simp, fun x hx => by
  rw [List.eq_of_mem_replicate hx]; exact ⟨kmin_le, kmax_ge⟩⟩
theorem okArr_get {k : IntKind} {m : Nat} {e : List Int} {i : Int} (h : okArr k m e) (hi : 0 ≤ i ∧ i < (m : Int)) : inR k (lget e i) :=
  h.2 _ (lget_mem ⟨hi.1, by rw [h.1]; exact hi.2⟩)
theorem okArr_set {k : IntKind} {m : Nat} {e : List Int} {i v : Int} (h : okArr k m e) (hv : inR k v) : okArr k m (lset e i v) :=
  ⟨by rw [len_lset]; exact h.1, fun x hx => by
    rcases List.mem_or_eq_of_mem_set hx with h1 | rfl
    · exact h.2 x h1
    · exact hv⟩
theorem okArr.len {k : IntKind} {m : Nat} {e : List Int} (h : okArr k m e) : e.length = m := h.1
def rArr (k : IntKind) (m : Nat) : Rep (List Int) where
  n := m
  ok _ _ cs e := cs = e.map (Value.int k) ∧ okArr k m e
  len h := by rw [h.1, List.length_map]; exact h.2.1
  evo h _ _ := h
  sub h _ := h
  one h c hc := by rw [h.1] at hc; obtain ⟨x, _, rfl⟩ := List.mem_map.1 hc; rfl
theorem rArr_mk {k : IntKind} {m : Nat} {e : List Int} {X : List Nat} {w : World} (h : okArr k m e) : (rArr k m).ok X w (e.map (Value.int k)) e := ⟨rfl, h⟩
theorem map_get {k : IntKind} {e : List Int} {i : Int} (h : inL e i) : (e.map (Value.int k))[i.toNat]? = some (.int k (lget e i)) := by
  rw [List.getElem?_map, List.getElem?_eq_getElem h.lt, lget_eq h]; rfl
theorem map_set {k : IntKind} {e : List Int} {i v : Int} (h : inL e i) : (e.map (Value.int k)).take i.toNat ++ [.int k v] ++ (e.map (Value.int k)).drop (i.toNat + 1) = (lset e i v).map (Value.int k) := by
  unfold lset
  rw [List.map_set, List.set_eq_take_append_cons_drop, if_pos (by simpa using h.lt)]
  simp
section
variable {P : Program} {ops : Array Oper} {Q : Exit → Act → World → Prop} {n : Nat} {f : Nat → Value} {u : List (Nat × Value)} {w : World} {next : Act → World → Prop}
variable {dst : Option Tmp} {ty : TypeId} {pos : String} {aft : Array Edge} {gd : Option (Nat × Bool)}
/-- An element of an array that is a value. -/
theorem x_aget {t et : TypeId} {x ix : Operand} {k k' : IntKind} {m : Nat} {i : Int} {e : List Int} (hx : evf n f u x = .agg (e.map (Value.int k)).toArray) (hi : evf n f u ix = .int k' i)
    (ht : P.underlying t = some (.array m et)) (ha : ∀ w, (isAgg et).run P w = .ok false w) (hs : ∀ w, (sizeOf et).run P w = .ok 1 w) (ok : okArr k m e) (h : 0 ≤ i ∧ i < (m : Int)) :
    (execOp (evf n f u) ⟨dst, .index t x ix, ty, pos, aft, gd⟩).run P w = .ok (.value (.int k (lget e i))) w := by
  have hg := map_get (k := k) (show inL e i from ⟨h.1, by rw [ok.1]; exact h.2⟩)
  simp [execOp, Instr.index, asIntOf, hx, hi, run_underlying ht, h, hs, part, ha]
  rw [List.getElem?_map] at hg
  simp [hg]
/-- The address of an element of an array in a block. -/
theorem x_ixR {t et : TypeId} {x ix : Operand} {b m : Nat} {k : IntKind} {i : Int} (ht : P.underlying t = some (.array m et)) (hs : ∀ w, (sizeOf et).run P w = .ok 1 w)
    (hx : evf n f u x = .pointer (some ⟨b, 0, none⟩)) (hi : evf n f u ix = .int k i) (h : 0 ≤ i ∧ i < (m : Int)) :
    (execOp (evf n f u) ⟨dst, .indexAddr t x ix, ty, pos, aft, gd⟩).run P w = .ok (.value (.pointer (some ⟨b, i.toNat, none⟩))) w := by
  simp [execOp, Instr.indexAt, asIntOf, Instr.sureAddr, hx, hi, run_underlying ht, h, hs, Addr_add]
theorem Blk.acell {b : Nat} {k : IntKind} {e : List Int} {ty : TypeId} {m : Nat} {i : Int} (h : Blk w b (e.map (Value.int k)) ty) (ok : okArr k m e) (hi : 0 ≤ i ∧ i < (m : Int)) : w.cell? ⟨b, i.toNat, none⟩ = some (.int k (lget e i)) :=
  h.cell' i.toNat (map_get ⟨hi.1, by rw [ok.1]; exact hi.2⟩)
theorem Blk.awhole {b : Nat} {k : IntKind} {e : List Int} {ty : TypeId} (h : Blk w b (e.map (Value.int k)) ty) : CellsAt w b 0 (e.map (Value.int k)) := h.cells' 0 (by rw [List.drop_zero, List.take_length])
theorem x_loadA {t : TypeId} {x : Operand} {b o m : Nat} {k : IntKind} (e : List Int) (hx : evf n f u x = .pointer (some ⟨b, o, none⟩)) (ha : ∀ w, (isAgg t).run P w = .ok true w) (hs : ∀ w, (sizeOf t).run P w = .ok m w) (ok : okArr k m e)
    (hc : CellsAt w b o (e.map (Value.int k))) : (execOp (evf n f u) ⟨dst, .load t x, ty, pos, aft, gd⟩).run P w = .ok (.value (.agg (e.map (Value.int k)).toArray)) w :=
  x_loadN (e.map (Value.int k)) hx ha (fun w => by rw [hs, List.length_map, ok.1]) hc
theorem cells_one {v : Value} (h : v.oneCell' = true) : v.cells = #[v] := by cases v <;> first | rfl | cases h
/-- A number stored into an array. -/
theorem o_stA {t bt : TypeId} {x y : Operand} {G X : List Nat} {B b m : Nat} {k : IntKind} {i v : Int} {e : List Int} (hg : Region.wanted ⟨dst, .store t x y, ty, pos, aft, gd⟩ (yielded ops (Fr n f u).tmps) = true)
    (hO : OB G B X w b (e.map (Value.int k)) bt) (hx : evf n f u x = .pointer (some ⟨b, i.toNat, none⟩)) (hy : evf n f u y = .int k v) (hs : ∀ w, (sizeOf t).run P w = .ok 1 w) (ok : okArr k m e) (hi : 0 ≤ i ∧ i < (m : Int))
    (h : ∀ w', Step X w [b] X w' → OB G B X w' b ((lset e i v).map (Value.int k)) bt → next (Fr n f (pusho dst undef u)) w') : OpW P ops Q ⟨dst, .store t x y, ty, pos, aft, gd⟩ n f u w next := by
  have hin : inL e i := ⟨hi.1, by rw [ok.1]; exact hi.2⟩
  refine o_stB _ hg hO hx hy hs ?_ rfl ?_ h
  · rw [Nat.ble_eq, List.length_map]; have := hin.lt; show i.toNat + 1 ≤ _; omega
  · exact map_set hin
/-- A whole array stored into a block. -/
theorem o_stW {t bt : TypeId} {x y : Operand} {G X : List Nat} {B b m : Nat} {k : IntKind} {e e' : List Int} (hg : Region.wanted ⟨dst, .store t x y, ty, pos, aft, gd⟩ (yielded ops (Fr n f u).tmps) = true)
    (hO : OB G B X w b (e.map (Value.int k)) bt) (hx : evf n f u x = .pointer (some ⟨b, 0, none⟩)) (hy : evf n f u y = .agg (e'.map (Value.int k)).toArray) (hs : ∀ w, (sizeOf t).run P w = .ok m w) (ok : okArr k m e) (ok' : okArr k m e')
    (h : ∀ w', Step X w [b] X w' → OB G B X w' b (e'.map (Value.int k)) bt → next (Fr n f (pusho dst undef u)) w') : OpW P ops Q ⟨dst, .store t x y, ty, pos, aft, gd⟩ n f u w next := by
  refine o_stB _ hg hO hx hy (fun w => ?_) ?_ ?_ ?_ h
  · rw [hs]; simp [Value.cells, ok'.1]
  · rw [Nat.ble_eq]; simp [Value.cells, ok.1, ok'.1]
  · simp [Value.cells, Value.oneCell']
  · simp [Value.cells, ok.1, ok'.1]
theorem rs_aggA {tmps : Array Value} {t : Tmp} {ct : TypeId} {b m : Nat} {k : IntKind} {e : List Int} {bt : TypeId} (h : tmps.getD t undef = .pointer (some ⟨b, 0, none⟩)) (ha : ∀ w, (isAgg ct).run P w = .ok true w) (hs : ∀ w, (sizeOf ct).run P w = .ok m w)
    (ok : okArr k m e) (hk : Blk w b (e.map (Value.int k)) bt) : ResV P tmps w (.cell t ct) (.agg (e.map (Value.int k)).toArray) := rs_agg (e.map (Value.int k)) h ha (fun w => by rw [hs, List.length_map, ok.1]) hk.awhole
/-! two arrays held against each other -/
theorem run_eqItems {e : TypeId} {k : IntKind} (hu : P.underlying e = some (.int k)) (ha : ∀ w, (isAgg e).run P w = .ok false w) (d : Nat) (xs ys : List Int) : ∀ (is : List Nat), (∀ i ∈ is, i < xs.length ∧ i < ys.length) →
    (Op.eqItems (d + 1) e 1 (xs.map (Value.int k)).toArray (ys.map (Value.int k)).toArray is).run P w = .ok (is.all fun i => xs.getD i 0 == ys.getD i 0) w
  | [], _ => by simp [Op.eqItems]
  | i :: is, h => by
    have hi := h i (by simp)
    have ih := run_eqItems hu ha d xs ys is (fun j hj => h j (List.mem_cons_of_mem _ hj))
    simp only [Op.eqItems, Sem.run_bind, part, ha, Result.andThen_ok, Nat.mul_one, Bool.false_eq_true, if_false]
    rw [List.getElem?_toArray, List.getElem?_toArray, List.getElem?_map, List.getElem?_map, List.getElem?_eq_getElem hi.1, List.getElem?_eq_getElem hi.2]
    simp only [Option.map_some, Sem.run_pure, Result.andThen_ok, Op.equalIn, Sem.run_bind, run_underlying hu, if_true]
    have e1 : xs.getD i 0 = xs[i] := by simp [List.getD, List.getElem?_eq_getElem hi.1]
    have e2 : ys.getD i 0 = ys[i] := by simp [List.getD, List.getElem?_eq_getElem hi.2]
    rw [List.all_cons, e1, e2]
    cases hb : (xs[i] == ys[i])
    · simp
    · simp [ih]
theorem all_get_eq {xs ys : List Int} {m : Nat} (hx : xs.length = m) (hy : ys.length = m) : ((List.range m).all fun i => xs.getD i 0 == ys.getD i 0) = decide (xs = ys) := by
  rw [Bool.eq_iff_iff, List.all_eq_true, decide_eq_true_eq]
  constructor
  · intro h
    refine List.ext_getElem (by rw [hx, hy]) fun i h1 h2 => ?_
    have := h i (List.mem_range.2 (by omega))
    simpa [List.getD, h1, h2] using this
  · rintro rfl i _; simp
theorem equal_arr {t et : TypeId} {m : Nat} {k : IntKind} {i : TypeInfo} {xs ys : List Int} (ht : P.underlying t = some (.array m et)) (he : P.underlying et = some (.int k)) (hi : P.info? et = some i) (hc : P.cellsOf et = 1) (ha : ∀ w, (isAgg et).run P w = .ok false w)
    (hx : okArr k m xs) (hy : okArr k m ys) : (Op.equal t (.agg (xs.map (Value.int k)).toArray) (.agg (ys.map (Value.int k)).toArray)).run P w = .ok (decide (xs = ys)) w := by
  have h : ∀ d : Nat, (Op.equalIn (d + 1 + 1) t (.agg (xs.map (Value.int k)).toArray) (.agg (ys.map (Value.int k)).toArray)).run P w = .ok (decide (xs = ys)) w := fun d => by
    rw [run_equalIn_array w (d + 1) _ _ ht hi, hc, run_eqItems he ha d xs ys _ (fun j hj => by have := List.mem_range.1 hj; rw [hx.1, hy.1]; exact ⟨this, this⟩), all_get_eq hx.1 hy.1]
  simp only [Op.equal, Op.maxDepth]
  exact h 9998
theorem x_arreq {t t' et : TypeId} {m : Nat} {k : IntKind} {i : TypeInfo} {xs ys : List Int} {x y : Operand} (ht : P.underlying t = some (.array m et)) (he : P.underlying et = some (.int k)) (hi : P.info? et = some i) (hc : P.cellsOf et = 1) (hgd : P.eqGuardType P.depth t = false) (ha : ∀ w, (isAgg et).run P w = .ok false w)
    (hox : okArr k m xs) (hoy : okArr k m ys) (hx : evf n f u x = .agg (xs.map (Value.int k)).toArray) (hy : evf n f u y = .agg (ys.map (Value.int k)).toArray) :
    (execOp (evf n f u) ⟨dst, .binOp .eql t x y t', ty, pos, aft, gd⟩).run P w = .ok (.value (.bool (decide (xs = ys)))) w := by
  simp [execOp, hx, hy, eqGuard, hgd, binOp, equal_arr ht he hi hc ha hox hoy]
theorem x_arrne {t t' et : TypeId} {m : Nat} {k : IntKind} {i : TypeInfo} {xs ys : List Int} {x y : Operand} (ht : P.underlying t = some (.array m et)) (he : P.underlying et = some (.int k)) (hi : P.info? et = some i) (hc : P.cellsOf et = 1) (hgd : P.eqGuardType P.depth t = false) (ha : ∀ w, (isAgg et).run P w = .ok false w)
    (hox : okArr k m xs) (hoy : okArr k m ys) (hx : evf n f u x = .agg (xs.map (Value.int k)).toArray) (hy : evf n f u y = .agg (ys.map (Value.int k)).toArray) :
    (execOp (evf n f u) ⟨dst, .binOp .neq t x y t', ty, pos, aft, gd⟩).run P w = .ok (.value (.bool (!decide (xs = ys)))) w := by
  simp [execOp, hx, hy, eqGuard, hgd, binOp, equal_arr ht he hi hc ha hox hoy]
end
/-! a row that is written out, of data of more than one cell -/
theorem fold_set (off : Nat) : ∀ (c : List Value) (k : Nat) (cells : Array Value), off + k + c.length ≤ cells.size →
    ((c.zipIdx k).foldl (fun (cs : Array Value) (p : Value × Nat) => cs.setIfInBounds (off + p.2) p.1) cells).toList = cells.toList.take (off + k) ++ c ++ cells.toList.drop (off + k + c.length)
  | [], k, cells, _ => by simp
  | x :: c, k, cells, h => by
    simp only [List.length_cons] at h
    rw [List.zipIdx_cons, List.foldl_cons, fold_set off c (k + 1) _ (by simp; omega)]
    have h1 : off + k < cells.toList.length := by simp; omega
    simp only [Array.toList_setIfInBounds, List.length_cons]
    rw [show off + (k + 1) = off + k + 1 from rfl, List.drop_set_of_lt (by omega), show off + k + (c.length + 1) = off + k + 1 + c.length from by omega]
    congr 1
    rw [List.take_succ_eq_append_getElem (by simpa using h1), List.take_set_of_le (Nat.le_refl _)]
    simp
theorem fill_row (sz : Nat) : ∀ (vs : List (List Value)) (j : Nat) (cells : Array Value), (∀ c ∈ vs, c.length = sz) → (j + vs.length) * sz ≤ cells.size →
    ∃ out : Array Value, Instr.fill (fun i => some (i * sz, sz)) cells ((vs.zipIdx j).map fun p => (p.2, Value.agg p.1.toArray)) = some out ∧ out.toList = cells.toList.take (j * sz) ++ vs.flatten ++ cells.toList.drop ((j + vs.length) * sz)
  | [], j, cells, _, _ => ⟨cells, rfl, by simp⟩
  | c :: vs, j, cells, h, hs => by
    have hc := h c (by simp)
    simp only [List.length_cons] at hs
    have hm : (j + (vs.length + 1)) * sz = (j + 1 + vs.length) * sz := by rw [show j + (vs.length + 1) = j + 1 + vs.length from by omega]
    have hm2 : (j + 1) * sz = j * sz + sz := Nat.succ_mul j sz
    have hle : (j + 1) * sz ≤ (j + 1 + vs.length) * sz := Nat.mul_le_mul_right _ (by omega)
    have hf := fold_set (j * sz) c 0 cells (by rw [hc]; omega)
    generalize hn : (c.zipIdx 0).foldl (fun (cs : Array Value) (p : Value × Nat) => cs.setIfInBounds (j * sz + p.2) p.1) cells = cells2 at hf
    have hl2 : cells2.size = cells.size := by
      have := congrArg List.length hf
      simp only [List.length_append, List.length_take, List.length_drop, Array.length_toList] at this
      omega
    obtain ⟨out, ho, hot⟩ := fill_row sz vs (j + 1) cells2 (fun d hd => h d (List.mem_cons_of_mem _ hd)) (by rw [hl2]; omega)
    refine ⟨out, ?_, ?_⟩
    · rw [List.zipIdx_cons, List.map_cons]
      have e : (c.toArray.zipIdx.foldl (fun (cs : Array Value) (p : Value × Nat) => cs.setIfInBounds (j * sz + p.2) p.1) cells) = cells2 := by
        rw [← hn, ← Array.foldl_toList]; simp
      have h1 : ¬ ((Value.agg c.toArray).cells.size ≠ sz || decide (j * sz + (Value.agg c.toArray).cells.size > cells.size)) = true := by
        simp [Value.cells, hc]; omega
      simp only [Instr.fill]
      rw [if_neg h1]
      have e' : (Value.agg c.toArray).cells = c.toArray := rfl
      rw [e']
      exact (congrArg (fun z => Instr.fill (fun i => some (i * sz, sz)) z ((vs.zipIdx (j + 1)).map fun p => (p.2, Value.agg p.1.toArray))) e).trans ho
    · rw [hot, hf, List.flatten_cons]
      have a1 : (cells.toList.take (j * sz + 0)).length = j * sz := by simp; omega
      have t1 : (cells.toList.take (j * sz + 0) ++ c ++ cells.toList.drop (j * sz + 0 + c.length)).take ((j + 1) * sz) = cells.toList.take (j * sz) ++ c := by
        rw [List.take_append_of_le_length (by simp [hc]; omega), List.take_of_length_le (by simp [hc]; omega)]; simp
      have t2 : (cells.toList.take (j * sz + 0) ++ c ++ cells.toList.drop (j * sz + 0 + c.length)).drop ((j + 1 + vs.length) * sz) = cells.toList.drop ((j + (vs.length + 1)) * sz) := by
        have al : (cells.toList.take (j * sz + 0) ++ c).length = (j + 1) * sz := by simp [hc]; omega
        rw [List.drop_append, List.drop_of_length_le (by rw [al]; exact hle), List.nil_append, al, List.drop_drop, hm]
        congr 1
        rw [hc]; omega
      rw [t1, t2, List.length_cons]; simp
theorem x_rowG {P : Program} {n : Nat} {f : Nat → Value} {u : List (Nat × Value)} {w : World} {dst : Option Tmp} {ty : TypeId} {pos : String} {aft : Array Edge} {gd : Option (Nat × Bool)} {t et sz bts m : Nat} {z : Value} {ps : Array (Nat × Operand)} (vs : List (List Value)) (hu : P.underlying t = some (.slice et))
    (hi : (P.info? et).map (fun i => (i.zero, i.size, i.bytes)) = some (some z, sz, bts)) (hs : ∀ w, (sizeOf et).run P w = .ok sz w) (hp : (ps.map fun p => (p.1, evf n f u p.2)) = ((vs.zipIdx 0).map fun p => (p.2, Value.agg p.1.toArray)).toArray)
    (hl : ∀ c ∈ vs, c.length = sz) (hm : vs.length = m) (h24 : Nat.ble (m * sz) 16777216 = true) :
    (execOp (evf n f u) ⟨dst, .buildSlice t m ps, ty, pos, aft, gd⟩).run P w = .ok (.value (.slice (some ⟨w.heap.size, 0, none⟩) m m)) (w.alloc (.cells vs.flatten.toArray et)) := by
  obtain ⟨i, hi1, hi2, hi3, hi4⟩ := info_parts hi
  subst hm
  have h24' : ¬ (16777216 < vs.length * sz) := by have := ble_le h24; omega
  have hp' : ps.toList.map (fun x => (x.1, evf n f u x.2)) = (vs.zipIdx 0).map fun p => (p.2, Value.agg p.1.toArray) := by
    have := congrArg Array.toList hp; simpa using this
  have key : ∀ cells : Array Value, cells.size = vs.length * sz → Instr.fill (fun i => some (i * sz, sz)) cells (ps.toList.map fun x => (x.1, evf n f u x.2)) = some vs.flatten.toArray := by
    intro cells hc
    obtain ⟨out, ho, hot⟩ := fill_row sz vs 0 cells hl (by rw [hc]; simp)
    rw [hp', ho]
    congr 1
    apply Array.ext'
    rw [hot]
    simp [hc]
  by_cases h0 : vs.length * sz = 0
  · have k := key ((Array.range 0).map fun _ => default) (by simp [h0])
    simp [execOp, Instr.buildSlice, run_underlying hu, hs, h0, k, newRow]
  · have k := key ((Array.range (vs.length * sz)).map fun x => z.cells[x % z.cells.size]!) (by simp)
    simp [execOp, Instr.buildSlice, run_underlying hu, hs, h24', h0, k, newRow, zeroValue, typeInfo, hi1, hi2]
end Go.Proofs.YtnnbnljofklieaaDoor
