/- Texts that are written piece by piece; a pointer that an object has to itself; types that are asked for. It speaks of any program; nothing of the claim's own program stands here. -/
import Derived.Test.YtnnbnljofklieaaDoorErr
import Derived.Lib.UnsafeStr
import Derived.Lib.Builder
import Derived.Lib.ItoaLen
namespace Go.Proofs.YtnnbnljofklieaaDoor
open Go
/-- a pointer to the block itself, or none -/
def oSelf (b : Nat) : Obj Bool where
  ok F _ _ cs d := F = [] ∧ cs = [cond d (.pointer (some ⟨b, 0, none⟩)) (.pointer none)]
  step h _ _ := h
  mem h := by rw [h.1]; exact Sub.nil _
  old h := by rw [h.1]; exact Old.nil _
  less h _ _ := h
theorem oSelf_mk {b : Nat} {X : List Nat} {w : World} {d : Bool} : (oSelf b).ok [] X w [cond d (.pointer (some ⟨b, 0, none⟩)) (.pointer none)] d := ⟨rfl, rfl⟩
section
variable {P : Program} {ops : Array Oper} {Q : Exit → Act → World → Prop} {n : Nat} {f : Nat → Value} {u : List (Nat × Value)} {w : World} {next : Act → World → Prop}
variable {dst : Option Tmp} {ty : TypeId} {pos : String} {aft : Array Edge} {gd : Option (Nat × Bool)}
theorem x_self_eq {t t' : TypeId} {x y : Operand} {e : TypeId} {b : Nat} {d : Bool} (ht : P.underlying t = some (.pointer e)) (hx : evf n f u x = cond d (.pointer (some ⟨b, 0, none⟩)) (.pointer none)) (hy : evf n f u y = .pointer none) :
    (execOp (evf n f u) ⟨dst, .binOp .eql t x y t', ty, pos, aft, gd⟩).run P w = .ok (.value (.bool (!d))) w := by
  cases d with
  | true => exact x_pnil_eq ht hx hy
  | false =>
    have hx : evf n f u x = .pointer none := hx
    have h : ∀ d : Nat, (Op.equalIn (d + 1) t (.pointer none) (.pointer none)).run P w = .ok true w := fun d => by simp [Op.equalIn, run_underlying ht]
    have h2 : (Op.equal t (.pointer none) (.pointer none)).run P w = .ok true w := by simp only [Op.equal, Op.maxDepth]; exact h 9999
    simp [execOp, hx, hy, eqGuard, binOp, h2]
theorem x_self_ne {t t' : TypeId} {x y : Operand} {e : TypeId} {b : Nat} {d : Bool} {j : TypeInfo} (ht : P.underlying t = some (.pointer e)) (he : P.info? e = some j) (hx : evf n f u x = cond d (.pointer (some ⟨b, 0, none⟩)) (.pointer none)) (hy : evf n f u y = .pointer (some ⟨b, 0, none⟩)) :
    (execOp (evf n f u) ⟨dst, .binOp .neq t x y t', ty, pos, aft, gd⟩).run P w = .ok (.value (.bool (!d))) w := by
  cases d with
  | true =>
    have hx : evf n f u x = .pointer (some ⟨b, 0, none⟩) := hx
    simp [execOp, hx, hy, eqGuard, Lib.run_neq_ptr_same w ⟨b, 0, none⟩ ht he]
  | false =>
    have hx : evf n f u x = .pointer none := hx
    have h : ∀ d : Nat, (Op.equalIn (d + 1) t (.pointer none) (.pointer (some ⟨b, 0, none⟩))).run P w = .ok false w := fun d => by simp [Op.equalIn, run_underlying ht]
    have h2 : (Op.equal t (.pointer none) (.pointer (some ⟨b, 0, none⟩))).run P w = .ok false w := by simp only [Op.equal, Op.maxDepth]; exact h 9999
    simp [execOp, hx, hy, eqGuard, binOp, h2]
theorem Blk.shape {b : Nat} {cs : List Value} {t : TypeId} (h : Blk w b cs t) : w.shape? b = some (t, cs.length) := by
  unfold World.shape?; rw [h]; simp
theorem x_tounsafe {s d t bt : TypeId} {x : Operand} {b : Nat} {cs : List Value} {j : TypeInfo} (hk : Blk w b cs bt) (hpos : Nat.blt 0 cs.length = true) (hs : P.underlying s = some (.pointer t)) (hd : P.underlying d = some .unsafePointer) (ht : P.info? t = some j) (hj : Nat.beq j.size 0 = false)
    (hx : evf n f u x = .pointer (some ⟨b, 0, none⟩)) : (execOp (evf n f u) ⟨dst, .convert s d x, ty, pos, aft, gd⟩).run P w = .ok (.value (.pointer (some ⟨b, 0, none⟩))) w := by
  have hj' : j.size ≠ 0 := fun e => by rw [e] at hj; cases hj
  have := Lib.run_to_unsafe w (src := s) (dst := d) (t := t) (e := bt) (cells := cs.length) ⟨b, 0, none⟩ hs hd ht hj' hk.shape (blt_lt hpos)
  simp [execOp, hx, this]
theorem x_fromunsafe {s d t bt : TypeId} {x : Operand} {b : Nat} {cs : List Value} {j : TypeInfo} (hk : Blk w b cs bt) (hs : P.underlying s = some .unsafePointer) (hd : P.underlying d = some (.pointer t)) (ht : P.info? t = some j) (hl : liesAt P P.depth bt (cs.length / P.cellsOf bt) 0 t 1 = true)
    (hx : evf n f u x = .pointer (some ⟨b, 0, none⟩)) : (execOp (evf n f u) ⟨dst, .convert s d x, ty, pos, aft, gd⟩).run P w = .ok (.value (.pointer (some ⟨b, 0, none⟩))) w := by
  have := Lib.run_from_unsafe w (src := s) (dst := d) (u := t) (e := bt) (cells := cs.length) ⟨b, 0, none⟩ hs hd ht hk.shape hl
  simp [execOp, hx, this]
/-- Where a slice of ours has its data. -/
theorem o_sdata {X G : List Nat} {B : Nat} {t et e : TypeId} {x : Operand} {a : Option Addr} {n1 c : Nat} {L : List Int} (hg : Region.wanted ⟨dst, .call ⟨.builtin .unsafeSliceData, #[x], #[t]⟩, ty, pos, aft, gd⟩ (yielded ops (Fr n f u).tmps) = true)
    (hty : P.underlying ty = some (.pointer e)) (hO : OS (rInt .u8) G B X w et a n1 c L) (hx : evf n f u x = .slice a n1 c)
    (h : ∀ p w', Step X w [] X w' → (L = [] ∨ p = a) → next (Fr n f (pusho dst (.pointer p) u)) w') : OpW P ops Q ⟨dst, .call ⟨.builtin .unsafeSliceData, #[x], #[t]⟩, ty, pos, aft, gd⟩ n f u w next := by
  have hex : (execOp (evf n f u) ⟨dst, .call ⟨.builtin .unsafeSliceData, #[x], #[t]⟩, ty, pos, aft, gd⟩).run P w = ((Builtin.unsafeSliceData_ #[t] ty #[.slice a n1 c]).run P w).andThen fun v w' => .ok (.value v) w' := by
    unfold execOp
    simp only [resolve, invoke, builtin, Sem.run_bind, Sem.run_pure, Result.andThen_ok, List.map_toArray, List.map_cons, List.map_nil, hx]
  have h0 := Step.of0 X (RB.refl w.heap.size [] w)
  obtain ⟨rfl, ⟨_, _, xs, ho, hf⟩, _⟩ := hO
  rcases ho.2 with ⟨hv, hz⟩ | ⟨g, cap, cur, hv, _, hg', hnc, _, hcs, _⟩
  · injection hv with e1 e2 e3; subst e1; subst e3
    refine o_val (w' := w) _ hg (by rw [hex, Lib.run_unsafeSliceData_nil]; rfl) (h none w h0 (.inr rfl))
  · injection hv with e1 e2 e3; subst e1; subst e3
    by_cases hc : c = 0
    · subst hc
      have hL : L = [] := List.eq_nil_of_length_eq_zero (by omega)
      have hsh : w.shape? g = some (et, cur.size) := by unfold World.shape?; rw [hg']
      refine o_val (w' := w.alloc (.view ⟨g, 0, none⟩ e)) _ hg (by rw [hex, Lib.run_unsafeSliceData_zero w #[t] ty e hty ⟨g, 0, none⟩ L.length _ hsh]; rfl) (h _ _ (Step.of0 X (Evo.alloc w _)) (.inl hL))
    · refine o_val (w' := w) _ hg (by rw [hex, Lib.run_unsafeSliceData_row w #[t] ty ⟨g, 0, none⟩ L.length c hc]; rfl) (h _ w h0 (.inr rfl))
theorem freeze_evo (w : World) (b : Nat) (k : Nat) : Evo [b] w (w.freeze ⟨b, 0, none⟩ k) := by
  unfold World.freeze
  split
  · exact RB.refl _ _ _
  · refine ⟨rfl, rfl, rfl, by simp, fun x _ hk => ?_⟩
    have : ¬ b = x := fun e => hk (by simp [e])
    simp [Array.getElem?_modify, this]
/-- .. taken as a text: nobody writes it from there on. -/
theorem o_ustr {X G : List Nat} {B : Nat} {t ti et : TypeId} {x y : Operand} {a p : Option Addr} {n1 c : Nat} {L : List Int} (hg : Region.wanted ⟨dst, .call ⟨.builtin .unsafeString, #[x, y], #[t, ti]⟩, ty, pos, aft, gd⟩ (yielded ops (Fr n f u).tmps) = true)
    (ht : P.underlying t = some (.pointer et)) (hc : P.cellsOf et = 1) (hO : OS (rInt .u8) G B X w et a n1 c L) (hp : L = [] ∨ p = a) (hx : evf n f u x = .pointer p) (hy : evf n f u y = .int .i64 (L.length : Int))
    (h : ∀ w', Step X w (blkL a) X w' → next (Fr n f (pusho dst (.string (strOfNums L)) u)) w') : OpW P ops Q ⟨dst, .call ⟨.builtin .unsafeString, #[x, y], #[t, ti]⟩, ty, pos, aft, gd⟩ n f u w next := by
  have hex : (execOp (evf n f u) ⟨dst, .call ⟨.builtin .unsafeString, #[x, y], #[t, ti]⟩, ty, pos, aft, gd⟩).run P w = ((Builtin.unsafeString_ #[t, ti] ty #[.pointer p, .int .i64 (L.length : Int)]).run P w).andThen fun v w' => .ok (.value v) w' := by
    unfold execOp
    simp only [resolve, invoke, builtin, Sem.run_bind, Sem.run_pure, Result.andThen_ok, List.map_toArray, List.map_cons, List.map_nil, hx, hy]
  have hS := hO.rd
  obtain ⟨rfl, ⟨_, hmem, xs, ho, hf⟩, _⟩ := hO
  by_cases hL : L = []
  · subst hL
    refine o_val (w' := w) _ hg ?_ (h w ⟨RB.refl _ _ _, hmem, Sub.refl _, fun _ h => .inl h⟩)
    have h0 : (([] : List Int).length : Int) = 0 := rfl
    rw [hex, h0, Lib.run_unsafeString_none]; rfl
  · rcases ho.2 with ⟨_, hz⟩ | ⟨g, cap, cur, hv, _, hg', hnc, hcm, hcs, htake⟩
    · exact absurd (List.eq_nil_of_length_eq_zero hz) hL
    injection hv with e1 e2 e3; subst e1; subst e3
    obtain rfl := hp.resolve_left hL
    have hsh : w.shape? g = some (et, cur.size) := by unfold World.shape?; rw [hg']
    have hu := Sl.u8s hS
    have hcur : cur.size = c := by have h1 : (rInt .u8).n = 1 := rfl; rw [h1] at hcs; omega
    have hlen : (L.map fun z => UInt8.ofNat z.toNat).length = L.length := List.length_map _
    have hr := Lib.run_unsafeString_row (P := P) w t ti ty et ht hc g cur.size hsh (L.map fun z => UInt8.ofNat z.toNat) (by simpa using hL) (by rw [hlen]; omega) (by rw [hlen]; exact hS.len) (fun j v hj => by
      have hx2 := Flat.u8 hf
      rw [List.getElem?_map] at hj
      cases hk : L[j]? with
      | none => rw [hk] at hj; cases hj
      | some z =>
        rw [hk] at hj; injection hj with hj
        have hz := hu z (List.mem_of_getElem? hk)
        rw [inR_u8] at hz
        have hcell := ho.cells (g := g) rfl j (.int .u8 z) (by rw [hx2, List.getElem?_map, hk]; rfl)
        rw [hcell, ← hj]
        congr 2
        simp only [UInt8.toNat_ofNat']
        omega)
    rw [hlen] at hr
    refine o_val (w' := w.freeze ⟨g, 0, none⟩ L.length) _ hg (by rw [hex, hr]; rfl) (h _ (Step.one (freeze_evo w g L.length) (hmem g (by simp [blkL]))))
/-! values that are asked for their types -/
open Go.Extern
theorem rlm_ (z : Sem Value) (f : TypeId → Addr → Nat → Nat → Sem Value) (v : Value) : ReflectliteValue.method z f #[v] = (do match ← ReflectliteValue.parts v with | none => z | some (t, a, fl) => f t a fl (fl % 32)) := rfl
theorem run_visnil {t e : TypeId} {W : World} {H : Value} {a p : Addr} {z : Sem Value} (hu : P.underlying t = some (.pointer e)) (hp : ∀ w, (ReflectliteValue.parts (.agg #[H, .pointer (some a), .int .u64 150])).run P w = .ok (some (t, a, 150)) w) (ha : W.cell? a = some (.pointer (some p))) :
    (ReflectliteValue.method z ReflectliteValue.isNil #[.agg #[H, .pointer (some a), .int .u64 150]]).run P W = .ok (.bool false) W := by
  rw [rlm_]
  simp only [Sem.run_bind, hp, Result.andThen]
  simp [ReflectliteValue.isNil, loadVar, isAgg, underlying, hu, ha, Result.andThen]
theorem run_velem {t e : TypeId} {W : World} {H H' : Value} {a p : Addr} {z : Sem Value} (hu : P.underlying t = some (.pointer e)) (hp : ∀ w, (ReflectliteValue.parts (.agg #[H, .pointer (some a), .int .u64 150])).run P w = .ok (some (t, a, 150)) w) (ha : W.cell? a = some (.pointer (some p)))
    (he : ∀ w, (Rtype.elem? t).run P w = .ok (some e) w) (hm : ∀ w, (ReflectliteValue.mk e p ReflectliteValue.flagAddr).run P w = .ok (.agg #[H', .pointer (some p), .int .u64 406]) w) :
    (ReflectliteValue.method z ReflectliteValue.elem #[.agg #[H, .pointer (some a), .int .u64 150]]).run P W = .ok (.agg #[H', .pointer (some p), .int .u64 406]) W := by
  rw [rlm_]
  simp only [Sem.run_bind, hp, Result.andThen]
  simp [ReflectliteValue.elem, loadVar, isAgg, underlying, hu, ha, Result.andThen, he, hm]
theorem rls_ (v x : Value) : ReflectliteValue.set #[v, x] = (do
    let (some (dst, a, fl), some (src, b, _)) := (← ReflectliteValue.parts v, ← ReflectliteValue.parts x)
      | unsupported (.noEntry "extern/(internal/reflectlite.Value).Set.zeroValue")
    if fl / ReflectliteValue.flagAddr % 2 == 0 then unsupported (.noEntry "extern/(internal/reflectlite.Value).Set.unaddressable")
    let val ← loadVar src b
    if ← Rtype.directlyAssignable dst src then storeVar dst a val
    else if ← Rtype.implements dst src then
      if (← Rtype.kind src) == 20 then
        match val with
        | .nilIface => unsupported (.noEntry "extern/reflectlite: a nil value of one interface type handed on as a value of another")
        | _ => storeVar dst a val
      else storeVar dst a (.iface src val)
    else panicString ("reflectlite.Set: value of type " ++ (← Rtype.spelt src) ++ " is not assignable to type " ++ (← Rtype.spelt dst))
    pure (.tuple #[])) := rfl
/-- A call of a function whose text the model holds, as far as that text. -/
theorem x_extr {fid : FuncId} {xs : Array Operand} {tys : Array TypeId} {fn : Func} {e : Array Value → Sem Value} (hf : P.funcs[fid]? = some fn) (h1 : (fn.name == "runtime.NumGoroutine") = false) (h2 : fn.body.isNone = true) (h3 : Extern.findNext fn = none) (h4 : Extern.find fn = some e)
    (args : Array Value) (hargs : xs.map (evf n f u) = args) : (execOp (evf n f u) ⟨dst, .call ⟨.value (.func fid), xs, tys⟩, ty, pos, aft, gd⟩).run P w = ((e args).run P w).andThen fun v w' => .ok (.value v) w' := by
  subst hargs
  have hcall := run_callFunc_extern hf h1 h2 h3 h4 (xs.map (evf n f u)) w
  simp only [execOp, resolve, evf, Deferred.ofValue]
  simpa [invoke] using hcall
/-- What an interface holds, in a block of its own. -/
theorem o_valof {op : Op} {X : List Nat} {B : Nat} {t : TypeId} {v H : Value} {k : Int} (hB : B ≤ w.heap.size) (hg : Region.wanted ⟨dst, op, ty, pos, aft, gd⟩ (yielded ops (Fr n f u).tmps) = true)
    (hr : (execOp (evf n f u) ⟨dst, op, ty, pos, aft, gd⟩).run P w = .ok (.value (.agg #[H, .pointer (some ⟨w.heap.size, 0, none⟩), .int .u64 k])) (w.alloc (.cells #[v] t)))
    (h : ∀ b w' X', Step X w [] X' w' → OB [] B X' w' b [v] t → (∀ l, Old l w → Ap l [b]) → next (Fr n f (pusho dst (.agg #[H, .pointer (some ⟨b, 0, none⟩), .int .u64 k]) u)) w') : OpW P ops Q ⟨dst, op, ty, pos, aft, gd⟩ n f u w next := by
  obtain ⟨s, o, p⟩ := ob_new (X := X) (cs := [v]) (t := t) hB rfl (Evo.alloc w _) (by have := Blk.new w #[v] t; simpa using this)
  exact o_val _ hg hr (h _ _ _ s o p)
/-- What a value that was asked for its type points to is turned. -/
theorem o_vset {op : Op} {X G : List Nat} {B b b2 : Nat} {t e bt : TypeId} {p : Addr} {old H : Value} (hg : Region.wanted ⟨dst, op, ty, pos, aft, gd⟩ (yielded ops (Fr n f u).tmps) = true)
    (hO : OB G B X w b [old] bt) (hc : w.cell? ⟨b2, 0, none⟩ = some (.pointer (some p))) (hu : P.underlying t = some (.pointer e)) (hs : ∀ w, (sizeOf t).run P w = .ok 1 w)
    (hp1 : ∀ w, (ReflectliteValue.parts (.agg #[H, .pointer (some ⟨b, 0, none⟩), .int .u64 406])).run P w = .ok (some (t, ⟨b, 0, none⟩, 406)) w)
    (hp2 : ∀ w, (ReflectliteValue.parts (.agg #[H, .pointer (some ⟨b2, 0, none⟩), .int .u64 150])).run P w = .ok (some (t, ⟨b2, 0, none⟩, 150)) w)
    (hd : ∀ w, (Rtype.directlyAssignable t t).run P w = .ok true w)
    (hex : (execOp (evf n f u) ⟨dst, op, ty, pos, aft, gd⟩).run P w = ((ReflectliteValue.set #[.agg #[H, .pointer (some ⟨b, 0, none⟩), .int .u64 406], .agg #[H, .pointer (some ⟨b2, 0, none⟩), .int .u64 150]]).run P w).andThen fun v w' => .ok (.value v) w')
    (h : ∀ w', Step X w [b] X w' → OB G B X w' b [.pointer (some p)] bt → next (Fr n f (pusho dst (.tuple #[]) u)) w') : OpW P ops Q ⟨dst, op, ty, pos, aft, gd⟩ n f u w next := by
  have hst := run_storeCells_at (P := P) b 0 bt [.pointer (some p)] 0 #[old] w hO.2.1 (by simp) (fun u hu => by simp at hu; subst hu; rfl)
  have hrun : (ReflectliteValue.set #[.agg #[H, .pointer (some ⟨b, 0, none⟩), .int .u64 406], .agg #[H, .pointer (some ⟨b2, 0, none⟩), .int .u64 150]]).run P w = .ok (.tuple #[]) (w.setRow b #[.pointer (some p)]) := by
    rw [rls_]
    simp only [Sem.run_bind, hp1, hp2, Result.andThen]
    simp at hst
    simp [ReflectliteValue.flagAddr, loadVar, isAgg, underlying, hu, hc, Result.andThen, hd, storeVar, hs, Value.cells, hst]
  have he : Evo [b] w (w.setRow b #[.pointer (some p)]) := ⟨rfl, rfl, rfl, by simp, fun k _ hk => setRow_other w b k _ (fun e => hk (by simp [e]))⟩
  refine o_val (w' := w.setRow b #[.pointer (some p)]) _ hg (by rw [hex, hrun]; rfl) (h _ (Step.one he hO.1) ⟨hO.1, setRow_heap w b _ _ _ _ hO.2.1, hO.2.2⟩)
theorem x_ptro_eq {α : Type} {R : Rep α} {et : TypeId} {X : List Nat} {v : Value} {pd : Option α} {t t' : TypeId} {x y : Operand} {e : TypeId} (hr : (rPtrO R et).ok X w [v] pd) (ht : P.underlying t = some (.pointer e)) (hx : evf n f u x = v) (hy : evf n f u y = .pointer none) :
    (execOp (evf n f u) ⟨dst, .binOp .eql t x y t', ty, pos, aft, gd⟩).run P w = .ok (.value (.bool pd.isNone)) w := by
  cases pd with
  | none =>
    have h : ([v] : List Value) = [.pointer none] := hr
    injection h with h _; subst h
    exact x_self_eq (b := 0) (d := false) ht hx hy
  | some d =>
    obtain ⟨b, cs, h, _, _, _⟩ := hr
    injection h with h _; subst h
    exact x_pnil_eq ht hx hy
theorem x_ptro_ne {α : Type} {R : Rep α} {et : TypeId} {X : List Nat} {v : Value} {pd : Option α} {t t' : TypeId} {x y : Operand} {e : TypeId} (hr : (rPtrO R et).ok X w [v] pd) (ht : P.underlying t = some (.pointer e)) (hx : evf n f u x = v) (hy : evf n f u y = .pointer none) :
    (execOp (evf n f u) ⟨dst, .binOp .neq t x y t', ty, pos, aft, gd⟩).run P w = .ok (.value (.bool (!pd.isNone))) w := by
  cases pd with
  | none =>
    have h : ([v] : List Value) = [.pointer none] := hr
    injection h with h _; subst h
    have h : ∀ d : Nat, (Op.equalIn (d + 1) t (.pointer none) (.pointer none)).run P w = .ok true w := fun d => by simp [Op.equalIn, run_underlying ht]
    have h2 : (Op.equal t (.pointer none) (.pointer none)).run P w = .ok true w := by simp only [Op.equal, Op.maxDepth]; exact h 9999
    simp [execOp, hx, hy, eqGuard, binOp, h2]
  | some d =>
    obtain ⟨b, cs, h, _, _, _⟩ := hr
    injection h with h _; subst h
    exact x_pnil_ne ht hx hy
end
end Go.Proofs.YtnnbnljofklieaaDoor
