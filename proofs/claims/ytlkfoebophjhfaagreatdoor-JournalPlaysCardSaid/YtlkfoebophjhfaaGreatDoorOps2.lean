/- More laws of operations: rows that are made, elements that are stored, an error held against nil. It speaks of any program; nothing of the claim's own program stands here. -/
import Derived.Test.YtlkfoebophjhfaaGreatDoorOps
import Derived.OwnWalk
namespace Go.Proofs.YtlkfoebophjhfaaGreatDoor
open Go
section
variable {P : Program} {ops : Array Oper} {Q : Exit → Act → World → Prop} {n : Nat} {f : Nat → Value} {u : List (Nat × Value)} {w : World} {next : Act → World → Prop}
variable {dst : Option Tmp} {ty : TypeId} {pos : String} {aft : Array Edge} {gd : Option (Nat × Bool)}
theorem Flat.set {α : Type} {R : Rep α} {X : List Nat} {L : List α} {xs cs : List Value} {d : α} (h : Flat R X w xs L) (i : Nat) (hi : i < L.length) (hd : R.ok X w cs d) :
    Flat R X w (xs.take (i * R.n) ++ cs ++ xs.drop (i * R.n + R.n)) (L.set i d) := by
  have e : L.set i d = L.take i ++ (d :: L.drop (i + 1)) := List.set_eq_take_append_cons_drop .. |>.trans (by rw [if_pos hi])
  rw [e, List.append_assoc]
  refine (h.take i).append ⟨cs, _, rfl, hd, ?_⟩
  have := h.drop (i + 1)
  rwa [Nat.add_mul, Nat.one_mul] at this
/-- 'x[i] = v', x ours. -/
theorem o_storeOwn {α : Type} {R : Rep α} {X : List Nat} {base : Nat} {t et : TypeId} {x y : Operand} {a : Option Addr} {c b o : Nat} {L : List α} {v : Value} (i : Nat) (d : α) (L' : List α)
    (hg : Region.wanted ⟨dst, .store t x y, ty, pos, aft, gd⟩ (yielded ops (Fr n f u).tmps) = true)
    (hO : Own R X w base et a c L) (ha : a = some ⟨b, o, none⟩) (hi : i < L.length) (hL : L.set i d = L')
    (hx : evf n f u x = .pointer (some ⟨b, o + i * R.n, none⟩)) (hy : evf n f u y = v) (hs : ∀ w, (sizeOf t).run P w = .ok R.n w) (hv : ∀ w, R.ok X w v.cells.toList d)
    (h : ∀ w', Step X w (blkL a) X w' → Own R X w' base et a c L' → next (Fr n f (pusho dst undef u)) w') : OpW P ops Q ⟨dst, .store t x y, ty, pos, aft, gd⟩ n f u w next := by
  subst ha; subst hL
  obtain ⟨hbase, hmem, xs, ho, hf⟩ := hO
  have hxl := hf.length
  rcases ho.2 with ⟨h1, _⟩ | ⟨g, cap, cur, hsl, hbg, hgg, hnc, hcm, hcs, htake⟩
  · cases h1
  injection hsl with e1 e2 e3
  injection e1 with e1
  injection e1 with e4 e5 _
  subst e4; subst e5; subst e3
  have hsz : v.cells.toList.length = R.n := R.len (hv w)
  have hsz' : v.cells.size = R.n := by simpa using hsz
  have hlt : i * R.n + R.n ≤ L.length * R.n := by
    have : (i + 1) * R.n ≤ L.length * R.n := Nat.mul_le_mul_right _ hi
    rwa [Nat.add_mul, Nat.one_mul] at this
  have hle : L.length * R.n ≤ c * R.n := Nat.mul_le_mul_right _ hnc
  have hst := run_storeCells_at (P := P) b (i * R.n) et v.cells.toList 0 cur w hgg (by rw [hsz, hcs]; omega) (fun u hu => R.one (hv w) u hu)
  rw [hsz] at hst
  have hev : Evo (blkL (some ⟨b, 0, none⟩)) w (w.setRow b (cur.toList.take (i * R.n + 0) ++ v.cells.toList ++ cur.toList.drop (i * R.n + 0 + R.n)).toArray) := by
    refine ⟨rfl, rfl, rfl, by simp, fun k _ hk => ?_⟩
    exact setRow_other w b k _ (fun e => hk (by simp [blkL, e]))
  have hstep : Step X w (blkL (some ⟨b, 0, none⟩)) X (w.setRow b (cur.toList.take (i * R.n + 0) ++ v.cells.toList ++ cur.toList.drop (i * R.n + 0 + R.n)).toArray) := ⟨hev, hmem, Sub.refl _, fun _ h => .inl h⟩
  refine o_skip hg (w' := w.setRow b (cur.toList.take (i * R.n + 0) ++ v.cells.toList ++ cur.toList.drop (i * R.n + 0 + R.n)).toArray) ?_ (h _ hstep ?_)
  · simp [execOp, Instr.storeAt, Instr.sureAddr, hx, hy, storeVar, hs, hst, hsz']
  · refine ⟨Nat.le_trans hbase hev.size, hmem, xs.take (i * R.n) ++ v.cells.toList ++ xs.drop (i * R.n + R.n), ⟨?_, .inr ⟨b, c, _, ?_, hbg, setRow_heap w b _ _ _ _ hgg, ?_, hcm, ?_, ?_⟩⟩, (Flat.set hf i hi (hv w)).evo hev hmem⟩
    · rw [List.length_append, List.length_append, List.length_take, List.length_drop, hsz, hxl, List.length_set, Nat.min_eq_left (by omega)]; omega
    · rw [List.length_set]
    · rw [List.length_set]; exact hnc
    · have hcl : cur.toList.length = c * R.n := by simpa using hcs
      rw [List.size_toArray, List.length_append, List.length_append, List.length_take, List.length_drop, hsz, hcl, Nat.add_zero, Nat.min_eq_left (by omega)]; omega
    · rw [List.length_set]
      have hcl : cur.toList.length = c * R.n := by simpa using hcs
      have e1 : xs.take (i * R.n) = cur.toList.take (i * R.n) := by rw [← htake, List.take_take, Nat.min_eq_left (by omega)]
      have e2 : xs.drop (i * R.n + R.n) = (cur.toList.drop (i * R.n + R.n)).take (L.length * R.n - (i * R.n + R.n)) := by rw [← htake, List.drop_take]
      rw [e1, e2, List.toList_toArray, Nat.add_zero]
      have hl2 : (cur.toList.take (i * R.n) ++ v.cells.toList).length = i * R.n + R.n := by rw [List.length_append, List.length_take, hsz, hcl, Nat.min_eq_left (by omega)]
      rw [List.take_append, List.take_of_length_le (by rw [hl2]; omega), hl2]
/-! an error held against nil -/
theorem equal_iface_nil {t : TypeId} {ms : Array (String × TypeId)} (tp : TypeId) (v : Value) (ht : P.underlying t = some (.interface ms)) : (Op.equal t (.iface tp v) .nilIface).run P w = .ok false w := by
  have h : ∀ d : Nat, (Op.equalIn (d + 1) t (.iface tp v) .nilIface).run P w = .ok false w := fun d => by simp [Op.equalIn, run_underlying ht]
  simp only [Op.equal, Op.maxDepth]
  exact h 9999
theorem equal_nil_nil {t : TypeId} {ms : Array (String × TypeId)} (ht : P.underlying t = some (.interface ms)) : (Op.equal t .nilIface .nilIface).run P w = .ok true w := by
  have h : ∀ d : Nat, (Op.equalIn (d + 1) t .nilIface .nilIface).run P w = .ok true w := fun d => by simp [Op.equalIn, run_underlying ht]
  simp only [Op.equal, Op.maxDepth]
  exact h 9999
theorem x_inil_eq {t t' : TypeId} {x y : Operand} {ms : Array (String × TypeId)} {tp : TypeId} {v : Value} (ht : P.underlying t = some (.interface ms)) (hx : evf n f u x = .iface tp v) (hy : evf n f u y = .nilIface) :
    (execOp (evf n f u) ⟨dst, .binOp .eql t x y t', ty, pos, aft, gd⟩).run P w = .ok (.value (.bool false)) w := by
  simp [execOp, hx, hy, eqGuard, binOp, equal_iface_nil tp v ht]
theorem x_inil_ne {t t' : TypeId} {x y : Operand} {ms : Array (String × TypeId)} {tp : TypeId} {v : Value} (ht : P.underlying t = some (.interface ms)) (hx : evf n f u x = .iface tp v) (hy : evf n f u y = .nilIface) :
    (execOp (evf n f u) ⟨dst, .binOp .neq t x y t', ty, pos, aft, gd⟩).run P w = .ok (.value (.bool true)) w := by
  simp [execOp, hx, hy, eqGuard, binOp, equal_iface_nil tp v ht]
theorem x_nilnil_eq {t t' : TypeId} {x : Operand} {c : Value} {ms : Array (String × TypeId)} (ht : P.underlying t = some (.interface ms)) (hx : evf n f u x = .nilIface) (hy : evf n f u (.const c) = .nilIface) :
    (execOp (evf n f u) ⟨dst, .binOp .eql t x (.const c) t', ty, pos, aft, gd⟩).run P w = .ok (.value (.bool true)) w := by
  simp [execOp, hx, hy, eqGuard, binOp, equal_nil_nil ht]
theorem x_nilnil_ne {t t' : TypeId} {x : Operand} {c : Value} {ms : Array (String × TypeId)} (ht : P.underlying t = some (.interface ms)) (hx : evf n f u x = .nilIface) (hy : evf n f u (.const c) = .nilIface) :
    (execOp (evf n f u) ⟨dst, .binOp .neq t x (.const c) t', ty, pos, aft, gd⟩).run P w = .ok (.value (.bool false)) w := by
  simp [execOp, hx, hy, eqGuard, binOp, equal_nil_nil ht]
end
end Go.Proofs.YtlkfoebophjhfaaGreatDoor
