/- More laws of operations: a text's bytes appended; arrays. It speaks of any program; nothing of the claim's own program stands here. -/
import Derived.Test.YtlkfoebophjhfaaGreatDoorObj
import Derived.Lib.AppendStr
namespace Go.Proofs.YtlkfoebophjhfaaGreatDoor
open Go
theorem strCells_bytesL (s : ByteArray) : Lib.strCells s = (bytesL s).map (Value.int .u8) := by unfold Lib.strCells bytesL; rw [List.map_map]; rfl
section
variable {P : Program} {w : World}
theorem run_appS (base : Nat) (t u ty e : TypeId) (i : TypeInfo) (ht : P.underlying t = some (.slice e)) (hu : P.underlying u = some .string) (hi : P.info? e = some i) (hz : i.zero = some (.int .u8 0))
    (hsize : i.size = 1) (hby : i.bytes = 1) {a0 : Option Addr} {c0 : Nat} (n : Nat) (xs : List Value) (hown : w.ownsRow base e 1 (.slice a0 n c0) n xs) (s : ByteArray)
    (h63 : n + s.size ≤ maxLen) (hbytes : n + s.size ≤ 140737488355328) (hbase : base ≤ w.heap.size) :
    ∃ a' c' w', (Builtin.append_ #[t, u] ty #[.slice a0 n c0, .string s]).run P w = .ok (.slice a' (n + s.size) c') w' ∧ w'.ownsRow base e 1 (.slice a' (n + s.size) c') (n + s.size) (xs ++ Lib.strCells s) ∧
      w.grownBy w' (Value.ownBlock (.slice a0 n c0)) ∧ (∀ b ∈ blkL a', b ∈ blkL a0 ∨ w.heap.size ≤ b) := by
  obtain ⟨v', w', hr, hown', hgr, _⟩ := Lib.run_append_own_string (P := P) w base t u ty e i ht hu hi hz hsize hby (.slice a0 n c0) n xs hown s h63 hbytes hbase
  have hform : ∃ a' c', v' = .slice a' (n + s.size) c' := by
    rcases hown'.2 with ⟨rfl, h0⟩ | ⟨g, cap, cur, rfl, _⟩
    · exact ⟨none, 0, by rw [h0]⟩
    · exact ⟨_, _, rfl⟩
  obtain ⟨a', c', rfl⟩ := hform
  refine ⟨a', c', w', hr, hown', hgr, ?_⟩
  have hxl : xs.length = n := by simpa using hown.1
  have hsmall : n + s.size ≤ 9223372036854775807 := by simp only [maxLen] at h63; omega
  rcases hown.2 with ⟨hv, h0⟩ | ⟨g, cap, cur, hv, hbg, hg, hnc, hcm, hcs, htake⟩
  · injection hv with e1 e2 e3
    subst e1; subst e3; subst h0
    have hx : xs = [] := List.eq_nil_of_length_eq_zero hxl
    subst hx
    obtain ⟨v2, w2, hr2, hown2, _, _⟩ := Lib.run_append_own_string (P := P) w w.heap.size t u ty e i ht hu hi hz hsize hby (.slice none 0 0) 0 [] (World.ownsRow_nil w w.heap.size e 1) s h63 hbytes (Nat.le_refl _)
    rw [hr2] at hr
    injection hr with e1 e2
    subst e1
    intro b hb
    refine .inr ?_
    have := hown2.lt b ((ownBlock_blkL _ _ _ _).2 hb)
    exact this.1
  · injection hv with e1 e2 e3
    subst e1; subst e3
    have hcs' : cur.size = c0 := by simpa using hcs
    by_cases hroom : n + s.size ≤ c0
    · have hr2 := Lib.run_append_room_string (P := P) w t u ty e i ht hu hi hsize g n c0 cur hg s hroom (by omega)
      rw [hr2] at hr
      injection hr with e1 _
      injection e1 with e2 _ _
      subst e2; intro b hb; exact .inl hb
    · have holds : ∀ j u, xs[j]? = some u → w.cell? ((⟨g, 0, none⟩ : Addr).add j) = some u := hown.cells (g := g) rfl
      have hr2 := Lib.run_append_grow_string (P := P) w t u ty e i (.int .u8 0) ht hu hi hz ⟨g, 0, none⟩ n c0 xs (by rw [hsize]; simpa using hxl) holds s (by omega) (by omega) (by rw [hby]; exact growslice_fits (by omega) (by omega))
      rw [hr2] at hr
      injection hr with e1 _
      injection e1 with e2 _ _
      subst e2; intro b hb; simp [blkL] at hb; exact .inr (by omega)
end
section
variable {P : Program} {ops : Array Oper} {Q : Exit → Act → World → Prop} {n : Nat} {f : Nat → Value} {u : List (Nat × Value)} {w : World} {next : Act → World → Prop}
variable {dst : Option Tmp} {ty : TypeId} {pos : String} {aft : Array Edge} {gd : Option (Nat × Bool)}
/-- 'append(x, s...)', s a text. -/
theorem o_appS {X G : List Nat} {B : Nat} {t t' et : TypeId} {x y : Operand} {a : Option Addr} {n1 c : Nat} {L : List Int} {sv : ByteArray}
    (hg : Region.wanted ⟨dst, .call ⟨.builtin .append, #[x, y], #[t, t']⟩, ty, pos, aft, gd⟩ (yielded ops (Fr n f u).tmps) = true)
    (hu : P.underlying t = some (.slice et)) (ht' : P.underlying t' = some .string) (hi : (P.info? et).map (fun i => (i.zero, i.size, i.bytes)) = some (some (.int .u8 0), 1, 1)) (hB : B ≤ w.heap.size)
    (hO : OS (rInt .u8) G B X w et a n1 c L) (hx : evf n f u x = .slice a n1 c) (hy : evf n f u y = .string sv)
    (hb : L.length + sv.size ≤ 140737488355328)
    (h : ∀ a' n' c' w' X', Step X w (blkL a) X' w' → OS (rInt .u8) G B X' w' et a' n' c' (L ++ bytesL sv) → (∀ l, Ap l (blkL a) → Old l w → Ap l (blkL a')) → next (Fr n f (pusho dst (.slice a' n' c') u)) w') :
    OpW P ops Q ⟨dst, .call ⟨.builtin .append, #[x, y], #[t, t']⟩, ty, pos, aft, gd⟩ n f u w next := by
  obtain ⟨i, hi1, hi2, hi3, hi4⟩ := info_parts hi
  obtain ⟨rfl, ⟨hbase, hmem, xs, ho, hf⟩, hW⟩ := hO
  have hm : L.length + sv.size ≤ maxLen := by unfold maxLen; omega
  obtain ⟨a', c', w', hr, hown, hgr, hnew⟩ := run_appS (P := P) 0 t t' ty et i hu ht' hi1 hi2 hi3 hi4 L.length xs ho sv hm hb (Nat.zero_le _)
  have hev : Evo (blkL a) w w' := ⟨hgr.os, hgr.tape, hgr.output, hgr.size, fun b hb hn => hgr.block b hb (fun e => hn ((ownBlock_blkL _ _ _ _).1 e.symm))⟩
  have hst : Step X w (blkL a) (blkL a' ++ X) w' := by
    refine ⟨hev, hmem, fun b hb => List.mem_append_right _ hb, fun b hb => ?_⟩
    rcases List.mem_append.1 hb with h | h
    · rcases hnew b h with h1 | h1
      · exact .inl (hmem b h1)
      · exact .inr ⟨h1, (hown.lt b ((ownBlock_blkL _ _ _ _).2 h)).2⟩
    · exact .inl h
  have hlen : (L ++ bytesL sv).length = L.length + sv.size := by rw [List.length_append, bytesL_len]
  refine o_val (w' := w') (.slice a' (L.length + sv.size) c') hg ?_ (h a' _ c' w' _ hst ⟨hlen.symm, ?_, fun x hx => ?_⟩ fun l hl ho x hx hm => ?_)
  · have hex : (execOp (evf n f u) ⟨dst, .call ⟨.builtin .append, #[x, y], #[t, t']⟩, ty, pos, aft, gd⟩).run P w = ((Builtin.append_ #[t, t'] ty #[.slice a L.length c, .string sv]).run P w).andThen fun v w' => .ok (.value v) w' := by
      unfold execOp
      simp only [resolve, invoke, builtin, Sem.run_bind, Sem.run_pure, Result.andThen_ok, List.map_toArray, List.map_cons, List.map_nil, hx, hy]
    rw [hex, hr]; rfl
  · refine ⟨Nat.zero_le _, fun b hb => List.mem_append_left _ hb, xs ++ Lib.strCells sv, by rw [hlen]; exact hown, ?_⟩
    rw [strCells_bytesL]
    exact ((hf.append (flat_ints _ (bytesL_u8 sv))).sub hst.new).evo hst.evo (hst.sub.trans hst.up)
  · rcases hnew x hx with h1 | h1
    · exact hW x h1
    · exact Or.inr (by omega)
  · rcases hnew x hm with h1 | h1
    · exact hl x hx h1
    · have := ho x hx; omega
end
/-! a pointer held against nil -/
section
variable {P : Program} {n : Nat} {f : Nat → Value} {u : List (Nat × Value)} {w : World} {dst : Option Tmp} {ty : TypeId} {pos : String} {aft : Array Edge} {gd : Option (Nat × Bool)}
theorem equal_ptr_nil {t e : TypeId} (a : Addr) (ht : P.underlying t = some (.pointer e)) : (Op.equal t (.pointer (some a)) (.pointer none)).run P w = .ok false w := by
  have h : ∀ d : Nat, (Op.equalIn (d + 1) t (.pointer (some a)) (.pointer none)).run P w = .ok false w := fun d => by simp [Op.equalIn, run_underlying ht]
  simp only [Op.equal, Op.maxDepth]
  exact h 9999
theorem x_pnil_eq {t t' : TypeId} {x y : Operand} {e : TypeId} {a : Addr} (ht : P.underlying t = some (.pointer e)) (hx : evf n f u x = .pointer (some a)) (hy : evf n f u y = .pointer none) :
    (execOp (evf n f u) ⟨dst, .binOp .eql t x y t', ty, pos, aft, gd⟩).run P w = .ok (.value (.bool false)) w := by
  simp [execOp, hx, hy, eqGuard, binOp, equal_ptr_nil a ht]
end
end Go.Proofs.YtlkfoebophjhfaaGreatDoor
