/- Slices that are full (as long as their room), that are read only and appended to. It speaks of any program; nothing of the claim's own program stands here. -/
import Derived.Test.YtlkfoebophjhfaaGreatDoorArr
namespace Go.Proofs.YtlkfoebophjhfaaGreatDoor
open Go
section
variable {P : Program} {ops : Array Oper} {Q : Exit → Act → World → Prop} {n : Nat} {f : Nat → Value} {u : List (Nat × Value)} {w : World} {next : Act → World → Prop}
variable {dst : Option Tmp} {ty : TypeId} {pos : String} {aft : Array Edge} {gd : Option (Nat × Bool)}
/-- 'x[:i:i]'. -/
theorem o_slice3F {α : Type} {R : Rep α} {X : List Nat} {t : TypeId} {x hx mx : Operand} {et : TypeId} {a : Option Addr} {m c : Nat} {L : List α} {k k' : IntKind} (hi : Int)
    (ht : P.underlying t = some (.slice et)) (hs : ∀ w, (sizeOf et).run P w = .ok R.n w) (hS : Sl R X w a c L) (hxx : evf n f u x = .slice a m c) (hm : m = L.length)
    (hg : Region.wanted ⟨dst, .slice t x none (some hx) (some mx), ty, pos, aft, gd⟩ (yielded ops (Fr n f u).tmps) = true)
    (hh : evf n f u hx = .int k hi) (hmx : evf n f u mx = .int k' hi) (h1 : 0 ≤ hi ∧ hi ≤ (L.length : Int))
    (h : ∀ a', Sl R X w a' (L.take hi.toNat).length (L.take hi.toNat) → next (Fr n f (pusho dst (.slice a' (L.take hi.toNat).length (L.take hi.toNat).length) u)) w) : OpW P ops Q ⟨dst, .slice t x none (some hx) (some mx), ty, pos, aft, gd⟩ n f u w next := by
  have e : hi = ((hi.toNat : Nat) : Int) := by omega
  have hc := hS.1
  have el : (L.take hi.toNat).length = hi.toNat := by simp; omega
  refine o_slice3 hi.toNat hi.toNat _ ht hs hS hxx hm hg (.inr ⟨k, by show some (evf n f u hx) = _; rw [hh, ← e]⟩) (.inr ⟨k', by show some (evf n f u mx) = _; rw [hmx, ← e]⟩) ⟨Nat.le_refl _, by omega, by omega⟩ rfl fun a' hs' => ?_
  have := h a' (by rw [el]; exact hs')
  rw [el] at this ⊢
  exact this
end
/-! bytes that are written out, as bytes: the row is marked, and only read from there on -/
section
variable {P : Program} {ops : Array Oper} {Q : Exit → Act → World → Prop} {n : Nat} {f : Nat → Value} {u : List (Nat × Value)} {w : World} {next : Act → World → Prop}
variable {dst : Option Tmp} {ty : TypeId} {pos : String} {aft : Array Edge} {gd : Option (Nat × Bool)}
theorem o_mark {X G : List Nat} {B : Nat} {t et : TypeId} {x : Operand} {b m c : Nat} {L : List Int} (hg : Region.wanted ⟨dst, .convert t t x, ty, pos, aft, gd⟩ (yielded ops (Fr n f u).tmps) = true)
    (ht : P.underlying t = some (.slice et)) (he : P.underlying et = some (.int .u8)) (hO : OS (rInt .u8) G B X w et (some ⟨b, 0, none⟩) m c L) (hx : evf n f u x = .slice (some ⟨b, 0, none⟩) m c)
    (h : ∀ w' X1, Step X w [b] X w' → Sub X1 X → Sl (rInt .u8) X1 w' (some ⟨b, 0, none⟩) c L → (∀ l, Ap l [b] → Sub l X → Sub l X1) → next (Fr n f (pusho dst (.slice (some ⟨b, 0, none⟩) m c) u)) w') :
    OpW P ops Q ⟨dst, .convert t t x, ty, pos, aft, gd⟩ n f u w next := by
  obtain ⟨rfl, ⟨_, hmem, xs, ho, hf⟩, hW⟩ := hO
  obtain ⟨hxl, h2⟩ := ho
  rcases h2 with ⟨h2, _⟩ | ⟨g, cap, cur, hv, _, hg', hnc, hcm, hcs, htake⟩
  · cases h2
  injection hv with e1 e2 e3
  injection e1 with e1; injection e1 with e1 _ _
  subst e1; subst e3
  have hbX : b ∈ X := hmem b (by simp [blkL])
  have hlt : b < w.heap.size := (Array.getElem?_eq_some_iff.1 hg').1
  have hn1 : ¬ ((1 : Nat) = 0) := by decide
  have hE : Evo [b] w (w.freeze ⟨b, cur.size, none⟩ 1) := by
    unfold World.freeze; rw [if_neg hn1]
    refine ⟨rfl, rfl, rfl, by simp, fun k _ hk => ?_⟩
    have : ¬ b = k := fun e => hk (by simp [e])
    simp [Array.getElem?_modify, this]
  have hb' : (w.freeze ⟨b, cur.size, none⟩ 1).heap[b]? = some (.cells cur et (cur.size, cur.size + 1)) := by
    unfold World.freeze; rw [if_neg hn1]
    simp [Array.getElem?_modify, hg']
  have hr : (convert t t (.slice (some ⟨b, 0, none⟩) L.length c)).run P w = .ok (.slice (some ⟨b, 0, none⟩) L.length c) (w.freeze ⟨b, cur.size, none⟩ 1) := by
    simp [convert, run_underlying ht, run_underlying he, markStringish, World.shape?, hg']
  refine o_val (w' := w.freeze ⟨b, cur.size, none⟩ 1) _ hg (by simp [execOp, hx, hr]) (h _ (X.filter fun x => decide (x ≠ b)) (Step.one hE hbX) (fun x hx => (List.mem_filter.1 hx).1) ?_ fun l hl hs x hx => List.mem_filter.2 ⟨hs x hx, ?_⟩)
  · refine ⟨hnc, hcm, .inr ⟨b, 0, xs, rfl, fun hm => ?_, by rw [← Nat.not_le]; intro hle; have := hE.size; omega, fun j v hj => ?_, ?_⟩⟩
    · have := (List.mem_filter.1 hm).2; simp at this
    · have hj2 : cur[j]? = some v := by
        rw [← htake] at hj
        rw [List.getElem?_take] at hj
        split at hj
        · simpa using hj
        · cases hj
      rw [Nat.zero_add]
      simp [World.cell?, hb', hj2]
    · have h3 := Flat.u8 hf
      subst h3
      refine flat_ints L fun y hy => ?_
      obtain ⟨k, hk, rfl⟩ := List.getElem_of_mem hy
      obtain ⟨cs, h4, _⟩ := hf.get k hk
      exact h4.2
  · have := hl x hx; simp at this; simpa using this
end
/-! what comes of a region is told to what follows, whatever it is -/
theorem apge {w : World} {B b : Nat} (h : ∀ l, Old l w → Ap l [b]) (hB : B ≤ w.heap.size) : B ≤ b := by
  rcases Nat.lt_or_ge b B with hb | hb
  · exact absurd (List.mem_cons_self) (h (List.range B) (fun x hx => Nat.lt_of_lt_of_le (List.mem_range.1 hx) hB) b (List.mem_range.2 hb))
  · exact hb
end Go.Proofs.YtlkfoebophjhfaaGreatDoor
