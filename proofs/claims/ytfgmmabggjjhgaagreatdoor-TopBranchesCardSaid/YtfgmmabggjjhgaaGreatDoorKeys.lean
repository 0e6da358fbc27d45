/- slices.Sorted(maps.Keys(m)), out of the library's proved functions: a new slice that holds the keys of a map, sorted. -/
import Derived.Test.YtfgmmabggjjhgaaGreatDoorStEq
import Derived.Test.YtfgmmabggjjhgaaGreatDoorLib
import Derived.Test.YtfgmmabggjjhgaaGreatDoorIt
import Derived.Sort.KeysCollected
namespace Go.Proofs.YtfgmmabggjjhgaaGreatDoor
open Go Go.RowKit Go.Shelf
open Go.WideElems (Fit rd rg)
section
variable {α : Type} {R : Rep α} {ag : Bool} {X : List Nat} {w : World} {P : Program} {kt : TypeId}
abbrev R0 : Value → Option (DataW Unit × List MemPlace) := fun _ => some (.nil, [])
theorem keyOf_s (hk : P.underlying kt = some .string) {s : ByteArray} (hs : s.size ≤ maxLen) : keyOf P kt (.string s) = some (.string s.data.toList) := by
  have : s.data.size ≤ maxLen := hs
  simp [keyOf, hk, mapKey]; exact hs
theorem ent_rd (hk : P.underlying kt = some .string) {e : MapEntry} {p : ByteArray × α} (h : EntOK R ag X w e p) : rd P kt R0 e = some (.string p.1.data.toList, .nil) := by
  obtain ⟨h1, h2, _⟩ := h
  unfold rd R0; rw [h1, keyOf_s hk h2]; rfl
theorem ents_rg (hk : P.underlying kt = some .string) : ∀ {es : List MapEntry} {L : List (ByteArray × α)}, EntsOK R ag X w es L → es.map (rg P kt R0) = L.map (fun p => (Lit.string p.1.data.toList, DataW.nil)) ∧ es.map (·.key) = L.map (fun p => Value.string p.1) ∧ ∀ x ∈ es, ∃ y, rd P kt R0 x = some y
  | [], _, h => by
    have h : _ = [] := h
    subst h; exact ⟨rfl, rfl, fun _ h => by cases h⟩
  | e :: es, _, h => by
    obtain ⟨p, L, rfl, h1, h2⟩ := h
    obtain ⟨a, b, c⟩ := ents_rg hk h2
    have hr := ent_rd hk h1
    refine ⟨?_, ?_, ?_⟩
    · rw [List.map_cons, List.map_cons, a]; unfold rg; rw [hr]; rfl
    · rw [List.map_cons, List.map_cons, b, h1.1]
    · intro x hx
      rcases List.mem_cons.1 hx with rfl | hx
      · exact ⟨_, hr⟩
      · exact c x hx
theorem ents_le : ∀ {es : List MapEntry} {L : List (ByteArray × α)}, EntsOK R ag X w es L → ∀ p ∈ L, p.1.size ≤ maxLen
  | [], _, h => by
    have h : _ = [] := h
    subst h; exact fun _ h => by cases h
  | e :: es, _, h => by
    obtain ⟨p, L, rfl, h1, h2⟩ := h
    intro q hq
    rcases List.mem_cons.1 hq with rfl | hq
    · exact h1.2.1
    · exact ents_le h2 q hq
def keysL (L : List (ByteArray × α)) : List (List UInt8) := L.map fun p => p.1.data.toList
/-- the keys of a map, sorted -/
def keysB (L : List (ByteArray × α)) : List ByteArray := ((keysL L).mergeSort leB).map fun x => ⟨x.toArray⟩
theorem keysB_len (L : List (ByteArray × α)) : (keysB L).length = L.length := by unfold keysB keysL; rw [List.length_map, List.length_mergeSort, List.length_map]
theorem MapAt.owns {r : Nat} {L : List (ByteArray × α)} (hk : P.underlying kt = some .string) (h : MapAt R ag X w r L) (hnd : (L.map (·.1)).Nodup) (hl : L.length ≤ maxLen) :
    ∃ D : DataW Unit, w.ownsMap P kt R0 r L.length D ∧ (strKeys D).Perm (keysL L) ∧ Maps.size D = L.length := by
  obtain ⟨es, clk, hb, he, hc⟩ := h
  obtain ⟨a, b, c⟩ := ents_rg (P := P) (kt := kt) hk he
  have hlen : es.size = L.length := by rw [← he.length]; simp
  have hp := Go.WideShapes.sorted_perm (es.toList.map (rg P kt R0))
  refine ⟨.map ((es.toList.map (rg P kt R0)).foldr DataW.insert []), ⟨es, clk, hb, ⟨by omega, ⟨hc.2, ?_, ?_⟩, c⟩, by omega, rfl⟩, ?_, ?_⟩
  · exact hc.1.imp fun h => Nat.ne_of_lt h
  · rw [b, show (L.map fun p => Value.string p.1) = (L.map (·.1)).map Value.string from by rw [List.map_map]; rfl]
    exact hnd.map _ fun x y hxy hh => hxy (by injection hh)
  · have := hp.map (fun p : Lit × DataW Unit => strOf p.1)
    show (((es.toList.map (rg P kt R0)).foldr DataW.insert []).map fun p => strOf p.1).Perm _
    refine this.trans ?_
    rw [a, List.map_map]; exact List.Perm.refl _
  · show ((es.toList.map (rg P kt R0)).foldr DataW.insert []).length = _
    rw [hp.length_eq, List.length_map]; simpa using hlen
end
theorem flat_enc {X : List Nat} {w : World} : ∀ (L : List (List UInt8)), (∀ x ∈ L, x.length ≤ maxLen) → Flat rStr X w (L.map encStr) (L.map fun x => (⟨x.toArray⟩ : ByteArray))
  | [], _ => rfl
  | x :: L, h => Flat.cons1 (rStr_mk (by
      show x.toArray.size ≤ _
      rw [List.size_toArray]; exact h x (by simp))) (flat_enc L fun y hy => h y (by simp [hy]))
theorem row_OS {X : List Nat} {t : TypeId} {B : Nat} {v : Value} {w w' : World} {ss : List (List UInt8)} (hB : B ≤ w.heap.size) (hrow : w'.ownsRow w.heap.size t 1 v ss.length (ss.map encStr)) (hb : Below w.heap.size w w') (hmax : ∀ x ∈ ss, x.length ≤ maxLen) :
    ∃ a c X', v = .slice a (ss.map fun x => (⟨x.toArray⟩ : ByteArray)).length c ∧ Step X w [] X' w' ∧ OS rStr [] B X' w' t a (ss.map fun x => (⟨x.toArray⟩ : ByteArray)).length c (ss.map fun x => ⟨x.toArray⟩) ∧ ∀ l, Old l w → Ap l (blkL a) := by
  have hev := Evo_of_Below hb
  have hlen : (ss.map fun x => (⟨x.toArray⟩ : ByteArray)).length = ss.length := List.length_map ..
  have key : ∃ a c, v = .slice a ss.length c ∧ ∀ b ∈ blkL a, w.heap.size ≤ b ∧ b < w'.heap.size := by
    rcases hrow.2 with ⟨h1, h2⟩ | ⟨g, cap, cur, hv, hbg, hg, h3⟩
    · exact ⟨none, 0, by rw [h1, h2], fun b hb => by cases hb⟩
    · exact ⟨_, cap, hv, fun b hb => by simp [blkL] at hb; subst hb; exact ⟨hbg, (Array.getElem?_eq_some_iff.1 hg).1⟩⟩
  obtain ⟨a, c, rfl, ha⟩ := key
  refine ⟨a, c, blkL a ++ X, by rw [hlen], Step.app X _ hev ha, ⟨rfl, ⟨Nat.zero_le _, fun b hb => List.mem_append_left _ hb, ss.map encStr, ?_, flat_enc _ hmax⟩, fun b hb => .inr (by have := (ha b hb).1; omega)⟩, fun l hl x hx hm => by have := hl x hx; have := (ha x hm).1; omega⟩
  rw [hlen]
  exact ownsRow_base_a hrow (Nat.zero_le _)
theorem Tryz.sortsA (m : Nat) : AnyZ.SortsIn Tryz.prog Tryz.sorted258_ren Fence.wide m :=
  ⟨fun blk off cap ss W hH hblk hsz => callsIn_wide.2 (AnyM.slices_Sort_string Tryz.sort197 blk off cap ss W hH hblk hsz),
   fun p cap W => callsIn_wide.2 (AnyM.slices_Sort_string_none Tryz.sort197 p cap W)⟩
/-- maps.Keys: a function value over one new block, which holds the map. -/
theorem mkeys_w {X : List Nat} {w : World} {r B : Nat} (hB : B ≤ w.heap.size) : Calls Tryz.prog 259 #[.map (some r)] w (Ret fun v w' => ∃ kb X', v = .func (.func 300) #[] #[.pointer (some ⟨kb, 0, none⟩)] ∧ Step X w [] X' w' ∧ OB [] B X' w' kb [.map (some r)] 306 ∧ ∀ l, Old l w → Ap l [kb]) := by
  refine (callsIn_wide (n := 5)).1 ?_
  have c : CallsIn Fence.wide 5 Tryz.prog 259 #[.map (some r)] w fun e w' => e = .returned (.func (.func 300) #[] #[.pointer (some ⟨w.heap.size, 0, none⟩)]) ∧ w' = w.alloc (.cells #[.map (some r)] 306) := AnyZ.keys_in Tryz.keys259 Fence.wide 5 trivial rfl (some r) w
  refine c.mono ?_
  rintro e w' ⟨rfl, rfl⟩
  have hlt : w.heap.size < (w.alloc (.cells #[.map (some r)] 306)).heap.size := by simp
  exact ⟨_, rfl, w.heap.size, w.heap.size :: X, rfl, Step.fresh X (Evo.alloc w _) w.heap.size (Nat.le_refl _) hlt, ⟨List.mem_cons_self, Blk.new w _ _, fun x hx => by simp at hx; subst hx; exact .inr hB⟩, fun l hl x hx hm => by simp at hm; subst hm; exact absurd (hl _ hx) (Nat.lt_irrefl _)⟩
set_option maxHeartbeats 1000000 in
/-- slices.Sorted, at what maps.Keys handed back. -/
theorem mkeys_sorted_w {α : Type} {R : Rep α} {ag : Bool} {X : List Nat} {w : World} {r kb B : Nat} {L : List (ByteArray × α)} (hB : B ≤ w.heap.size) (hk : Blk w kb [.map (some r)] 306) (hm : MapAt R ag X w r L) (hq : (L.map (·.1)).Nodup ∧ L.length ≤ 8796093022208) :
    Calls Tryz.prog 258 #[.func (.func 300) #[] #[.pointer (some ⟨kb, 0, none⟩)]] w (Ret fun v w' => ∃ a c X', v = .slice a (keysB L).length c ∧ Step X w [] X' w' ∧ OS rStr [] B X' w' 9 a (keysB L).length c (keysB L) ∧ ∀ l, Old l w → Ap l (blkL a)) := by
  obtain ⟨hnd, hl⟩ := hq
  obtain ⟨D, hown, hp, hsz⟩ := hm.owns (P := Tryz.prog) (kt := 9) Tryz.underlying9 hnd (by unfold maxLen; omega)
  have hkl := hk.lt
  refine (callsIn_wide (n := 6)).1 ?_
  have hseq : SeqGives Fence.wide 3 Tryz.prog 300 #[.pointer (some ⟨kb, 0, none⟩)] encStr (fun ss => ss.Perm (strKeys D)) (Maps.size D) w :=
    AnyZ.keys_gives (ρ := Tryz.keys259_ren) { Tryz.keys259 with } Fence.wide _ trivial rfl (by omega) kb r L.length D w hkl (hk.cell' 0 rfl) hown
  have cS := AnyZ.sorted_in Tryz.sorted258 Fence.wide 6 trivial trivial trivial trivial rfl (by omega) (Tryz.sortsA _) (enters_of Tryz.func197 (by kernel_rfl) rfl) 300 #[.pointer (some ⟨kb, 0, none⟩)] trivial (enters_of Tryz.func300 (by kernel_rfl) rfl) _ _ (by rw [hsz]; unfold maxLen; omega) (by rw [hsz]; omega) w hseq
  refine CallsIn.mono cS ?_
  rintro e w' ⟨v, ss, rfl, hS, hrow, -, hb⟩
  have e1 : ss.mergeSort (fun x y => decide (x ≤ y)) = (keysL L).mergeSort leB := mergeSort_of_perm (hS.trans hp)
  have hlen : ((keysL L).mergeSort leB).length = ss.length := by rw [← e1, List.length_mergeSort]
  rw [e1, ← hlen] at hrow
  refine ⟨v, rfl, row_OS hB hrow hb fun x hx => ?_⟩
  have hx2 := (List.mergeSort_perm (keysL L) leB).mem_iff.1 hx
  obtain ⟨p, hp2, rfl⟩ := List.mem_map.1 hx2
  obtain ⟨es, clk, _, he, _⟩ := hm
  have := ents_le he p hp2
  rw [Array.length_toList]; exact this
end Go.Proofs.YtfgmmabggjjhgaaGreatDoor
