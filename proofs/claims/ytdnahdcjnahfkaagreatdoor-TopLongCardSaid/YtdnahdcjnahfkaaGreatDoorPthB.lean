/- files.Paths as the evaluator takes it: a contract, out of the function's walk. -/
import Derived.Test.YtdnahdcjnahfkaaGreatDoorStEq
import Derived.Test.YtdnahdcjnahfkaaGreatDoorLib
import Derived.Test.YtdnahdcjnahfkaaGreatDoorIt
import Derived.Sort.KeysCollected
import Derived.Test.YtdnahdcjnahfkaaGreatDoorChecked
import Derived.Test.YtdnahdcjnahfkaaGreatDoorOps3
import Derived.Test.YtdnahdcjnahfkaaGreatDoorEvMB
namespace Go.Proofs.YtdnahdcjnahfkaaGreatDoor
open Go Go.RowKit Go.Shelf
open Go.WideElems (Fit rd rg)
section
variable {α : Type} {R : Rep α} {ag : Bool} {X : List Nat} {w : World} {P : Program} {kt : TypeId}
abbrev R0 : Value → Option (DataW Unit × List MemPlace) := fun _ => some (.nil, [])
theorem keyOf_s (hk : P.underlying kt = some .string) {s : ByteArray} (hs : s.size ≤ maxLen) : keyOf P kt (.string s) = some (.string s.data.toList) := by
  have : s.data.size ≤ maxLen := hs
  simp [keyOf, hk, mapKey]; exact hs
theorem ent_rd (hk : P.underlying kt = some .string) {e : MapEntry} {p : ByteArray × α} (h : EntOK R ag X w e p) : rd P kt R0 e = some (.string p.1.data.toList, .nil) := by
  obtain ⟨h1, h2, _⟩ := h
  unfold rd R0; rw [h1, keyOf_s hk h2]; rfl
theorem ents_rg (hk : P.underlying kt = some .string) : ∀ {es : List MapEntry} {L : List (ByteArray × α)}, EntsOK R ag X w es L → es.map (rg P kt R0) = L.map (fun p => (Lit.string p.1.data.toList, DataW.nil)) ∧ es.map (·.key) = L.map (fun p => Value.string p.1) ∧ ∀ x ∈ es, ∃ y, rd P kt R0 x = some y
  | [], _, h => by
    have h : _ = [] := h
    subst h; exact ⟨rfl, rfl, fun _ h => by cases h⟩
  | e :: es, _, h => by
    obtain ⟨p, L, rfl, h1, h2⟩ := h
    obtain ⟨a, b, c⟩ := ents_rg hk h2
    have hr := ent_rd hk h1
    refine ⟨?_, ?_, ?_⟩
    · rw [List.map_cons, List.map_cons, a]; unfold rg; rw [hr]; rfl
    · rw [List.map_cons, List.map_cons, b, h1.1]
    · intro x hx
      rcases List.mem_cons.1 hx with rfl | hx
      · exact ⟨_, hr⟩
      · exact c x hx
theorem ents_le : ∀ {es : List MapEntry} {L : List (ByteArray × α)}, EntsOK R ag X w es L → ∀ p ∈ L, p.1.size ≤ maxLen
  | [], _, h => by
    have h : _ = [] := h
    subst h; exact fun _ h => by cases h
  | e :: es, _, h => by
    obtain ⟨p, L, rfl, h1, h2⟩ := h
    intro q hq
    rcases List.mem_cons.1 hq with rfl | hq
    · exact h1.2.1
    · exact ents_le h2 q hq
def keysL (L : List (ByteArray × α)) : List (List UInt8) := L.map fun p => p.1.data.toList
/-- the keys of a map, sorted -/
def keysB (L : List (ByteArray × α)) : List ByteArray := ((keysL L).mergeSort leB).map fun x => ⟨x.toArray⟩
theorem keysB_len (L : List (ByteArray × α)) : (keysB L).length = L.length := by unfold keysB keysL; rw [List.length_map, List.length_mergeSort, List.length_map]
theorem MapAt.owns {r : Nat} {L : List (ByteArray × α)} (hk : P.underlying kt = some .string) (h : MapAt R ag X w r L) (hnd : (L.map (·.1)).Nodup) (hl : L.length ≤ maxLen) :
    ∃ D : DataW Unit, w.ownsMap P kt R0 r L.length D ∧ (strKeys D).Perm (keysL L) ∧ Maps.size D = L.length := by
  obtain ⟨es, clk, hb, he, hc⟩ := h
  obtain ⟨a, b, c⟩ := ents_rg (P := P) (kt := kt) hk he
  have hlen : es.size = L.length := by rw [← he.length]; simp
  have hp := Go.WideShapes.sorted_perm (es.toList.map (rg P kt R0))
  refine ⟨.map ((es.toList.map (rg P kt R0)).foldr DataW.insert []), ⟨es, clk, hb, ⟨by omega, ⟨hc.2, ?_, ?_⟩, c⟩, by omega, rfl⟩, ?_, ?_⟩
  · exact hc.1.imp fun h => Nat.ne_of_lt h
  · rw [b, show (L.map fun p => Value.string p.1) = (L.map (·.1)).map Value.string from by rw [List.map_map]; rfl]
    exact hnd.map _ fun x y hxy hh => hxy (by injection hh)
  · have := hp.map (fun p : Lit × DataW Unit => strOf p.1)
    show (((es.toList.map (rg P kt R0)).foldr DataW.insert []).map fun p => strOf p.1).Perm _
    refine this.trans ?_
    rw [a, List.map_map]; exact List.Perm.refl _
  · show ((es.toList.map (rg P kt R0)).foldr DataW.insert []).length = _
    rw [hp.length_eq, List.length_map]; simpa using hlen
end
theorem flat_enc {X : List Nat} {w : World} : ∀ (L : List (List UInt8)), (∀ x ∈ L, x.length ≤ maxLen) → Flat rStr X w (L.map encStr) (L.map fun x => (⟨x.toArray⟩ : ByteArray))
  | [], _ => rfl
  | x :: L, h => Flat.cons1 (rStr_mk (by
      show x.toArray.size ≤ _
      rw [List.size_toArray]; exact h x (by simp))) (flat_enc L fun y hy => h y (by simp [hy]))
theorem row_OS {X : List Nat} {t : TypeId} {B : Nat} {v : Value} {w w' : World} {ss : List (List UInt8)} (hB : B ≤ w.heap.size) (hrow : w'.ownsRow w.heap.size t 1 v ss.length (ss.map encStr)) (hb : Below w.heap.size w w') (hmax : ∀ x ∈ ss, x.length ≤ maxLen) :
    ∃ a c X', v = .slice a (ss.map fun x => (⟨x.toArray⟩ : ByteArray)).length c ∧ Step X w [] X' w' ∧ OS rStr [] B X' w' t a (ss.map fun x => (⟨x.toArray⟩ : ByteArray)).length c (ss.map fun x => ⟨x.toArray⟩) ∧ ∀ l, Old l w → Ap l (blkL a) := by
  have hev := Evo_of_Below hb
  have hlen : (ss.map fun x => (⟨x.toArray⟩ : ByteArray)).length = ss.length := List.length_map ..
  have key : ∃ a c, v = .slice a ss.length c ∧ ∀ b ∈ blkL a, w.heap.size ≤ b ∧ b < w'.heap.size := by
    rcases hrow.2 with ⟨h1, h2⟩ | ⟨g, cap, cur, hv, hbg, hg, h3⟩
    · exact ⟨none, 0, by rw [h1, h2], fun b hb => by cases hb⟩
    · exact ⟨_, cap, hv, fun b hb => by simp [blkL] at hb; subst hb; exact ⟨hbg, (Array.getElem?_eq_some_iff.1 hg).1⟩⟩
  obtain ⟨a, c, rfl, ha⟩ := key
  refine ⟨a, c, blkL a ++ X, by rw [hlen], Step.app X _ hev ha, ⟨rfl, ⟨Nat.zero_le _, fun b hb => List.mem_append_left _ hb, ss.map encStr, ?_, flat_enc _ hmax⟩, fun b hb => .inr (by have := (ha b hb).1; omega)⟩, fun l hl x hx hm => by have := hl x hx; have := (ha x hm).1; omega⟩
  rw [hlen]
  exact ownsRow_base_a hrow (Nat.zero_le _)
theorem Tryz.sortsA (m : Nat) : AnyZ.SortsIn Tryz.prog Tryz.sorted243_ren Fence.wide m :=
  ⟨fun blk off cap ss W hH hblk hsz => callsIn_wide.2 (AnyM.slices_Sort_string Tryz.sort181 blk off cap ss W hH hblk hsz),
   fun p cap W => callsIn_wide.2 (AnyM.slices_Sort_string_none Tryz.sort181 p cap W)⟩
/-- maps.Keys: a function value over one new block, which holds the map. -/
theorem mkeys_w {X : List Nat} {w : World} {r B : Nat} (hB : B ≤ w.heap.size) : Calls Tryz.prog 244 #[.map (some r)] w (Ret fun v w' => ∃ kb X', v = .func (.func 284) #[] #[.pointer (some ⟨kb, 0, none⟩)] ∧ Step X w [] X' w' ∧ OB [] B X' w' kb [.map (some r)] 295 ∧ ∀ l, Old l w → Ap l [kb]) := by
  refine (callsIn_wide (n := 5)).1 ?_
  have c : CallsIn Fence.wide 5 Tryz.prog 244 #[.map (some r)] w fun e w' => e = .returned (.func (.func 284) #[] #[.pointer (some ⟨w.heap.size, 0, none⟩)]) ∧ w' = w.alloc (.cells #[.map (some r)] 295) := AnyZ.keys_in Tryz.keys244 Fence.wide 5 trivial rfl (some r) w
  refine c.mono ?_
  rintro e w' ⟨rfl, rfl⟩
  have hlt : w.heap.size < (w.alloc (.cells #[.map (some r)] 295)).heap.size := by simp
  exact ⟨_, rfl, w.heap.size, w.heap.size :: X, rfl, Step.fresh X (Evo.alloc w _) w.heap.size (Nat.le_refl _) hlt, ⟨List.mem_cons_self, Blk.new w _ _, fun x hx => by simp at hx; subst hx; exact .inr hB⟩, fun l hl x hx hm => by simp at hm; subst hm; exact absurd (hl _ hx) (Nat.lt_irrefl _)⟩
set_option maxHeartbeats 1000000 in
/-- slices.Sorted, at what maps.Keys handed back. -/
theorem mkeys_sorted_w {α : Type} {R : Rep α} {ag : Bool} {X : List Nat} {w : World} {r kb B : Nat} {L : List (ByteArray × α)} (hB : B ≤ w.heap.size) (hk : Blk w kb [.map (some r)] 295) (hm : MapAt R ag X w r L) (hq : (L.map (·.1)).Nodup ∧ L.length ≤ 8796093022208) :
    Calls Tryz.prog 243 #[.func (.func 284) #[] #[.pointer (some ⟨kb, 0, none⟩)]] w (Ret fun v w' => ∃ a c X', v = .slice a (keysB L).length c ∧ Step X w [] X' w' ∧ OS rStr [] B X' w' 9 a (keysB L).length c (keysB L) ∧ ∀ l, Old l w → Ap l (blkL a)) := by
  obtain ⟨hnd, hl⟩ := hq
  obtain ⟨D, hown, hp, hsz⟩ := hm.owns (P := Tryz.prog) (kt := 9) Tryz.underlying9 hnd (by unfold maxLen; omega)
  have hkl := hk.lt
  refine (callsIn_wide (n := 6)).1 ?_
  have hseq : SeqGives Fence.wide 3 Tryz.prog 284 #[.pointer (some ⟨kb, 0, none⟩)] encStr (fun ss => ss.Perm (strKeys D)) (Maps.size D) w :=
    AnyZ.keys_gives (ρ := Tryz.keys244_ren) { Tryz.keys244 with } Fence.wide _ trivial rfl (by omega) kb r L.length D w hkl (hk.cell' 0 rfl) hown
  have cS := AnyZ.sorted_in Tryz.sorted243 Fence.wide 6 trivial trivial trivial trivial rfl (by omega) (Tryz.sortsA _) (enters_of Tryz.func181 (by kernel_rfl) rfl) 284 #[.pointer (some ⟨kb, 0, none⟩)] trivial (enters_of Tryz.func284 (by kernel_rfl) rfl) _ _ (by rw [hsz]; unfold maxLen; omega) (by rw [hsz]; omega) w hseq
  refine CallsIn.mono cS ?_
  rintro e w' ⟨v, ss, rfl, hS, hrow, -, hb⟩
  have e1 : ss.mergeSort (fun x y => decide (x ≤ y)) = (keysL L).mergeSort leB := mergeSort_of_perm (hS.trans hp)
  have hlen : ((keysL L).mergeSort leB).length = ss.length := by rw [← e1, List.length_mergeSort]
  rw [e1, ← hlen] at hrow
  refine ⟨v, rfl, row_OS hB hrow hb fun x hx => ?_⟩
  have hx2 := (List.mergeSort_perm (keysL L) leB).mem_iff.1 hx
  obtain ⟨p, hp2, rfl⟩ := List.mem_map.1 hx2
  obtain ⟨es, clk, _, he, _⟩ := hm
  have := ents_le he p hp2
  rw [Array.length_toList]; exact this
end Go.Proofs.YtdnahdcjnahfkaaGreatDoor
namespace Go.Proofs.YtdnahdcjnahfkaaGreatDoor
open Go
structure S_files_File where
  Path : ByteArray
  Mode : Int
  Data : ByteArray
instance : Inhabited S_files_File := ⟨⟨default, default, default⟩⟩
def r_files_File : Rep S_files_File := rMap (fun d => (d.Path, (d.Mode, d.Data))) (rPair rStr (rPair (rInt .i64) rStr))
theorem r_files_File_open {X : List Nat} {w : World} {cs : List Value} {d : S_files_File} (h : r_files_File.ok X w cs d) : cs = [.string d.Path, .int .i64 d.Mode, .string d.Data] ∧ d.Path.size ≤ maxLen ∧ inR .i64 d.Mode ∧ d.Data.size ≤ maxLen := by
  obtain ⟨c6, t7, rfl, ⟨rfl, h1⟩, ⟨c4, t5, rfl, ⟨rfl, h2⟩, ⟨rfl, h3⟩⟩⟩ := h
  exact ⟨rfl, h1, h2, h3⟩
theorem r_files_File_mk {X : List Nat} {w : World} {Pathq : ByteArray} {Modeq : Int} {Dataq : ByteArray} (h1 : Pathq.size ≤ maxLen) (h2 : inR .i64 Modeq) (h3 : Dataq.size ≤ maxLen) : r_files_File.ok X w [.string Pathq, .int .i64 Modeq, .string Dataq] ⟨Pathq, Modeq, Dataq⟩ :=
  (rMap_mk _ (rPair_mk (rStr_mk h1) (rPair_mk (rInt_mk h2) (rStr_mk h3))))

def slices_Clip_string_string_p (s : (List ByteArray)) (Q : (List ByteArray) → Prop) : Prop :=
  ((s.length ≤ 9223372036854775807) → ((0 ≤ (s.length : Int) ∧ (s.length : Int) ≤ (s.length : Int)) ∧ Q s))
set_option maxRecDepth 20000 in
set_option maxHeartbeats 4000000 in
theorem slices_Clip_string_string_w {X : List Nat} {w : World} {s : (List ByteArray)} {as1 : Option Addr} {cs2 : Nat} {Q : (List ByteArray) → Prop} (hX0 : Old X w) (hs3 : Sl rStr X w as1 cs2 s) (hp : slices_Clip_string_string_p s Q) :
    Calls Tryz.prog 127 #[(.slice as1 s.length cs2)] w (Ret fun v w' => ∃ (r0 : (List ByteArray)), Q r0 ∧ Evo [] w w' ∧ ∃ (aq01 : Option Addr), v = (.slice aq01 r0.length r0.length) ∧ Sl rStr X w' aq01 r0.length r0) := by
  have hXo := hX0
  have E0 : Evo [] w w := RB.refl _ _ _
  have hS : Sub X X := Sub.refl _
  unfold slices_Clip_string_string_p at hp
  refine enter_ Tryz.func127 rfl 9 [(0, (.slice as1 s.length cs2))] (by kernel_rfl) (fun Qe hQ => ?_)
  replace hp := hp (Sl.len hs3)
  refine seq_ (fun _ K4 => ?_)
  refine reg_ ?_
  refine sq (o_pv (.slice none 0 0) rfl (by kernel_rfl) ?_)
  refine nil_ ?_
  refine then_normal (K4 _ _ _ _ ?_)
  refine seq_ (fun _ K5 => ?_)
  refine reg_ ?_
  refine sq (o_pv (.slice as1 s.length cs2) rfl (by kernel_rfl) ?_)
  refine sq (o_pv (.slice as1 s.length cs2) rfl (by kernel_rfl) ?_)
  refine sq (o_pv (.int .i64 (s.length : Int)) rfl (by kernel_rfl) ?_)
  refine sq (o_pv (.slice as1 s.length cs2) rfl (by kernel_rfl) ?_)
  refine sq (o_pv (.int .i64 (s.length : Int)) rfl (by kernel_rfl) ?_)
  obtain ⟨h9, hp⟩ := hp
  refine sq (o_slice3F (R := rStr) (k := .i64) (k' := .i64) (X := X) (L := s) (s.length : Int) Tryz.underlying37 Tryz.sizeOf9 hs3 (by kernel_rfl) rfl rfl (by kernel_rfl) (by kernel_rfl) h9 ?_)
  intro a6 h8
  rw [take_len] at h8
  rw [take_len]
  refine sq (o_pv (.slice a6 s.length s.length) rfl (by kernel_rfl) ?_)
  refine nil_ ?_
  refine then_normal (K5 _ _ _ _ ?_)
  refine wp_ret ?_
  refine end_ret hQ (.slice a6 s.length s.length) (by kernel_rfl) ?_
  exact ⟨s, hp, E0, a6, rfl, (Sl.less h8 hS)⟩
theorem slices_Clip_string_string_keep {w : World} {a : Option Addr} {m c : Nat} (hmc : m ≤ c) : Calls Tryz.prog 127 #[(.slice a m c)] w (Ret fun v w' => v = (.slice a m m) ∧ w = w') := by
  refine enter_ Tryz.func127 rfl 9 [(0, (.slice a m c))] (by kernel_rfl) (fun Qe hQ => ?_)
  refine seq_ (fun _ K4 => ?_)
  refine reg_ ?_
  refine sq (o_pv (.slice none 0 0) rfl (by kernel_rfl) ?_)
  refine nil_ ?_
  refine then_normal (K4 _ _ _ _ ?_)
  refine seq_ (fun _ K5 => ?_)
  refine reg_ ?_
  refine sq (o_pv (.slice a m c) rfl (by kernel_rfl) ?_)
  refine sq (o_pv (.slice a m c) rfl (by kernel_rfl) ?_)
  refine sq (o_pv (.int .i64 (m : Int)) rfl (by kernel_rfl) ?_)
  refine sq (o_pv (.slice a m c) rfl (by kernel_rfl) ?_)
  refine sq (o_pv (.int .i64 (m : Int)) rfl (by kernel_rfl) ?_)
  refine sq (o_slice3K (a := a) (m := m) (c := c) (k := .i64) (k' := .i64) Tryz.underlying37 Tryz.sizeOf9 (by kernel_rfl) hmc rfl (by kernel_rfl) (by kernel_rfl) ?_)
  refine sq (o_pv (.slice a m m) rfl (by kernel_rfl) ?_)
  refine nil_ ?_
  refine then_normal (K5 _ _ _ _ ?_)
  refine wp_ret ?_
  refine end_ret hQ (.slice a m m) (by kernel_rfl) ?_
  exact ⟨rfl, rfl⟩

def files_Paths_p (l : (List (List S_files_File))) (Q : (List ByteArray) → Prop) : Prop :=
  ((l.length ≤ 9223372036854775807) → (∃ (I338 : (List (ByteArray × Bool)) → Int → Prop) (m339 : (List (ByteArray × Bool)) → Int → Nat), (I338 ([] : (List (ByteArray × Bool))) (0 : Int)) ∧ (∀ (s175 : (List (ByteArray × Bool))) (s177 : Int), (I338 s175 s177) → (inR .i64 s177) → (((s177 < (l.length : Int)) → ((inL l s177) ∧ (((lget l s177).length ≤ 9223372036854775807) → (∃ (I456 : (List (ByteArray × Bool)) → Int → Prop) (m457 : (List (ByteArray × Bool)) → Int → Nat), (I456 s175 (0 : Int)) ∧ (∀ (s414 : (List (ByteArray × Bool))) (s416 : Int), (I456 s414 s416) → (inR .i64 s416) → (((s416 < ((lget l s177).length : Int)) → ((inL (lget l s177) s416) ∧ ((((lget (lget l s177) s416).Path).size ≤ maxLen) → ((inR .i64 ((lget (lget l s177) s416).Mode)) → ((((lget (lget l s177) s416).Data).size ≤ maxLen) → ((inR .i64 (s416 + (1 : Int))) ∧ ((I456 (mset s414 ((lget (lget l s177) s416).Path) true) (s416 + (1 : Int))) ∧ m457 (mset s414 ((lget (lget l s177) s416).Path) true) (s416 + (1 : Int)) < m457 s414 s416))))))) ∧ ((¬ (s416 < ((lget l s177).length : Int))) → ((inR .i64 (s177 + (1 : Int))) ∧ ((I338 s414 (s177 + (1 : Int))) ∧ m339 s414 (s177 + (1 : Int)) < m339 s175 s177))))))))) ∧ ((¬ (s177 < (l.length : Int))) → (((s175.map (·.1)).Nodup ∧ s175.length ≤ 8796093022208) ∧ Q (keysB s175)))))))
set_option maxRecDepth 20000 in
set_option maxHeartbeats 4000000 in
theorem files_Paths_w {X : List Nat} {w : World} {l : (List (List S_files_File))} {al1 : Option Addr} {cl2 : Nat} {Q : (List ByteArray) → Prop} (hX0 : Old X w) (hl3 : Sl (rSl r_files_File) X w al1 cl2 l) (hp : files_Paths_p l Q) :
    Calls Tryz.prog 169 #[(.slice al1 l.length cl2)] w (Ret fun v w' => ∃ (r0 : (List ByteArray)), Q r0 ∧ Evo [] w w' ∧ ∃ (a0 : Option Addr) (c0 : Nat), v = .slice a0 r0.length r0.length ∧ OS rStr [] w.heap.size (blkL a0 ++ X) w' 9 a0 r0.length c0 r0) := by
  have hXo := hX0
  have E0 : Evo [] w w := RB.refl _ _ _
  have hS : Sub X X := Sub.refl _
  unfold files_Paths_p at hp
  refine enter_ Tryz.func169 rfl 30 [(0, (.slice al1 l.length cl2))] (by kernel_rfl) (fun Qe hQ => ?_)
  replace hp := hp (Sl.len hl3)
  refine seq_ (fun _ K4 => ?_)
  refine reg_ ?_
  refine sq (o_pv (.slice none 0 0) rfl (by kernel_rfl) ?_)
  refine nil_ ?_
  refine then_normal (K4 _ _ _ _ ?_)
  refine seq_ (fun _ K5 => ?_)
  refine reg_ ?_
  refine sq (o_mkmap (R := rBool) (ag := false) (X := X) (B := w.heap.size) E0.size rfl ?_)
  intro r6 w7 X8 s9 m10 n11
  refine sq (o_pv (.map (some r6)) rfl (by kernel_rfl) ?_)
  refine nil_ ?_
  refine then_normal (K5 _ _ _ _ ?_)
  refine seq_ (fun _ K12 => ?_)
  refine seq_ (fun _ K13 => ?_)
  refine reg_ ?_
  refine sq (o_pv (.slice al1 l.length cl2) rfl (by kernel_rfl) ?_)
  refine sq (o_pv (.int .i64 (l.length : Int)) rfl (by kernel_rfl) ?_)
  refine sq (o_pv (.int .i64 (0 : Int)) rfl (by kernel_rfl) ?_)
  refine nil_ ?_
  refine then_normal (K13 _ _ _ _ ?_)
  refine wp_block ?_
  have hl348 := (Sl.step hl3 s9)
  have hXo349 := (Old.step hXo s9)
  have E350 := (Evo.then0 E0 (Step.evo s9))
  have hS351 := (Sub.trans hS (Step.up s9))
  obtain ⟨I338, m339, hI340, hp⟩ := hp
  refine loop_ 67106976 (fun kq lq w342 => ∃ (X343 : List Nat) (s175 : (List (ByteArray × Bool))) (s177 : Int), (lq = [(11, (.int .i64 s177))]) ∧ (kq = m339 s175 s177) ∧ (Evo [] w w342) ∧ (Old X343 w342) ∧ (Sub X X343) ∧ (Sl (rSl r_files_File) X343 w342 al1 cl2 l) ∧ (OM rBool false ([]) w.heap.size X343 w342 r6 s175) ∧ (inR .i64 s177) ∧ (I338 s175 s177)) (m339 ([] : (List (ByteArray × Bool))) (0 : Int)) [(11, (.int .i64 (0 : Int)))] (vs_cons (by kernel_rfl) vs_nil) ⟨X8, ([] : (List (ByteArray × Bool))), (0 : Int), rfl, rfl, E350, hXo349, hS351, hl348, m10, (by decide : inR .i64 (0 : Int)), hI340⟩ ?_
  rintro _ _ w342 g345 ⟨X343, s175, s177, rfl, rfl, E352, hXo353, hS354, hl355, m176, rs178, hI341⟩ Kl346 hA347
  replace hp := hp s175 s177 hI341 rs178
  refine seq_ (fun _ K356 => ?_)
  refine reg_ ?_
  refine sq (o_pv (.bool (decide (s177 < (l.length : Int)))) rfl (by kernel_rfl) ?_)
  refine nil_ ?_
  refine then_normal (K356 _ _ _ _ ?_)
  refine seq_ (fun _ K357 => ?_)
  refine cond_d (s177 < (l.length : Int)) (by kernel_rfl) (fun h358 => ?_) (fun h358 => ?_)
  ·
    replace hp := hp.1 h358
    refine wp_skip ?_
    refine then_normal (K357 _ _ _ _ ?_)
    refine seq_ (fun _ K359 => ?_)
    refine wp_block ?_
    refine seq_ (fun _ K360 => ?_)
    refine reg_ ?_
    obtain ⟨h361, hp⟩ := hp
    obtain ⟨b362, o363, cs364, ha365, nx366, lt367, ok368, hc369⟩ := Sl.atI hl355 s177 h361
    obtain ⟨ae370, ce371, rfl, he372⟩ := ok368
    replace hp := hp (Sl.len he372)
    refine sq (o_pv (.pointer (some ⟨b362, o363 + s177.toNat * 1, none⟩)) rfl (x_ixA (m := l.length) (c := cl2) (k := .i64) (i := s177) Tryz.underlying294 Tryz.sizeOf24 (by rw [← ha365]; kernel_rfl) (by kernel_rfl) h361) ?_)
    refine sq (o_pv (.slice ae370 ((lget l s177).length) ce371) rfl (x_load1 (by kernel_rfl) Tryz.isAgg24 (hc369 0 _ rfl)) ?_)
    refine sq (o_pv (.slice ae370 ((lget l s177).length) ce371) rfl (by kernel_rfl) ?_)
    refine nil_ ?_
    refine then_normal (K360 _ _ _ _ ?_)
    refine seq_ (fun _ K373 => ?_)
    refine reg_ ?_
    refine sq (o_pv (.slice ae370 ((lget l s177).length) ce371) rfl (by kernel_rfl) ?_)
    refine sq (o_pv (.int .i64 ((lget l s177).length : Int)) rfl (by kernel_rfl) ?_)
    refine sq (o_pv (.int .i64 (0 : Int)) rfl (by kernel_rfl) ?_)
    refine nil_ ?_
    refine then_normal (K373 _ _ _ _ ?_)
    refine wp_block ?_
    obtain ⟨I456, m457, hI458, hp⟩ := hp
    refine loop_ 33423488 (fun kq lq w460 => ∃ (X461 : List Nat) (s414 : (List (ByteArray × Bool))) (s416 : Int), (lq = [(17, (.int .i64 s416))]) ∧ (kq = m457 s414 s416) ∧ (Evo [] w w460) ∧ (Old X461 w460) ∧ (Sub X X461) ∧ (Sl (rSl r_files_File) X461 w460 al1 cl2 l) ∧ (Sl r_files_File X461 w460 ae370 ce371 (lget l s177)) ∧ (OM rBool false ([]) w.heap.size X461 w460 r6 s414) ∧ (inR .i64 s416) ∧ (I456 s414 s416)) (m457 s175 (0 : Int)) [(17, (.int .i64 (0 : Int)))] (vs_cons (by kernel_rfl) vs_nil) ⟨X343, s175, (0 : Int), rfl, rfl, E352, hXo353, hS354, hl355, he372, m176, (by decide : inR .i64 (0 : Int)), hI458⟩ ?_
    rintro _ _ w460 g463 ⟨X461, s414, s416, rfl, rfl, E466, hXo467, hS468, hl469, he470, m415, rs417, hI459⟩ Kl464 hA465
    replace hp := hp s414 s416 hI459 rs417
    refine seq_ (fun _ K471 => ?_)
    refine reg_ ?_
    refine sq (o_pv (.bool (decide (s416 < ((lget l s177).length : Int)))) rfl (by kernel_rfl) ?_)
    refine nil_ ?_
    refine then_normal (K471 _ _ _ _ ?_)
    refine seq_ (fun _ K472 => ?_)
    refine cond_d (s416 < ((lget l s177).length : Int)) (by kernel_rfl) (fun h473 => ?_) (fun h473 => ?_)
    ·
      replace hp := hp.1 h473
      refine wp_skip ?_
      refine then_normal (K472 _ _ _ _ ?_)
      refine seq_ (fun _ K474 => ?_)
      refine wp_block ?_
      refine seq_ (fun _ K475 => ?_)
      refine reg_ ?_
      obtain ⟨h476, hp⟩ := hp
      obtain ⟨b477, o478, cs479, ha480, nx481, lt482, ok483, hc484⟩ := Sl.atI he470 s416 h476
      obtain ⟨rfl, zePath485, reMode486, zeData487⟩ := r_files_File_open ok483
      replace hp := hp zePath485
      replace hp := hp reMode486
      replace hp := hp zeData487
      refine sq (o_pv (.pointer (some ⟨b477, o478 + s416.toNat * 3, none⟩)) rfl (x_ixA (m := (lget l s177).length) (c := ce371) (k := .i64) (i := s416) Tryz.underlying24 Tryz.sizeOf62 (by rw [← ha480]; kernel_rfl) (by kernel_rfl) h476) ?_)
      refine sq (o_pv (.agg #[(.string ((lget (lget l s177) s416).Path)), (.int .i64 ((lget (lget l s177) s416).Mode)), (.string ((lget (lget l s177) s416).Data))]) rfl (x_loadN [(.string ((lget (lget l s177) s416).Path)), (.int .i64 ((lget (lget l s177) s416).Mode)), (.string ((lget (lget l s177) s416).Data))] (by kernel_rfl) Tryz.isAgg62 Tryz.sizeOf62 hc484) ?_)
      refine sq (o_newX [(.string (ByteArray.mk #[])), (.int .i64 (0 : Int)), (.string (ByteArray.mk #[]))] 62 (X := X461) (B := w.heap.size) E466.size rfl (by kernel_rfl) ?_)
      intro b488 w489 X490 s491 k492 n493
      have p494 := n493 _ (OM.old m415)
      have m495 := (OM.step0 m415 s491)
      have E496 := (Evo.then0 E466 (Step.evo s491))
      refine sq (o_stB (o := 0) (v := (.agg #[(.string ((lget (lget l s177) s416).Path)), (.int .i64 ((lget (lget l s177) s416).Mode)), (.string ((lget (lget l s177) s416).Data))])) [(.string ((lget (lget l s177) s416).Path)), (.int .i64 ((lget (lget l s177) s416).Mode)), (.string ((lget (lget l s177) s416).Data))] rfl k492 (by kernel_rfl) (by kernel_rfl) Tryz.sizeOf62 rfl rfl rfl ?_)
      intro w497 s498 k499
      refine nil_ ?_
      refine then_normal (K475 _ _ _ _ ?_)
      refine reg_ ?_
      refine sq (o_pv (.map (some r6)) rfl (by kernel_rfl) ?_)
      refine sq (o_pv (.pointer (some ⟨b488, 0, none⟩)) rfl (by kernel_rfl) ?_)
      refine sq (o_pv (.string ((lget (lget l s177) s416).Path)) rfl (x_load1 (by kernel_rfl) Tryz.isAgg9 (k499.2.1.cell' 0 rfl)) ?_)
      have m500 := (OM.step m495 s498 p494)
      refine sq (o_mapset (cs := [(.bool true)]) (d := true) rfl m500 Tryz.underlying295 Tryz.underlying9 (by kernel_rfl) (by kernel_rfl) (by kernel_rfl) rBool_mk zePath485 ?_)
      intro w501 s502 m503
      refine nil_ ?_
      refine blk_normal ?_
      refine then_normal (K474 _ _ _ _ ?_)
      refine reg_ ?_
      obtain ⟨h504, hp⟩ := hp
      refine sq (o_pv (.int .i64 (s416 + (1 : Int))) rfl (x_add2 (k := .i64) (a := s416) (b := (1 : Int)) (s416 + (1 : Int)) (by kernel_rfl) (by kernel_rfl) (wrap_inR h504)) ?_)
      refine sq (o_pv (.int .i64 (s416 + (1 : Int))) rfl (by kernel_rfl) ?_)
      refine nil_ ?_
      have E505 := (Evo.thenW (Evo.thenW E496 (Step.evo s498) k492.2.2) (Step.evo s502) m500.2.2)
      have hXo506 := (Old.step (Old.step (Old.step hXo467 s491) s498) s502)
      have hS507 := (Sub.trans (Sub.trans (Sub.trans hS468 (Step.up s491)) (Step.up s498)) (Step.up s502))
      have hl508 := (Sl.step (Sl.step (Sl.step hl469 s491) s498) s502)
      have he509 := (Sl.step (Sl.step (Sl.step he470 s491) s498) s502)
      refine then_normal (hA465 _ _ _ ⟨_, [(17, (.int .i64 (s416 + (1 : Int))))], hp.2, fit_mk (AgB.mix _ _ _) (by kernel_rfl) (vs_cons (by kernel_rfl) vs_nil), ?_⟩)
      exact ⟨X490, (mset s414 ((lget (lget l s177) s416).Path) true), (s416 + (1 : Int)), rfl, rfl, E505, hXo506, hS507, hl508, he509, m503, h504, hp.1⟩
    ·
      replace hp := hp.2 h473
      refine wp_exit ?_
      refine then_exit ?_
      refine then_exit ?_
      refine blk_exit ?_
      refine blk_normal ?_
      refine then_normal (K359 _ _ _ _ ?_)
      refine reg_ ?_
      obtain ⟨h510, hp⟩ := hp
      refine sq (o_pv (.int .i64 (s177 + (1 : Int))) rfl (x_add2 (k := .i64) (a := s177) (b := (1 : Int)) (s177 + (1 : Int)) (by kernel_rfl) (by kernel_rfl) (wrap_inR h510)) ?_)
      refine sq (o_pv (.int .i64 (s177 + (1 : Int))) rfl (by kernel_rfl) ?_)
      refine nil_ ?_
      refine then_normal (hA347 _ _ _ ⟨_, [(11, (.int .i64 (s177 + (1 : Int))))], hp.2, fit_mk (AgB.nest (AgB.mix _ _ _) (by kernel_rfl) (by kernel_rfl)) (by kernel_rfl) (vs_cons (by kernel_rfl) vs_nil), ?_⟩)
      exact ⟨X461, s414, (s177 + (1 : Int)), rfl, rfl, E466, hXo467, hS468, hl469, m415, h510, hp.1⟩
  ·
    replace hp := hp.2 h358
    refine wp_exit ?_
    refine then_exit ?_
    refine then_exit ?_
    refine blk_exit ?_
    refine then_normal (K12 _ _ _ _ ?_)
    refine seq_ (fun _ K511 => ?_)
    refine reg_ ?_
    refine sq (o_pv (.map (some r6)) rfl (by kernel_rfl) ?_)
    refine sq (o_call 244 #[(.map (some r6))] rfl (x_call Tryz.call244 (by kernel_rfl)) (mkeys_w (X := X343) (B := w.heap.size) E352.size) ?_)
    rintro _ w513 ⟨kb512, X514, rfl, s515, k516, n517⟩
    have p518 := n517 _ (OM.old m176)
    have m519 := (OM.step0 m176 s515)
    obtain ⟨h520, hp⟩ := hp
    have E528 := (Evo.then0 E352 (Step.evo s515))
    refine sq (o_call 243 #[(.func (.func 284) #[] #[(.pointer (some ⟨kb512, 0, none⟩))])] rfl (x_call Tryz.call243 (by kernel_rfl)) (mkeys_sorted_w (X := X514) (B := w.heap.size) E528.size k516.2.1 m519.2.1 h520) ?_)
    rintro _ w523 ⟨a521, c522, X524, rfl, s525, O526, n527⟩
    have p529 := n527 _ (OM.old m519)
    have p530 := n527 _ (OB.old k516)
    refine sq (o_call 127 #[(.slice a521 ((keysB s175).length) c522)] rfl (x_call Tryz.call127 (by kernel_rfl)) (slices_Clip_string_string_keep (OS.nc O526)) ?_)
    rintro _ _ ⟨rfl, rfl⟩
    refine sq (o_pv (.slice a521 ((keysB s175).length) ((keysB s175).length)) rfl (by kernel_rfl) ?_)
    refine nil_ ?_
    refine then_normal (K511 _ _ _ _ ?_)
    refine wp_ret ?_
    have hS531 := (Sub.trans (Sub.trans hS354 (Step.up s515)) (Step.up s525))
    have E532 := (Evo.then0 E528 (Step.evo s525))
    refine end_ret hQ (.slice a521 ((keysB s175).length) ((keysB s175).length)) (by kernel_rfl) ?_
    exact ⟨(keysB s175), hp, E532, a521, c522, rfl, (OS.give O526 hS531)⟩

end Go.Proofs.YtdnahdcjnahfkaaGreatDoor
namespace Go.Proofs.YtdnahdcjnahfkaaGreatDoor
open Go
section
variable {α : Type}
theorem mset_len {L : List (ByteArray × α)} {k : ByteArray} {v : α} : (mset L k v).length ≤ L.length + 1 := by
  induction L with
  | nil => simp [mset]
  | cons p r ih => unfold mset; split <;> simp <;> omega
theorem mset_keys {L : List (ByteArray × α)} {k : ByteArray} {v : α} : (k ∈ L.map (·.1) → (mset L k v).map (·.1) = L.map (·.1)) ∧ (k ∉ L.map (·.1) → (mset L k v).map (·.1) = L.map (·.1) ++ [k]) := by
  induction L with
  | nil => simp [mset]
  | cons p r ih =>
    unfold mset
    by_cases h : p.1 = k
    · rw [if_pos h]
      exact ⟨fun _ => by rw [List.map_cons, List.map_cons]; show k :: _ = p.1 :: _; rw [h], fun hn => absurd (by rw [List.map_cons, h]; exact List.mem_cons_self) hn⟩
    · rw [if_neg h, List.map_cons, List.map_cons]
      refine ⟨fun hm => ?_, fun hn => ?_⟩
      · rw [ih.1 ((List.mem_cons.1 hm).elim (fun e => absurd e.symm h) id)]
      · rw [ih.2 fun hm => hn (List.mem_cons_of_mem _ hm)]; rfl
theorem mset_nodup {L : List (ByteArray × α)} {k : ByteArray} {v : α} (h : (L.map (·.1)).Nodup) : ((mset L k v).map (·.1)).Nodup := by
  by_cases h2 : k ∈ L.map (·.1)
  · rw [mset_keys.1 h2]; exact h
  · rw [mset_keys.2 h2, List.nodup_append]
    exact ⟨h, by simp, fun a ha b hb e => by simp at hb; subst hb; subst e; exact h2 ha⟩
theorem mset_has {L : List (ByteArray × α)} {k x : ByteArray} {v : α} : x ∈ (mset L k v).map (·.1) ↔ x ∈ L.map (·.1) ∨ x = k := by
  by_cases h2 : k ∈ L.map (·.1)
  · rw [mset_keys.1 h2]
    exact ⟨.inl, fun h => h.elim id fun e => e ▸ h2⟩
  · rw [mset_keys.2 h2, List.mem_append, List.mem_singleton]
end
/-- How many files. -/
def sumL (l : List (List S_files_File)) : Nat := (l.map List.length).sum
theorem sumL_take {l : List (List S_files_File)} {i : Nat} (h : i < l.length) : sumL (l.take (i + 1)) = sumL (l.take i) + l[i].length := by
  unfold sumL
  rw [List.take_succ_eq_append_getElem h, List.map_append, List.sum_append]; simp
theorem sumL_le (l : List (List S_files_File)) (i : Nat) : sumL (l.take i) ≤ sumL l := by
  have : l = l.take i ++ l.drop i := (List.take_append_drop i l).symm
  unfold sumL
  conv => rhs; rw [this, List.map_append, List.sum_append]
  omega
/-- It holds the paths of these files. -/
def Holds' (s : List (ByteArray × Bool)) (fs : List S_files_File) : Prop := (s.map (·.1)).Nodup ∧ ∀ k, k ∈ s.map (·.1) ↔ ∃ f ∈ fs, f.Path = k
theorem holds_nil : Holds' [] [] := ⟨by simp, by simp⟩
theorem Holds'.put {s : List (ByteArray × Bool)} {fs : List S_files_File} {f : S_files_File} (h : Holds' s fs) : Holds' (mset s f.Path true) (fs ++ [f]) := by
  refine ⟨mset_nodup h.1, fun k => ?_⟩
  rw [mset_has, h.2]
  constructor
  · rintro (⟨g, hg, e⟩ | e)
    · exact ⟨g, List.mem_append_left _ hg, e⟩
    · exact ⟨f, by simp, e.symm⟩
  · rintro ⟨g, hg, e⟩
    rcases List.mem_append.1 hg with h1 | h1
    · exact .inl ⟨g, h1, e⟩
    · rw [List.mem_singleton.1 h1] at e; exact .inr e.symm
theorem paths_p {l : List (List S_files_File)} {Q : List ByteArray → Prop} (hN : sumL l ≤ 1000000) (hl : l.length ≤ 1000000) (h : ∀ s, Holds' s l.flatten → Q (keysB s)) : files_Paths_p l Q := by
  unfold files_Paths_p; intro _
  refine ⟨fun s i => ∃ k : Nat, i = k ∧ k ≤ l.length ∧ Holds' s (l.take k).flatten ∧ s.length ≤ sumL (l.take k), fun _ i => l.length - i.toNat, ⟨0, rfl, Nat.zero_le _, by simpa using holds_nil, by simp⟩, ?_⟩
  rintro s _ ⟨k, rfl, hk, hs, hsl⟩ _
  refine ⟨fun hlt => ?_, fun hge => ?_⟩
  · have hlt : k < l.length := by omega
    refine ⟨inL_nat.2 hlt, fun _ => ?_⟩
    rw [lget_lt hlt]
    have hle := sumL_le l (k + 1)
    rw [sumL_take hlt] at hle
    refine ⟨fun s j => ∃ q : Nat, j = q ∧ q ≤ l[k].length ∧ Holds' s ((l.take k).flatten ++ l[k].take q) ∧ s.length ≤ sumL (l.take k) + q, fun _ j => l[k].length - j.toNat, ⟨0, rfl, Nat.zero_le _, by simpa using hs, by omega⟩, ?_⟩
    rintro s2 _ ⟨q, rfl, hq, hs2, hsl2⟩ _
    refine ⟨fun hlt2 => ?_, fun hge2 => ?_⟩
    · have hlt2 : q < l[k].length := by omega
      refine ⟨inL_nat.2 hlt2, ?_⟩
      rw [lget_lt hlt2]
      intro _ _ _
      refine ⟨inR_i64.2 (by omega), ⟨q + 1, by omega, hlt2, ?_, ?_⟩, by dsimp only; omega⟩
      · rw [List.take_succ_eq_append_getElem hlt2, ← List.append_assoc]
        exact hs2.put
      · have := mset_len (L := s2) (k := l[k][q].Path) (v := true)
        omega
    · have hq : q = l[k].length := by omega
      subst hq
      refine ⟨inR_i64.2 (by omega), ⟨k + 1, by omega, hlt, ?_, ?_⟩, by dsimp only; omega⟩
      · rw [List.take_succ_eq_append_getElem hlt, List.flatten_append]
        simpa using hs2
      · rw [sumL_take hlt]; exact hsl2
  · have hk : k = l.length := by omega
    subst hk
    rw [List.take_length] at hs hsl
    exact ⟨⟨hs.1, by omega⟩, h s hs⟩
/-- A row that rises and holds just these keys is the keys, sorted. -/
theorem keysB_of {s : List (ByteArray × Bool)} {fs : List S_files_File} (h : Holds' s fs) {r : List ByteArray} (hlt : r.Pairwise fun a b => a.data.toList < b.data.toList) (hm : ∀ k, k ∈ r ↔ ∃ f ∈ fs, f.Path = k) : keysB s = r := by
  have inj : ∀ a b : ByteArray, a.data.toList = b.data.toList → a = b := fun a b e => by
    cases a; cases b; simp only at e; congr 1; exact Array.toList_inj.1 e
  have nd : r.Nodup := hlt.imp fun {a b} h e => by subst e; exact List.lt_irrefl _ h
  have hp : (keysL s).Perm (r.map fun b => b.data.toList) := by
    have e : keysL s = (s.map (·.1)).map fun b => b.data.toList := by unfold keysL; rw [List.map_map]; rfl
    rw [e]
    refine (List.Perm.map _ ?_)
    refine (List.perm_ext_iff_of_nodup h.1 nd).2 fun k => ?_
    rw [h.2, hm]
  have hs : (r.map fun b => b.data.toList).mergeSort leB = r.map fun b => b.data.toList := by
    refine List.mergeSort_of_pairwise ?_
    rw [List.pairwise_map]
    exact hlt.imp fun {a b} h => by simp only [leB, decide_eq_true_eq]; exact List.le_of_lt h
  unfold keysB
  rw [mergeSort_of_perm hp, hs, List.map_map]
  have : ((fun x : List UInt8 => (⟨x.toArray⟩ : ByteArray)) ∘ fun b : ByteArray => b.data.toList) = id := by funext b; cases b; simp
  rw [this, List.map_id]
end Go.Proofs.YtdnahdcjnahfkaaGreatDoor
namespace Go.Proofs.YtdnahdcjnahfkaaGreatDoor.Ev
open Go Go.Proofs

/-! ### what it computes -/
noncomputable def sizeK (s : List Nat) (k : Bool) : Bool := lenK s 0 fun n => ifK (Nat.ble n 1000000) k false
theorem sizeK_some {s : List Nat} {k : Bool} (h : sizeK s k = true) : s.length ≤ 1000000 ∧ k = true := by
  unfold sizeK at h
  rw [lenK_eq, Nat.zero_add] at h
  obtain ⟨h1, h⟩ := ifK_and h
  exact ⟨ble_of h1, h⟩
abbrev AccK := List AV → List (List Nat) → Bool
/-- A file: its path, mode, bytes. -/
noncomputable def fileK (cs : List AV) (acc : List (List Nat)) (k : AccK) : Bool :=
  @List.rec AV (fun _ => Bool) false (fun p r _ => @List.rec AV (fun _ => Bool) false (fun m r _ => @List.rec AV (fun _ => Bool) false (fun d r _ =>
    strK p fun s => sizeK s (intK m fun q x => ifK (kindEq q .i64) (@Int.rec (fun _ => Bool) (fun a => ifK (Nat.ble a 1000000) (strK d fun t => sizeK t (insK s acc fun acc => k r acc)) false) (fun _ => false) x) false)) r) r) cs
noncomputable def filesK (n : Nat) : List AV → List (List Nat) → AccK → Bool :=
  @Nat.rec (fun _ => List AV → List (List Nat) → AccK → Bool) (fun cs acc k => k cs acc) (fun _ ih cs acc k => fileK cs acc fun cs acc => ih cs acc k) n
noncomputable def rowS (h : T Blk) (es : Nat) (v : AV) (k : List AV → Nat → Bool) : Bool :=
  slK v (fun i o n c _ es' => ifK (Nat.beq es es') (ifK (Nat.ble n c) (ifK (Nat.ble n 100000) (blkK h i fun m t => forceN (Nat.mul n es) fun ne => ifK (Nat.ble (Nat.add o ne) m) (readK t ne o fun cs => k cs n) false) false) false) false) (k [] 0) false
noncomputable def rowsS (h : T Blk) (rows : List AV) : Nat → List (List Nat) → (List (List Nat) → Bool) → Bool :=
  @List.rec AV (fun _ => Nat → List (List Nat) → (List (List Nat) → Bool) → Bool) (fun _ acc k => k acc) (fun r _ ih m acc k => rowS h 3 r fun cs n => forceN (Nat.add m n) fun m => ifK (Nat.ble m 1000000) (filesK n cs acc fun _ acc => ih m acc k) false) rows
noncomputable def gPth : Orc := fun args h nx k => l1K args (fun l => rowS h 1 l fun rows _ => rowsS h rows 0 [] fun ps => strsK ps fun cs => lenK cs 0 fun n => @Nat.rec (fun _ => Bool) (k .empt h nx) (fun _ _ => ifK (Nat.ble n 1000000) (mkK cs h nx fun h nx' => k (.sl nx 0 n n true 1) h nx') false) n) false

section
variable {E : Env}
abbrev by_ (E : Env) (s : List Nat) : List UInt8 := s.map E.byte
theorem bytes_list (s : List Nat) : (E.bytes s).data.toList = by_ E s := by simp [Env.bytes]
theorem bytes_inj {s t : List Nat} (h : by_ E s = by_ E t) : E.bytes s = E.bytes t := by unfold Env.bytes; unfold by_ at h; rw [h]
/-- It rises. -/
def Srt (E : Env) (l : List (List Nat)) : Prop := l.Pairwise fun a b => by_ E a < by_ E b
theorem bless_eq : ∀ (x y : List UInt8), Op.bytesLess x y = decide (x < y)
  | [], [] => by simp [Op.bytesLess]
  | _ :: _, [] => by simp [Op.bytesLess]
  | [], _ :: _ => by simp [Op.bytesLess]
  | a :: x, b :: y => by
    rw [Op.bytesLess, bless_eq x y]
    simp only [List.cons_lt_cons_iff]
    by_cases h1 : a < b <;> by_cases h2 : a = b <;> by_cases h3 : x < y <;> simp [h1, h2, h3]
theorem insK_some {s : List Nat} : ∀ {l : List (List Nat)} {k : List (List Nat) → Bool}, insK s l k = true →
    ∃ l', k l' = true ∧ (Srt E l → Srt E l') ∧ ∀ x : ByteArray, x ∈ l'.map E.bytes ↔ x ∈ l.map E.bytes ∨ x = E.bytes s
  | [], k, h => ⟨[s], h, fun _ => by simp [Srt], fun x => by simp⟩
  | y :: r, k, h => by
    obtain ⟨n, h, ho1, ho2, ho3⟩ := ordS_some (E := E) (l := s) (m := y) (c := fun n => @Nat.rec (fun _ => Bool) (k (s :: y :: r)) (fun n _ => @Nat.rec (fun _ => Bool) (k (y :: r)) (fun _ _ => insK s r fun r => k (y :: r)) n) n) h
    rw [bless_eq] at ho1
    match n, h, ho1, ho2, ho3 with
    | 0, h, ho1, _, _ =>
      have hlt : by_ E s < by_ E y := by simpa using ho1
      refine ⟨_, h, fun hs => ?_, fun x => by simp only [List.map_cons, List.mem_cons]; exact ⟨fun h => by rcases h with h | h | h <;> simp [h], fun h => by rcases h with (h | h) | h <;> simp [h]⟩⟩
      refine List.Pairwise.cons (fun z hz => ?_) hs
      rcases List.mem_cons.1 hz with rfl | hz
      · exact hlt
      · exact List.lt_trans hlt (List.rel_of_pairwise_cons hs hz)
    | 1, h, _, ho2, _ =>
      have he : by_ E s = by_ E y := by simpa using ho2
      refine ⟨_, h, id, fun x => ⟨.inl, fun h => h.elim id fun e => ?_⟩⟩
      rw [e, bytes_inj he]; simp
    | 2, h, ho1, ho2, _ =>
      have h1 : ¬ by_ E s < by_ E y := by simpa using ho1
      have h2 : ¬ by_ E s = by_ E y := by simpa using ho2
      have hgt : by_ E y < by_ E s := by
        exact Classical.byContradiction fun h => h2 (List.le_antisymm h h1)
      replace h := insK_some (s := s) (l := r) (k := fun r => k (y :: r)) h
      obtain ⟨l', h, hs, hm⟩ := h
      refine ⟨_, h, fun hsr => ?_, fun x => ?_⟩
      · have hr : Srt E r := List.Pairwise.of_cons hsr
        refine List.Pairwise.cons (fun z hz => ?_) (hs hr)
        have : E.bytes z ∈ l'.map E.bytes := List.mem_map.2 ⟨z, hz, rfl⟩
        rcases (hm _).1 this with h3 | h3
        · obtain ⟨z', hz', e⟩ := List.mem_map.1 h3
          have e2 : by_ E z' = by_ E z := by rw [← bytes_list, e, bytes_list]
          rw [← e2]; exact List.rel_of_pairwise_cons hsr hz'
        · have e2 : by_ E z = by_ E s := by rw [← bytes_list, h3, bytes_list]
          rw [e2]; exact hgt
      · simp only [List.map_cons, List.mem_cons, hm]
        exact ⟨fun h => by rcases h with h | h | h <;> simp [h], fun h => by rcases h with (h | h) | h <;> simp [h]⟩
    | n + 3, _, _, _, ho3 => omega
/-- Of files: they read so. -/
def FilesAt (E : Env) (cs : List AV) (L : List S_files_File) : Prop := ∀ ρ w vs, VRs E ρ cs vs → Flat r_files_File [] w vs L
theorem filesK_some : ∀ {n : Nat} {cs : List AV} {acc : List (List Nat)} {k : AccK}, filesK n cs acc k = true → ∃ fs rest acc' L, cs = fs ++ rest ∧ k rest acc' = true ∧ L.length = n ∧ fs.length = n * 3 ∧ FilesAt E fs L ∧ (Srt E acc → Srt E acc') ∧
    ∀ x : ByteArray, x ∈ acc'.map E.bytes ↔ x ∈ acc.map E.bytes ∨ ∃ f ∈ L, f.Path = x
  | 0, cs, acc, k, h => ⟨[], cs, acc, [], rfl, h, rfl, rfl, fun ρ w vs hv => by simp only [VRs] at hv; subst hv; exact Flat.nil, id, fun x => by simp⟩
  | n + 1, cs, acc, k, h => by
    match cs, h with
    | [], h => cases h
    | [_], h => cases h
    | [_, _], h => cases h
    | p :: m :: d :: r, h =>
      change strK p (fun s => sizeK s (intK m fun q x => ifK (kindEq q .i64) (@Int.rec (fun _ => Bool) (fun a => ifK (Nat.ble a 1000000) (strK d fun t => sizeK t (insK s acc fun acc => filesK n r acc k)) false) (fun _ => false) x) false)) = true at h
      obtain ⟨s, rfl, h⟩ := strK_some h
      obtain ⟨hs1, h⟩ := sizeK_some h
      obtain ⟨q, x, rfl, h⟩ := intK_some h
      obtain ⟨hq, h⟩ := ifK_and h
      have := kindEq_of hq; subst this
      cases x with
      | negSucc a => cases h
      | ofNat a =>
        obtain ⟨ha, h⟩ := ifK_and (b := Nat.ble a 1000000) (t := strK d fun t => sizeK t (insK s acc fun acc => filesK n r acc k)) h
        have ha := ble_of ha
        obtain ⟨t, rfl, h⟩ := strK_some h
        obtain ⟨ht1, h⟩ := sizeK_some h
        obtain ⟨acc1, h, i1, i2⟩ := insK_some (E := E) h
        obtain ⟨fs, rest, acc', L, rfl, h, hl, hfl, hF, j1, j2⟩ := filesK_some (n := n) h
        refine ⟨.str s :: .int .i64 (Int.ofNat a) :: .str t :: fs, rest, acc', ⟨E.bytes s, Int.ofNat a, E.bytes t⟩ :: L, rfl, h, by simp [hl], by simp [hfl]; omega, fun ρ w vs hv => ?_, fun hs => j1 (i1 hs), fun x => ?_⟩
        · simp only [VRs, VR] at hv
          obtain ⟨_, r1, rfl, ⟨_, r2, rfl, ⟨_, r3, rfl, hv, rfl⟩, rfl⟩, rfl⟩ := hv
          have := r_files_File_mk (X := []) (w := w) (Pathq := E.bytes s) (Modeq := Int.ofNat a) (Dataq := E.bytes t) (by rw [bytes_size]; unfold maxLen; omega) (inR_i64.2 (by have : Int.ofNat a = (a : Int) := rfl; omega)) (by rw [bytes_size]; unfold maxLen; omega)
          exact Flat.cons this (hF ρ w _ hv)
        · rw [j2, i2]
          simp only [List.mem_cons, exists_eq_or_imp]
          exact ⟨fun h => by rcases h with (h | h) | h <;> simp [h], fun h => by rcases h with h | h | h <;> simp [h]⟩
theorem rowS_some {h : T Blk} {es : Nat} {v : AV} {k : List AV → Nat → Bool} (e : rowS h es v k = true) : ∃ cs n, k cs n = true ∧ cs.length = n * es ∧ n ≤ 100000 ∧ ∀ ρ w u, Inv E ρ h.get w → VR E ρ v u → ∃ a cc, u = .slice a n cc ∧ n ≤ cc ∧ cc ≤ maxLen ∧
    ((n = 0 ∧ a = none ∧ cc = 0) ∨ ∃ b o xs, a = some ⟨b, o, none⟩ ∧ b < w.heap.size ∧ CellsAt w b o xs ∧ VRs E ρ cs xs ∧ ∀ c ∈ xs, c.oneCell' = true) := by
  unfold rowS at e
  replace e := slK_some e
  rcases e with ⟨i, o, n, c, ex, es', rfl, e⟩ | ⟨rfl, e⟩ | ⟨_, e⟩
  · replace e := ifK_and e
    obtain ⟨h0, e⟩ := e
    have := beq_of h0; subst this
    replace e := ifK_and e
    obtain ⟨h1, e⟩ := e
    have h1 := ble_of h1
    replace e := ifK_and e
    obtain ⟨h2, e⟩ := e
    have h2 := ble_of h2
    replace e := blkK_some e
    obtain ⟨m, t, hb, e⟩ := e
    rw [forceN_eq] at e
    replace e := ifK_and e
    obtain ⟨h3, e⟩ := e
    have h3 := ble_of h3
    replace e := readK_some e
    obtain ⟨cs, hl, hg, e⟩ := e
    refine ⟨cs, n, e, hl, h2, fun ρ w u hI hu => ?_⟩
    simp only [VR] at hu
    obtain ⟨L, cc, hL, rfl, v1, _, v3, v4⟩ := hu
    obtain ⟨xs, g1, g2, g3⟩ := (hI.blk hb hL).row h3 hl hg
    refine ⟨_, cc, rfl, by omega, v4.2.1, .inr ⟨L.b, L.o + o, xs, rfl, (hI.blk hb hL).lt, fun j u hj => ?_, g1, g2⟩⟩
    rw [g3 j (List.getElem?_eq_some_iff.1 hj).1]; exact hj
  · refine ⟨[], 0, e, by simp, by omega, fun ρ w u _ hu => ?_⟩
    simp only [VR] at hu
    subst hu
    exact ⟨none, 0, rfl, Nat.le_refl _, Nat.zero_le _, .inl ⟨rfl, rfl, rfl⟩⟩
  · cases e
/-- Of rows of files: they read so. -/
def RowsAt (E : Env) (h : T Blk) (rows : List AV) (L : List (List S_files_File)) : Prop := ∀ ρ w vs, Inv E ρ h.get w → VRs E ρ rows vs → Flat (rSl r_files_File) [] w vs L
theorem rowsS_some {h : T Blk} : ∀ {rows : List AV} {m : Nat} {acc : List (List Nat)} {k : List (List Nat) → Bool}, rowsS h rows m acc k = true → m ≤ 1000000 → ∃ acc' L, k acc' = true ∧ L.length = rows.length ∧ m + sumL L ≤ 1000000 ∧ RowsAt E h rows L ∧ (Srt E acc → Srt E acc') ∧
    ∀ x : ByteArray, x ∈ acc'.map E.bytes ↔ x ∈ acc.map E.bytes ∨ ∃ f ∈ L.flatten, f.Path = x
  | [], m, acc, k, e, hm => ⟨acc, [], e, rfl, by simpa [sumL] using hm, fun ρ w vs _ hv => by simp only [VRs] at hv; subst hv; exact Flat.nil, id, fun x => by simp⟩
  | r :: rows, m, acc, k, e, hm => by
    obtain ⟨cs, n, e, hl, hn, hrow⟩ := rowS_some (E := E) (h := h) (es := 3) (v := r) (k := fun cs n => forceN (Nat.add m n) fun m => ifK (Nat.ble m 1000000) (filesK n cs acc fun _ acc => rowsS h rows m acc k) false) e
    rw [forceN_eq] at e
    obtain ⟨h1, e1⟩ := ifK_and e
    have h1 := ble_of h1
    obtain ⟨fs, rest, acc1, L1, hcs, e2, hL1, hfl, hF, i1, i2⟩ := filesK_some (E := E) e1
    subst hcs
    obtain ⟨acc', L, e3, hL, hs, hR, j1, j2⟩ := rowsS_some (h := h) (rows := rows) e2 h1
    have hrest : rest = [] := by
      rw [List.length_append] at hl
      exact List.eq_nil_of_length_eq_zero (by omega)
    subst hrest
    rw [List.append_nil] at hrow
    refine ⟨acc', L1 :: L, e3, by simp [hL], by simp only [sumL, List.map_cons, List.sum_cons] at hs ⊢; simp only [Nat.add_eq] at hs; omega, fun ρ w vs hI hv => ?_, fun hs => j1 (i1 hs), fun x => ?_⟩
    · simp only [VRs] at hv
      obtain ⟨u, us, hu, hus, rfl⟩ := hv
      obtain ⟨a, cc, rfl, g1, g2, g3⟩ := hrow ρ w u hI hu
      refine Flat.cons1 (R := rSl r_files_File) ⟨a, cc, by rw [hL1], by rw [hL1]; exact g1, g2, ?_⟩ (hR ρ w us hI hus)
      rcases g3 with ⟨rfl, rfl, rfl⟩ | ⟨b, o, xs, rfl, q1, q2, q3, q4⟩
      · exact .inl ⟨List.eq_nil_of_length_eq_zero hL1, fun _ => rfl⟩
      · exact .inr ⟨b, o, xs, rfl, by simp, q1, q2, hF ρ w xs q3⟩
    · rw [j2, i2]
      simp only [List.flatten_cons, List.mem_append]
      constructor
      · rintro ((h | ⟨f, h, e⟩) | ⟨f, h, e⟩)
        · exact .inl h
        · exact .inr ⟨f, .inl h, e⟩
        · exact .inr ⟨f, .inr h, e⟩
      · rintro (h | ⟨f, h | h, e⟩)
        · exact .inl (.inl h)
        · exact .inl (.inr ⟨f, h, e⟩)
        · exact .inr ⟨f, h, e⟩
theorem strsK_eq : ∀ (l : List (List Nat)) (k : List AV → Bool), strsK l k = k (l.map .str)
  | [], _ => rfl
  | s :: l, k => by
    show strsK l (fun r => k (.str s :: r)) = _
    rw [strsK_eq l]; rfl
/-- A block that lies behind all that was there. -/
theorem fresh_step {ρ : Nat → Option Loc} {h h' : T Blk} {nx g : Nat} {t : T AV} {cs : List AV} {w w' : World} {c : Array Value} {el : Nat} (hI : Inv E ρ h.get w) (hK : Keeps w w') (hg : w.heap.size ≤ g) (hc : w'.heap[g]? = some (.cells c el (0, 0))) (hnx : ρ nx = none)
    (hv : ∀ (ρ' : Nat → Option Loc) (j : Nat) (a : AV), cs[j]? = some a → ∃ v, c[j]? = some v ∧ VR E ρ' a v ∧ v.oneCell' = true) (ht : ∀ j, j < cs.length → t.get j = cs[j]?) (hT : t.get (cs.length + 7) = none) (hu : Upd h nx (.live cs.length t) h') :
    Stp ρ h.get w nx (ρset ρ nx ⟨g, 0, c.size, 1⟩) h'.get w' (nx + 1) ∧ Inv E (ρset ρ nx ⟨g, 0, c.size, 1⟩) h'.get w' := by
  have hext : Ext ρ (ρset ρ nx ⟨g, 0, c.size, 1⟩) := ρset_ext hnx
  have e0 : ∀ i n u, h'.get i = some (.live n u) → (i = nx ∧ n = cs.length ∧ u = t) ∨ (i ≠ nx ∧ h.get i = some (.live n u)) := fun i n u hi => by
    rw [hu] at hi
    split at hi
    · rename_i e; injection hi with hi; injection hi with a b; exact .inl ⟨e, a.symm, b.symm⟩
    · rename_i e; exact .inr ⟨e, hi⟩
  refine ⟨⟨Nat.le_succ _, fun j a b => by rwa [show j = nx from by omega], fun j hj => by unfold ρset; rw [if_neg (by omega)], hK.os, hK.tape, hK.output, hK.size, fun b hb _ => hK.keep b hb, fun i n u L hi hL => ?_⟩, ⟨fun i n u hi => ?_, fun i k n u n' u' hi hk hne L M hL hM => ?_⟩⟩
  · rcases e0 i n u hi with ⟨rfl, _, _⟩ | ⟨e, hi⟩
    · simp only [ρset, if_pos] at hL; injection hL with hL; subst hL
      exact .inl hg
    · simp only [ρset, if_neg e] at hL
      exact .inr ⟨i, n, u, L, hi, hL, rfl⟩
  · rcases e0 i n u hi with ⟨rfl, rfl, rfl⟩ | ⟨e, hi⟩
    · refine ⟨⟨g, 0, c.size, 1⟩, by simp [ρset], c, el, (0, 0), hc, fun k _ hk => by omega, rfl, fun j hj => ?_, TyAt.of hT⟩
      have hx : cs[j]? = some cs[j] := by simp [hj]
      obtain ⟨v, h1, h2, h3⟩ := hv (ρset ρ i ⟨g, 0, c.size, 1⟩) j _ hx
      exact ⟨cs[j], v, by rw [ht j hj, hx], by simpa using h1, h2, h3⟩
    · obtain ⟨L, hL, hB⟩ := (hK.inv hI).at_ i n u hi
      exact ⟨L, hext _ _ hL, hB.ext hext⟩
  · rcases e0 i n u hi with ⟨rfl, _, _⟩ | ⟨e, hi⟩
    · rcases e0 k n' u' hk with ⟨rfl, _, _⟩ | ⟨e2, hk⟩
      · exact absurd rfl hne
      · simp only [ρset, if_pos] at hL; injection hL with hL; subst hL
        simp only [ρset, if_neg e2] at hM
        have := (hI.blk hk hM).lt
        show g ≠ M.b
        omega
    · simp only [ρset, if_neg e] at hL
      rcases e0 k n' u' hk with ⟨rfl, _, _⟩ | ⟨e2, hk⟩
      · simp only [ρset, if_pos] at hM; injection hM with hM; subst hM
        have := (hI.blk hi hL).lt
        show L.b ≠ g
        omega
      · simp only [ρset, if_neg e2] at hM
        exact hI.inj i k n u n' u' hi hk hne L M hL hM
theorem paths_orc {F : Facts} : FnRel Tryz.prog E F 169 (.orc gPth) := by
  refine .orc fun args h nx k hk hfr => ?_
  unfold gPth at hk
  replace hk := l1K_some hk
  rcases hk with ⟨x, rfl, hk⟩ | hk
  rotate_left
  · cases hk
  obtain ⟨rows, nr, hk, hlen, hnr, hrow⟩ := rowS_some (E := E) hk
  rw [Nat.mul_one] at hlen
  obtain ⟨ps, L, hk, hL, hsum, hR, hsrt, hmem⟩ := rowsS_some (E := E) hk (by omega)
  rw [strsK_eq, lenK_eq, Nat.zero_add, List.length_map] at hk
  have hf : FnHas Tryz.prog 169 := ⟨_, Tryz.func169, by kernel_rfl, by kernel_rfl⟩
  have hsort := hsrt (by simp [Srt])
  have call : ∀ ρ w vs, Inv E ρ h.get w → VRs E ρ [x] vs → Calls Tryz.prog 169 vs.toArray w (Ret fun v w' => Keeps w w' ∧ ∃ a0 c0, v = .slice a0 ps.length ps.length ∧ OS rStr [] w.heap.size (blkL a0 ++ []) w' 9 a0 ps.length c0 (ps.map E.bytes)) := by
    intro ρ w vs hI hvs
    simp only [VRs] at hvs
    obtain ⟨u, r, hu, hr, rfl⟩ := hvs
    subst hr
    obtain ⟨a, cc, rfl, g1, g2, g3⟩ := hrow ρ w u hI hu
    have hSl : Sl (rSl r_files_File) [] w a cc L := by
      refine ⟨by omega, g2, ?_⟩
      rcases g3 with ⟨h1, rfl, rfl⟩ | ⟨b, o, xs, rfl, q1, q2, q3, q4⟩
      · exact .inl ⟨List.eq_nil_of_length_eq_zero (by omega), fun _ => rfl⟩
      · exact .inr ⟨b, o, xs, rfl, by simp, q1, q2, hR ρ w xs hI q3⟩
    have hpre : files_Paths_p L fun r => r = ps.map E.bytes := paths_p (by omega) (by omega) fun s hs => by
      refine keysB_of hs ?_ fun k => ?_
      · rw [List.pairwise_map]
        exact hsort.imp fun {a b} h => by rw [bytes_list, bytes_list]; exact h
      · have := hmem k
        simpa using this
    have hw := files_Paths_w (X := []) (Old.nil w) hSl hpre
    have e : #[Value.slice a L.length cc] = [Value.slice a nr cc].toArray := by rw [show L.length = nr from by omega]
    rw [← e]
    refine hw.mono ?_
    rintro e w' ⟨v, rfl, r0, hr0, hE, a0, c0, rfl, hO⟩
    subst hr0
    rw [List.length_map] at hO ⊢
    exact ⟨_, rfl, ⟨hE.os, hE.tape, hE.output, hE.size, fun b hb => hE.keep b hb (by simp)⟩, a0, c0, rfl, hO⟩
  cases hps : ps.length with
  | zero =>
    rw [hps] at hk
    refine ⟨_, h, nx, hk, hfr, Nat.le_refl _, .inl ⟨hf, fun ρ w vs _ hI hvs => ?_⟩⟩
    refine (call ρ w vs hI hvs).mono ?_
    rintro e w' ⟨v, rfl, hkp, a0, c0, rfl, _⟩
    rw [hps]
    exact ⟨_, rfl, ρ, hkp.stp, hkp.inv hI, by simp only [VR]; exact ⟨_, _, rfl⟩⟩
  | succ n' =>
    have hpos : 0 < ps.length := by omega
    rw [hps] at hk
    change ifK (Nat.ble (n' + 1) 1000000) (mkK (ps.map .str) h nx fun h nx' => k (.sl nx 0 (n' + 1) (n' + 1) true 1) h nx') false = true at hk
    rw [← hps] at hk
    obtain ⟨hn, hk⟩ := ifK_and hk
    have hn := ble_of hn
    obtain ⟨t, h', ht, hu, hk⟩ := mkK_some hk
    refine ⟨_, h', nx + 1, hk, hfr.new hu, Nat.le_succ _, .inl ⟨hf, fun ρ w vs hfree hI hvs => ?_⟩⟩
    refine (call ρ w vs hI hvs).mono ?_
    rintro e w' ⟨v, rfl, hkp, a0, c0, rfl, hO⟩
    obtain ⟨_, ⟨_, _, xs, ho, hx⟩, hW⟩ := hO
    rw [List.length_map] at ho
    rcases ho.2 with ⟨_, h0⟩ | ⟨g, cap, cur, hv, _, hg, hnc, hcm, hcs, htake⟩
    · omega
    · injection hv with e1 e2 e3
      subst e1
      have hn1 : rStr.n = 1 := rfl
      rw [hn1] at hcs htake
      have hge : w.heap.size ≤ g := by
        rcases hW g (by simp [blkL]) with h | h
        · cases h
        · exact h
      have hxv : ∀ j, j < ps.length → cur[j]? = some (.string (E.bytes (ps.getD j []))) := fun j hj => by
        obtain ⟨cs, hok, hcell⟩ := hx.get j (by simpa using hj)
        obtain ⟨rfl, _⟩ := hok
        have hc0 := hcell 0 _ rfl
        rw [hn1] at hc0
        have h2 : (cur.toList.take (ps.length * 1))[j * 1 + 0]? = some (.string ((ps.map E.bytes)[j]'(by simpa using hj))) := by rw [htake]; exact hc0
        rw [Nat.mul_one, Nat.mul_one, Nat.add_zero, List.getElem?_take, if_pos hj, Array.getElem?_toList] at h2
        rw [h2, List.getElem_map]
        simp [List.getD, hj]
      obtain ⟨s1, s2⟩ := fresh_step (cs := ps.map .str) hI hkp hge hg (hfree nx (Nat.le_refl _) (Nat.lt_succ_self _)) (fun ρ' j a ha => by
        rw [List.getElem?_map] at ha
        obtain ⟨s, hs, rfl⟩ := Option.map_eq_some_iff.1 ha
        have hj := (List.getElem?_eq_some_iff.1 hs).1
        refine ⟨_, hxv j hj, ?_, rfl⟩
        simp only [VR, List.getD, hs]; rfl) (fun j hj => by rw [ht, if_pos hj]) (by rw [ht, if_neg (by omega)]) hu
      refine ⟨_, rfl, _, s1, s2, ?_⟩
      simp only [VR]
      refine ⟨⟨g, 0, cur.size, 1⟩, ps.length, by simp [ρset], rfl, Nat.le_refl _, fun _ => rfl, ?_, fun h => absurd rfl h, by omega, fun h => (by cases h)⟩
      show 0 + 0 + ps.length * 1 ≤ cur.size
      rw [hcs]; omega
end
end Go.Proofs.YtdnahdcjnahfkaaGreatDoor.Ev
