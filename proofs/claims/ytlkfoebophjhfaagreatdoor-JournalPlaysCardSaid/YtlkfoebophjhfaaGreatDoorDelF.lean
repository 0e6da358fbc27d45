/- slices.DeleteFunc at a row of texts of ours and a function that asks path.Under, out of the library's proved functions. -/
import Derived.Test.YtlkfoebophjhfaaGreatDoorPk
import Derived.Test.YtlkfoebophjhfaaGreatDoorStEq
import Derived.Test.YtlkfoebophjhfaaGreatDoorLib
import Derived.Test.YtlkfoebophjhfaaGreatDoorDel
import Derived.Test.YtlkfoebophjhfaaGreatDoorDfL
namespace Go.Proofs.YtlkfoebophjhfaaGreatDoor
open Go Go.Shelf Go.RowKit Go.Sort
/-- begins s with q? -/
def hasPre (s q : ByteArray) : Bool := decide ((s.size : Int) ≥ (q.size : Int) ∧ bsub s (0 : Int) (q.size : Int) = q)
/-- lies x under dir, as the code asks? -/
def undB (dir x : ByteArray) : Bool := if dir = (ByteArray.mk #[]) then !decide (x = (ByteArray.mk #[])) else decide ((x.size : Int) > (dir.size : Int) + (1 : Int)) && hasPre x (dir ++ (ByteArray.mk #[47]))
set_option maxRecDepth 20000 in
theorem hpre2_x (s q : ByteArray) (w : World) : Calls Tryz.prog 89 #[(.string s), (.string q)] w (Ret fun v w' => v = .bool (hasPre s q) ∧ w' = w) := by
  refine enter_ Tryz.func89 rfl 18 [(0, (.string s)), (1, (.string q))] (by kernel_rfl) (fun Qe hQ => ?_)
  refine sr (fun _ K3 => pv (.bool false) (nt K3 (sr (fun _ K4 => pv (.string s) (pv (.int .i64 (s.size : Int)) (pv (.string q) (pv (.int .i64 (q.size : Int)) ?_)))))))
  by_cases h : (s.size : Int) ≥ (q.size : Int)
  · refine pw (.bool true) (x_dt (p := (s.size : Int) ≥ (q.size : Int)) (by kernel_rfl) h) (pv (.bool true) (pv (.string s) (pv (.string q) (pv (.int .i64 (q.size : Int)) ?_))))
    refine pw (.string (bsub s (0 : Int) (q.size : Int))) (x_sub01 (k := .i64) (by kernel_rfl) (by kernel_rfl) Tryz.underlying9 ⟨Int.le_refl _, by omega, h⟩) (pv (.string q) ?_)
    refine pw (.bool (decide (bsub s (0 : Int) (q.size : Int) = q))) (x_streq (by kernel_rfl) (by kernel_rfl)) (pv (.bool (decide (bsub s (0 : Int) (q.size : Int) = q))) (pv (.bool (decide (bsub s (0 : Int) (q.size : Int) = q))) (nt K4 ?_)))
    refine wp_ret (end_ret hQ (.bool (decide (bsub s (0 : Int) (q.size : Int) = q))) (by kernel_rfl) ⟨?_, rfl⟩)
    unfold hasPre; congr 1; exact decide_eq_decide.2 ⟨fun x => ⟨h, x⟩, fun x => x.2⟩
  · refine pw (.bool false) (x_df (p := (s.size : Int) ≥ (q.size : Int)) (by kernel_rfl) h) (pv (.bool false) (no (no (no (no (no (no (pv (.bool false) (pv (.bool false) (nt K4 ?_))))))))))
    refine wp_ret (end_ret hQ (.bool false) (by kernel_rfl) ⟨?_, rfl⟩)
    unfold hasPre; rw [decide_eq_false (fun x => h x.1)]
set_option maxRecDepth 20000 in
theorem hpre_x (s q : ByteArray) (w : World) : Calls Tryz.prog 73 #[(.string s), (.string q)] w (Ret fun v w' => v = .bool (hasPre s q) ∧ w' = w) := by
  refine enter_ Tryz.func73 rfl 8 [(0, (.string s)), (1, (.string q))] (by kernel_rfl) (fun Qe hQ => ?_)
  refine sr (fun _ K3 => pv (.bool false) (nt K3 (sr (fun _ K4 => pv (.string s) (pv (.string q) ?_)))))
  refine sq (o_call 89 #[(.string s), (.string q)] rfl (x_call Tryz.call89 (by kernel_rfl)) (hpre2_x s q w) ?_)
  rintro _ w6 ⟨rfl, rfl⟩
  exact pv (.bool (hasPre s q)) (nt K4 (wp_ret (end_ret hQ (.bool (hasPre s q)) (by kernel_rfl) ⟨rfl, rfl⟩)))
set_option maxRecDepth 20000 in
theorem und_x (x dir : ByteArray) (hd : dir.size < maxLen) (w : World) : Calls Tryz.prog 48 #[(.string x), (.string dir)] w (Ret fun v w' => v = .bool (undB dir x) ∧ w' = w) := by
  have hd' : dir.size + 1 ≤ maxLen := hd
  have hin : inR .i64 ((dir.size : Int) + (1 : Int)) := by
    have : maxLen ≤ 9223372036854775807 := by decide
    rw [inR_i64]; omega
  refine enter_ Tryz.func48 rfl 21 [(0, (.string x)), (1, (.string dir))] (by kernel_rfl) (fun Qe hQ => ?_)
  refine sr (fun _ K3 => pv (.bool false) (nt K3 (seq_ (fun _ K4 => sr (fun _ K5 => pv (.string dir) ?_)))))
  refine pw (.bool (decide ((dir : ByteArray) = (ByteArray.mk #[])))) (x_streq (by kernel_rfl) (by kernel_rfl)) (nt K5 ?_)
  refine cond_d ((dir : ByteArray) = (ByteArray.mk #[])) (by kernel_rfl) (fun h6 => ?_) (fun h6 => ?_)
  · refine sr (fun _ K7 => pv (.string x) (pw (.bool (!decide ((x : ByteArray) = (ByteArray.mk #[])))) (x_strne (by kernel_rfl) (by kernel_rfl)) (pv (.bool (!decide ((x : ByteArray) = (ByteArray.mk #[])))) (nt K7 ?_))))
    refine wp_ret (then_ret (end_ret hQ (.bool (!decide ((x : ByteArray) = (ByteArray.mk #[])))) (by kernel_rfl) ⟨?_, rfl⟩))
    unfold undB; rw [if_pos h6]
  · refine wp_skip (then_normal (K4 _ _ _ _ (sr (fun _ K8 => pv (.string x) (pv (.int .i64 (x.size : Int)) (pv (.string dir) (pv (.int .i64 (dir.size : Int)) ?_)))))))
    refine pw (.int .i64 ((dir.size : Int) + (1 : Int))) (x_add2 (k := .i64) (a := (dir.size : Int)) (b := (1 : Int)) ((dir.size : Int) + (1 : Int)) (by kernel_rfl) (by kernel_rfl) (wrap_inR hin)) ?_
    by_cases h : (x.size : Int) > ((dir.size : Int) + (1 : Int))
    · refine pw (.bool true) (x_dt (p := (x.size : Int) > ((dir.size : Int) + (1 : Int))) (by kernel_rfl) h) (pv (.bool true) (pv (.string x) (pv (.string dir) ?_)))
      refine pw (.string (dir ++ (ByteArray.mk #[47]))) (x_cat (by kernel_rfl) (by kernel_rfl) (by rw [ByteArray.size_append]; exact hd')) ?_
      refine sq (o_call 73 #[(.string x), (.string (dir ++ (ByteArray.mk #[47])))] (by kernel_rfl) (x_call Tryz.call73 (by kernel_rfl)) (hpre_x x (dir ++ (ByteArray.mk #[47])) w) ?_)
      rintro _ w6 ⟨rfl, rfl⟩
      refine pv (.bool (hasPre x (dir ++ (ByteArray.mk #[47])))) (pv (.bool (hasPre x (dir ++ (ByteArray.mk #[47])))) (nt K8 ?_))
      refine wp_ret (end_ret hQ (.bool (hasPre x (dir ++ (ByteArray.mk #[47])))) (by kernel_rfl) ⟨?_, rfl⟩)
      unfold undB; rw [if_neg h6, decide_eq_true h, Bool.true_and]
    · refine pw (.bool false) (x_df (p := (x.size : Int) > ((dir.size : Int) + (1 : Int))) (by kernel_rfl) h) (pv (.bool false) (no (no (no (no (pv (.bool false) (pv (.bool false) (nt K8 ?_))))))))
      refine wp_ret (end_ret hQ (.bool false) (by kernel_rfl) ⟨?_, rfl⟩)
      unfold undB; rw [if_neg h6, decide_eq_false h, Bool.false_and]
set_option maxRecDepth 20000 in
/-- The function that is handed over. -/
theorem clo_x (x dir : ByteArray) (hd : dir.size < maxLen) (kb : Nat) (w : World) (hc : w.cell? ⟨kb, 0, none⟩ = some (.string dir)) : Calls Tryz.prog 72 #[(.string x), (.pointer (some ⟨kb, 0, none⟩))] w (Ret fun v w' => v = .bool (!undB dir x) ∧ w' = w) := by
  refine enter_ Tryz.func72 rfl 8 [(0, (.string x)), (1, (.pointer (some ⟨kb, 0, none⟩)))] (by kernel_rfl) (fun Qe hQ => ?_)
  refine sr (fun _ K3 => pv (.bool false) (nt K3 (sr (fun _ K4 => pv (.string x) (pw (.string dir) (x_load1 (by kernel_rfl) Tryz.isAgg9 hc) ?_)))))
  refine sq (o_call 48 #[(.string x), (.string dir)] rfl (x_call Tryz.call48 (by kernel_rfl)) (und_x x dir hd w) ?_)
  rintro _ w6 ⟨rfl, rfl⟩
  exact pv (.bool (!undB dir x)) (pv (.bool (!undB dir x)) (nt K4 (wp_ret (end_ret hQ (.bool (!undB dir x)) (by kernel_rfl) ⟨rfl, rfl⟩))))
theorem OS.row2 {α : Type} {R : Rep α} {X G : List Nat} {w : World} {B n c : Nat} {ty : TypeId} {a : Option Addr} {L : List α} (h : OS R G B X w ty a n c L) : (a = none ∧ L = [] ∧ c = 0) ∨ ∃ g cs, a = some ⟨g, 0, none⟩ ∧ OB G B X w g cs ty ∧ cs.length = c * R.n ∧ L.length ≤ c ∧ c ≤ maxLen ∧ Flat R X w (cs.take (L.length * R.n)) L := by
  obtain ⟨hn, ⟨hb, hmem, xs, ho, hx⟩, hw⟩ := h
  rcases ho.2 with ⟨h1, h2⟩ | ⟨g, cap, cur, hv, hbg, hg, hnc, hcm, hcs, htake⟩
  · injection h1 with e1 e2 e3
    exact .inl ⟨e1, List.eq_nil_of_length_eq_zero h2, e3⟩
  · injection hv with e1 e2 e3
    subst e1; subst e3
    exact .inr ⟨g, cur.toList, rfl, ⟨hmem g (by simp [blkL]), by unfold Blk; simpa using hg, hw⟩, by simpa using hcs, hnc, hcm, by rw [htake]; exact hx⟩
theorem flat_str {X : List Nat} {w : World} : ∀ {l : List ByteArray} {xs : List Value}, Flat rStr X w xs l → xs = l.map Value.string ∧ ∀ x ∈ l, x.size ≤ maxLen
  | [], _, h => ⟨h, fun _ h => by cases h⟩
  | x :: l, _, h => by
    obtain ⟨cs, r, rfl, ⟨rfl, h1⟩, h2⟩ := h
    obtain ⟨rfl, h3⟩ := flat_str h2
    refine ⟨rfl, fun y hy => ?_⟩
    rcases List.mem_cons.1 hy with rfl | hy
    · exact h1
    · exact h3 y hy
theorem flat_mk {X : List Nat} {w : World} : ∀ {l : List ByteArray}, (∀ x ∈ l, x.size ≤ maxLen) → Flat rStr X w (l.map Value.string) l
  | [], _ => rfl
  | x :: l, h => Flat.cons1 (rStr_mk (h x (by simp))) (flat_mk fun y hy => h y (by simp [hy]))
theorem put_heap {w : World} {g q : Nat} {cur : Array Value} {e : TypeId} (d : Array ByteArray) (hb : w.heap[g]? = some (.cells cur e (0, 0))) :
    (putRow Value.string (Sort.ahead w q) g 0 d).heap[g]? = some (.cells (putCells Value.string 0 d cur) e (0, 0)) := by
  simp [putRow, mapBlock, Sort.ahead, Array.getElem?_modify, hb, onCells]
theorem put_evo {w : World} {g q : Nat} (d : Array ByteArray) : Evo [g] w (putRow Value.string (Sort.ahead w q) g 0 d) := by
  refine ⟨rfl, rfl, rfl, by simp, fun k _ hk => ?_⟩
  have : g ≠ k := fun e => hk (by simp [e])
  simp [putRow, mapBlock, Sort.ahead, Array.getElem?_modify, this]
abbrev cloV (kb : Nat) : Value := .func (.func 72) #[] #[.pointer (some ⟨kb, 0, none⟩)]
theorem clo_gives (x dir : ByteArray) (hd : dir.size < maxLen) (kb : Nat) (W : World) (hc : W.cell? ⟨kb, 0, none⟩ = some (.string dir)) : FnGives Tryz.prog 72 #[.pointer (some ⟨kb, 0, none⟩)] #[.string x] (.bool (!undB dir x)) W := by
  show Calls Tryz.prog 72 #[(.string x), (.pointer (some ⟨kb, 0, none⟩))] W _
  refine (clo_x x dir hd kb W hc).mono ?_
  rintro e w' ⟨v, rfl, rfl, rfl⟩
  exact ⟨rfl, 0, rfl⟩
set_option maxRecDepth 20000 in
theorem del_nil (kb : Nat) (w : World) : Calls Tryz.prog 71 #[(.slice none 0 0), (cloV kb)] w (Ret fun v w' => v = .slice none 0 0 ∧ w' = w) := by
  have hI : Calls Tryz.prog 88 #[(.slice none 0 0), (cloV kb)] w (Ret fun v w' => v = .int .i64 (-1) ∧ w' = w) := by
    have h := AnyE.slices_IndexFunc_empty (P := Tryz.prog) (ρ := Tryz.del71_ren) { Tryz.del71 with } none 0 (cloV kb) w
    refine Calls.mono (f := 88) h ?_
    rintro e w' ⟨rfl, rfl⟩
    exact ⟨_, rfl, rfl, rfl⟩
  refine enter_ Tryz.func71 rfl 42 [(0, (.slice none 0 0)), (1, (cloV kb))] (by kernel_rfl) (fun Qe hQ => ?_)
  refine sr (fun _ K3 => pv (.slice none 0 0) (nt K3 (sr (fun _ K5 => pv (.slice none 0 0) (pv (cloV kb) ?_)))))
  refine sq (o_call 88 #[(.slice none 0 0), (cloV kb)] rfl (x_call Tryz.call88 (by kernel_rfl)) hI ?_)
  rintro _ w6 ⟨rfl, rfl⟩
  refine pv (.int .i64 (-1)) (nt K5 (seq_ (fun _ K6 => sr (fun _ K7 => pv (.int .i64 (-1)) (pv (.bool true) (nt K7 ?_))))))
  refine cond_t (by kernel_rfl) (sr (fun _ K8 => pv (.slice none 0 0) (pv (.slice none 0 0) (nt K8 ?_))))
  exact wp_ret (then_ret (end_ret hQ (.slice none 0 0) (by kernel_rfl) ⟨rfl, rfl⟩))
/-- slices.DeleteFunc, at what a path does not lie under. -/
theorem delf_w {X : List Nat} {w : World} {B c kb : Nat} {bt : TypeId} {l : List ByteArray} {a : Option Addr} {dir : ByteArray} (hO : OS rStr [] B X w 9 a l.length c l) (hk : Blk w kb [.string dir] bt) (hne : Ap [kb] (blkL a)) (hd : dir.size < maxLen) :
    Calls Tryz.prog 71 #[(.slice a l.length l.length), (.func (.func 72) #[] #[.pointer (some ⟨kb, 0, none⟩)])] w (Ret fun v w' => ∃ X' : List Nat, v = (.slice a (l.filter (undB dir)).length l.length) ∧ Step X w (blkL a) X w' ∧ Sub X' X ∧ Sl rStr X' w' a l.length (l.filter (undB dir)) ∧ (∀ l, Ap l (blkL a) → Sub l X → Sub l X')) := by
  rcases hO.row2 with ⟨rfl, rfl, rfl⟩ | ⟨g, cs, rfl, hB, hcl, hlc, hcm, hf⟩
  · obtain ⟨X1, u, r, hm⟩ := hO.release
    have hs : Step X w (blkL none) X w := ⟨RB.refl _ _ _, hO.mem, Sub.refl _, fun _ h => .inl h⟩
    refine Calls.mono (f := 71) (del_nil kb w) ?_
    rintro e w' ⟨v, rfl, rfl, rfl⟩
    exact ⟨_, rfl, X1, rfl, hs, u, r, hm⟩
  · rw [show c * rStr.n = c from Nat.mul_one _] at hcl
    rw [show l.length * rStr.n = l.length from Nat.mul_one _] at hf
    obtain ⟨hcs, hsz⟩ := flat_str hf
    have hbl := hB.2.1
    have hH : Holds Value.string w g 0 l.toArray := fun j hj => by
      have hj' : j < l.length := hj
      have h1 : cs[j]? = some (.string l[j]!) := by
        have := congrArg (fun x => x[j]?) hcs
        simp only [List.getElem?_take_of_lt hj', List.getElem?_map] at this
        rw [this, List.getElem?_eq_getElem hj', getElem!_pos l j hj']; rfl
      refine ⟨?_, by unfold Blk at hbl; simp [World.frozen?, hbl]⟩
      rw [Nat.zero_add, hbl.cell, h1]; simp
    have hkne : kb ≠ g := fun e => hne kb (by simp) (by simp [blkL, e])
    have hcell : w.cell? ⟨kb, 0, none⟩ = some (.string dir) := hk.cell' 0 rfl
    have hcon := AnyE.slices_DeleteFunc (P := Tryz.prog) Tryz.del71 Value.string (fun _ => rfl) (fun x => !undB dir x) 72 #[.pointer (some ⟨kb, 0, none⟩)] (enters_of Tryz.func72 (by kernel_rfl) rfl) (ByteArray.mk #[]) Tryz.zeroValue9 g 0 l.length l.toArray w
      (fun W x hb => clo_gives x dir hd kb W ((hb.cell (p := ⟨kb, 0, none⟩) hk.lt).trans hcell))
      (fun n os dk x _ => clo_gives x dir hd kb _ (by
        unfold sortWorld
        rw [cell?_grow _ _ _ (by show kb < (putRow _ _ _ _ _).heap.size; rw [size_putRow]; exact hk.lt), cell?_putRow_other _ _ g 0 _ _ (Or.inl hkne)]
        exact hcell)) hH (by show l.length ≤ _; exact Nat.le_trans hlc (Nat.le_trans hcm (by decide))) (Nat.le_refl _)
    have hflt : (l.toArray.toList.filter fun x => !(!undB dir x)) = l.filter (undB dir) := by congr 1; funext x; exact Bool.not_not _
    rw [hflt] at hcon
    refine Calls.mono (f := 71) hcon ?_
    rintro e w' ⟨rfl, q, rfl⟩
    obtain ⟨d', hd'⟩ : ∃ d', d' = ((l.filter (undB dir)) ++ List.replicate (l.toArray.size - (l.filter (undB dir)).length) (ByteArray.mk #[])).toArray := ⟨_, rfl⟩
    rw [← hd']
    have hfl : (l.filter (undB dir)).length ≤ l.length := List.length_filter_le _ _
    have hst : Step X w [g] X (putRow Value.string (Sort.ahead w q) g 0 d') := Step.one (put_evo d') hB.1
    have hB2 : OB [] B X (putRow Value.string (Sort.ahead w q) g 0 d') g (putCells Value.string 0 d' cs.toArray).toList 9 := ⟨hB.1, by unfold Blk; exact put_heap d' hbl, hB.2.2⟩
    obtain ⟨X1, u, r, hm⟩ := OB.rel (R := rStr) (L := l.filter (undB dir)) (c := l.length) hB2 0 ((l.filter (undB dir)).map Value.string) (fun j v hj => by
      have hjl : j < (l.filter (undB dir)).length := by
        have := (List.getElem?_eq_some_iff.1 hj).1; simpa using this
      have hd2 : d'[j]! = (l.filter (undB dir))[j] := by
        have hjd : j < d'.size := by rw [hd']; simp; omega
        rw [getElem!_pos d' j hjd]; simp only [hd', List.getElem_toArray]; exact List.getElem_append_left hjl
      have hds : j < 0 + d'.size := by rw [hd']; simp; omega
      have hjc : j < cs.length := by omega
      rw [Nat.zero_add, Array.getElem?_toList, putCells, Array.getElem?_mapIdx, List.getElem?_toArray, List.getElem?_eq_getElem hjc, Option.map_some, if_pos ⟨Nat.zero_le _, hds⟩, Nat.sub_zero, hd2]
      rw [← hj, List.getElem?_map, List.getElem?_eq_getElem hjl]; rfl) (flat_mk fun x hx => hsz x (List.mem_filter.1 hx).1) (by omega) (Nat.le_trans hlc hcm)
    exact ⟨_, rfl, X1, rfl, hst, u, r, hm⟩
end Go.Proofs.YtlkfoebophjhfaaGreatDoor
