/- files.Paths as the evaluator takes it: a contract, out of the function's walk. -/
import Derived.Test.YtfgmmabggjjhgaaGreatDoorPthA
import Derived.Test.YtfgmmabggjjhgaaGreatDoorEvGK
namespace Go.Proofs.YtfgmmabggjjhgaaGreatDoor.Ev
open Go Go.Proofs

/-! ### what it computes -/
noncomputable def sizeK (s : List Nat) (k : Bool) : Bool := lenK s 0 fun n => ifK (Nat.ble n 1000000) k false
theorem sizeK_some {s : List Nat} {k : Bool} (h : sizeK s k = true) : s.length ≤ 1000000 ∧ k = true := by
  unfold sizeK at h
  rw [lenK_eq, Nat.zero_add] at h
  obtain ⟨h1, h⟩ := ifK_and h
  exact ⟨ble_of h1, h⟩
abbrev AccK := List AV → List (List Nat) → Bool
/-- A file: its path, mode, bytes. -/
noncomputable def fileK (cs : List AV) (acc : List (List Nat)) (k : AccK) : Bool :=
  @List.rec AV (fun _ => Bool) false (fun p r _ => @List.rec AV (fun _ => Bool) false (fun m r _ => @List.rec AV (fun _ => Bool) false (fun d r _ =>
    strK p fun s => sizeK s (intK m fun q x => ifK (kindEq q .i64) (@Int.rec (fun _ => Bool) (fun a => ifK (Nat.ble a 1000000) (strK d fun t => sizeK t (insK s acc fun acc => k r acc)) false) (fun _ => false) x) false)) r) r) cs
noncomputable def filesK (n : Nat) : List AV → List (List Nat) → AccK → Bool :=
  @Nat.rec (fun _ => List AV → List (List Nat) → AccK → Bool) (fun cs acc k => k cs acc) (fun _ ih cs acc k => fileK cs acc fun cs acc => ih cs acc k) n
noncomputable def rowS (h : T Blk) (es : Nat) (v : AV) (k : List AV → Nat → Bool) : Bool :=
  slK v (fun i o n c _ es' => ifK (Nat.beq es es') (ifK (Nat.ble n c) (ifK (Nat.ble n 100000) (blkK h i fun m t => forceN (Nat.mul n es) fun ne => ifK (Nat.ble (Nat.add o ne) m) (readK t ne o fun cs => k cs n) false) false) false) false) (k [] 0) false
noncomputable def rowsS (h : T Blk) (rows : List AV) : Nat → List (List Nat) → (List (List Nat) → Bool) → Bool :=
  @List.rec AV (fun _ => Nat → List (List Nat) → (List (List Nat) → Bool) → Bool) (fun _ acc k => k acc) (fun r _ ih m acc k => rowS h 3 r fun cs n => forceN (Nat.add m n) fun m => ifK (Nat.ble m 1000000) (filesK n cs acc fun _ acc => ih m acc k) false) rows
noncomputable def gPth : Orc := fun args h nx k => l1K args (fun l => rowS h 1 l fun rows _ => rowsS h rows 0 [] fun ps => strsK ps fun cs => lenK cs 0 fun n => @Nat.rec (fun _ => Bool) (k .empt h nx) (fun _ _ => ifK (Nat.ble n 1000000) (mkK cs h nx fun h nx' => k (.sl nx 0 n n true 1) h nx') false) n) false

section
variable {E : Env}
abbrev by_ (E : Env) (s : List Nat) : List UInt8 := s.map E.byte
theorem bytes_list (s : List Nat) : (E.bytes s).data.toList = by_ E s := by simp [Env.bytes]
theorem bytes_inj {s t : List Nat} (h : by_ E s = by_ E t) : E.bytes s = E.bytes t := by unfold Env.bytes; unfold by_ at h; rw [h]
/-- It rises. -/
def Srt (E : Env) (l : List (List Nat)) : Prop := l.Pairwise fun a b => by_ E a < by_ E b
theorem bless_eq : ∀ (x y : List UInt8), Op.bytesLess x y = decide (x < y)
  | [], [] => by simp [Op.bytesLess]
  | _ :: _, [] => by simp [Op.bytesLess]
  | [], _ :: _ => by simp [Op.bytesLess]
  | a :: x, b :: y => by
    rw [Op.bytesLess, bless_eq x y]
    simp only [List.cons_lt_cons_iff]
    by_cases h1 : a < b <;> by_cases h2 : a = b <;> by_cases h3 : x < y <;> simp [h1, h2, h3]
theorem insK_some {s : List Nat} : ∀ {l : List (List Nat)} {k : List (List Nat) → Bool}, insK s l k = true →
    ∃ l', k l' = true ∧ (Srt E l → Srt E l') ∧ ∀ x : ByteArray, x ∈ l'.map E.bytes ↔ x ∈ l.map E.bytes ∨ x = E.bytes s
  | [], k, h => ⟨[s], h, fun _ => by simp [Srt], fun x => by simp⟩
  | y :: r, k, h => by
    obtain ⟨n, h, ho1, ho2, ho3⟩ := ordS_some (E := E) (l := s) (m := y) (c := fun n => @Nat.rec (fun _ => Bool) (k (s :: y :: r)) (fun n _ => @Nat.rec (fun _ => Bool) (k (y :: r)) (fun _ _ => insK s r fun r => k (y :: r)) n) n) h
    rw [bless_eq] at ho1
    match n, h, ho1, ho2, ho3 with
    | 0, h, ho1, _, _ =>
      have hlt : by_ E s < by_ E y := by simpa using ho1
      refine ⟨_, h, fun hs => ?_, fun x => by simp only [List.map_cons, List.mem_cons]; exact ⟨fun h => by rcases h with h | h | h <;> simp [h], fun h => by rcases h with (h | h) | h <;> simp [h]⟩⟩
      refine List.Pairwise.cons (fun z hz => ?_) hs
      rcases List.mem_cons.1 hz with rfl | hz
      · exact hlt
      · exact List.lt_trans hlt (List.rel_of_pairwise_cons hs hz)
    | 1, h, _, ho2, _ =>
      have he : by_ E s = by_ E y := by simpa using ho2
      refine ⟨_, h, id, fun x => ⟨.inl, fun h => h.elim id fun e => ?_⟩⟩
      rw [e, bytes_inj he]; simp
    | 2, h, ho1, ho2, _ =>
      have h1 : ¬ by_ E s < by_ E y := by simpa using ho1
      have h2 : ¬ by_ E s = by_ E y := by simpa using ho2
      have hgt : by_ E y < by_ E s := by
        exact Classical.byContradiction fun h => h2 (List.le_antisymm h h1)
      replace h := insK_some (s := s) (l := r) (k := fun r => k (y :: r)) h
      obtain ⟨l', h, hs, hm⟩ := h
      refine ⟨_, h, fun hsr => ?_, fun x => ?_⟩
      · have hr : Srt E r := List.Pairwise.of_cons hsr
        refine List.Pairwise.cons (fun z hz => ?_) (hs hr)
        have : E.bytes z ∈ l'.map E.bytes := List.mem_map.2 ⟨z, hz, rfl⟩
        rcases (hm _).1 this with h3 | h3
        · obtain ⟨z', hz', e⟩ := List.mem_map.1 h3
          have e2 : by_ E z' = by_ E z := by rw [← bytes_list, e, bytes_list]
          rw [← e2]; exact List.rel_of_pairwise_cons hsr hz'
        · have e2 : by_ E z = by_ E s := by rw [← bytes_list, h3, bytes_list]
          rw [e2]; exact hgt
      · simp only [List.map_cons, List.mem_cons, hm]
        exact ⟨fun h => by rcases h with h | h | h <;> simp [h], fun h => by rcases h with (h | h) | h <;> simp [h]⟩
    | n + 3, _, _, _, ho3 => omega
/-- Of files: they read so. -/
def FilesAt (E : Env) (cs : List AV) (L : List S_files_File) : Prop := ∀ ρ w vs, VRs E ρ cs vs → Flat r_files_File [] w vs L
theorem filesK_some : ∀ {n : Nat} {cs : List AV} {acc : List (List Nat)} {k : AccK}, filesK n cs acc k = true → ∃ fs rest acc' L, cs = fs ++ rest ∧ k rest acc' = true ∧ L.length = n ∧ fs.length = n * 3 ∧ FilesAt E fs L ∧ (Srt E acc → Srt E acc') ∧
    ∀ x : ByteArray, x ∈ acc'.map E.bytes ↔ x ∈ acc.map E.bytes ∨ ∃ f ∈ L, f.Path = x
  | 0, cs, acc, k, h => ⟨[], cs, acc, [], rfl, h, rfl, rfl, fun ρ w vs hv => by simp only [VRs] at hv; subst hv; exact Flat.nil, id, fun x => by simp⟩
  | n + 1, cs, acc, k, h => by
    match cs, h with
    | [], h => cases h
    | [_], h => cases h
    | [_, _], h => cases h
    | p :: m :: d :: r, h =>
      change strK p (fun s => sizeK s (intK m fun q x => ifK (kindEq q .i64) (@Int.rec (fun _ => Bool) (fun a => ifK (Nat.ble a 1000000) (strK d fun t => sizeK t (insK s acc fun acc => filesK n r acc k)) false) (fun _ => false) x) false)) = true at h
      obtain ⟨s, rfl, h⟩ := strK_some h
      obtain ⟨hs1, h⟩ := sizeK_some h
      obtain ⟨q, x, rfl, h⟩ := intK_some h
      obtain ⟨hq, h⟩ := ifK_and h
      have := kindEq_of hq; subst this
      cases x with
      | negSucc a => cases h
      | ofNat a =>
        obtain ⟨ha, h⟩ := ifK_and (b := Nat.ble a 1000000) (t := strK d fun t => sizeK t (insK s acc fun acc => filesK n r acc k)) h
        have ha := ble_of ha
        obtain ⟨t, rfl, h⟩ := strK_some h
        obtain ⟨ht1, h⟩ := sizeK_some h
        obtain ⟨acc1, h, i1, i2⟩ := insK_some (E := E) h
        obtain ⟨fs, rest, acc', L, rfl, h, hl, hfl, hF, j1, j2⟩ := filesK_some (n := n) h
        refine ⟨.str s :: .int .i64 (Int.ofNat a) :: .str t :: fs, rest, acc', ⟨E.bytes s, Int.ofNat a, E.bytes t⟩ :: L, rfl, h, by simp [hl], by simp [hfl]; omega, fun ρ w vs hv => ?_, fun hs => j1 (i1 hs), fun x => ?_⟩
        · simp only [VRs, VR] at hv
          obtain ⟨_, r1, rfl, ⟨_, r2, rfl, ⟨_, r3, rfl, hv, rfl⟩, rfl⟩, rfl⟩ := hv
          have := r_files_File_mk (X := []) (w := w) (Pathq := E.bytes s) (Modeq := Int.ofNat a) (Dataq := E.bytes t) (by rw [bytes_size]; unfold maxLen; omega) (inR_i64.2 (by have : Int.ofNat a = (a : Int) := rfl; omega)) (by rw [bytes_size]; unfold maxLen; omega)
          exact Flat.cons this (hF ρ w _ hv)
        · rw [j2, i2]
          simp only [List.mem_cons, exists_eq_or_imp]
          exact ⟨fun h => by rcases h with (h | h) | h <;> simp [h], fun h => by rcases h with h | h | h <;> simp [h]⟩
theorem rowS_some {h : T Blk} {es : Nat} {v : AV} {k : List AV → Nat → Bool} (e : rowS h es v k = true) : ∃ cs n, k cs n = true ∧ cs.length = n * es ∧ n ≤ 100000 ∧ ∀ ρ w u, Inv E ρ h.get w → VR E ρ v u → ∃ a cc, u = .slice a n cc ∧ n ≤ cc ∧ cc ≤ maxLen ∧
    ((n = 0 ∧ a = none ∧ cc = 0) ∨ ∃ b o xs, a = some ⟨b, o, none⟩ ∧ b < w.heap.size ∧ CellsAt w b o xs ∧ VRs E ρ cs xs ∧ ∀ c ∈ xs, c.oneCell' = true) := by
  unfold rowS at e
  replace e := slK_some e
  rcases e with ⟨i, o, n, c, ex, es', rfl, e⟩ | ⟨rfl, e⟩ | ⟨_, e⟩
  · replace e := ifK_and e
    obtain ⟨h0, e⟩ := e
    have := beq_of h0; subst this
    replace e := ifK_and e
    obtain ⟨h1, e⟩ := e
    have h1 := ble_of h1
    replace e := ifK_and e
    obtain ⟨h2, e⟩ := e
    have h2 := ble_of h2
    replace e := blkK_some e
    obtain ⟨m, t, hb, e⟩ := e
    rw [forceN_eq] at e
    replace e := ifK_and e
    obtain ⟨h3, e⟩ := e
    have h3 := ble_of h3
    replace e := readK_some e
    obtain ⟨cs, hl, hg, e⟩ := e
    refine ⟨cs, n, e, hl, h2, fun ρ w u hI hu => ?_⟩
    simp only [VR] at hu
    obtain ⟨L, cc, hL, rfl, v1, _, v3, v4⟩ := hu
    obtain ⟨xs, g1, g2, g3⟩ := (hI.blk hb hL).row h3 hl hg
    refine ⟨_, cc, rfl, by omega, v4.2, .inr ⟨L.b, L.o + o, xs, rfl, (hI.blk hb hL).lt, fun j u hj => ?_, g1, g2⟩⟩
    rw [g3 j (List.getElem?_eq_some_iff.1 hj).1]; exact hj
  · refine ⟨[], 0, e, by simp, by omega, fun ρ w u _ hu => ?_⟩
    simp only [VR] at hu
    subst hu
    exact ⟨none, 0, rfl, Nat.le_refl _, Nat.zero_le _, .inl ⟨rfl, rfl, rfl⟩⟩
  · cases e
/-- Of rows of files: they read so. -/
def RowsAt (E : Env) (h : T Blk) (rows : List AV) (L : List (List S_files_File)) : Prop := ∀ ρ w vs, Inv E ρ h.get w → VRs E ρ rows vs → Flat (rSl r_files_File) [] w vs L
theorem rowsS_some {h : T Blk} : ∀ {rows : List AV} {m : Nat} {acc : List (List Nat)} {k : List (List Nat) → Bool}, rowsS h rows m acc k = true → m ≤ 1000000 → ∃ acc' L, k acc' = true ∧ L.length = rows.length ∧ m + sumL L ≤ 1000000 ∧ RowsAt E h rows L ∧ (Srt E acc → Srt E acc') ∧
    ∀ x : ByteArray, x ∈ acc'.map E.bytes ↔ x ∈ acc.map E.bytes ∨ ∃ f ∈ L.flatten, f.Path = x
  | [], m, acc, k, e, hm => ⟨acc, [], e, rfl, by simpa [sumL] using hm, fun ρ w vs _ hv => by simp only [VRs] at hv; subst hv; exact Flat.nil, id, fun x => by simp⟩
  | r :: rows, m, acc, k, e, hm => by
    obtain ⟨cs, n, e, hl, hn, hrow⟩ := rowS_some (E := E) (h := h) (es := 3) (v := r) (k := fun cs n => forceN (Nat.add m n) fun m => ifK (Nat.ble m 1000000) (filesK n cs acc fun _ acc => rowsS h rows m acc k) false) e
    rw [forceN_eq] at e
    obtain ⟨h1, e1⟩ := ifK_and e
    have h1 := ble_of h1
    obtain ⟨fs, rest, acc1, L1, hcs, e2, hL1, hfl, hF, i1, i2⟩ := filesK_some (E := E) e1
    subst hcs
    obtain ⟨acc', L, e3, hL, hs, hR, j1, j2⟩ := rowsS_some (h := h) (rows := rows) e2 h1
    have hrest : rest = [] := by
      rw [List.length_append] at hl
      exact List.eq_nil_of_length_eq_zero (by omega)
    subst hrest
    rw [List.append_nil] at hrow
    refine ⟨acc', L1 :: L, e3, by simp [hL], by simp only [sumL, List.map_cons, List.sum_cons] at hs ⊢; simp only [Nat.add_eq] at hs; omega, fun ρ w vs hI hv => ?_, fun hs => j1 (i1 hs), fun x => ?_⟩
    · simp only [VRs] at hv
      obtain ⟨u, us, hu, hus, rfl⟩ := hv
      obtain ⟨a, cc, rfl, g1, g2, g3⟩ := hrow ρ w u hI hu
      refine Flat.cons1 (R := rSl r_files_File) ⟨a, cc, by rw [hL1], by rw [hL1]; exact g1, g2, ?_⟩ (hR ρ w us hI hus)
      rcases g3 with ⟨rfl, rfl, rfl⟩ | ⟨b, o, xs, rfl, q1, q2, q3, q4⟩
      · exact .inl ⟨List.eq_nil_of_length_eq_zero hL1, fun _ => rfl⟩
      · exact .inr ⟨b, o, xs, rfl, by simp, q1, q2, hF ρ w xs q3⟩
    · rw [j2, i2]
      simp only [List.flatten_cons, List.mem_append]
      constructor
      · rintro ((h | ⟨f, h, e⟩) | ⟨f, h, e⟩)
        · exact .inl h
        · exact .inr ⟨f, .inl h, e⟩
        · exact .inr ⟨f, .inr h, e⟩
      · rintro (h | ⟨f, h | h, e⟩)
        · exact .inl (.inl h)
        · exact .inl (.inr ⟨f, h, e⟩)
        · exact .inr ⟨f, h, e⟩
theorem strsK_eq : ∀ (l : List (List Nat)) (k : List AV → Bool), strsK l k = k (l.map .str)
  | [], _ => rfl
  | s :: l, k => by
    show strsK l (fun r => k (.str s :: r)) = _
    rw [strsK_eq l]; rfl
/-- A block that lies behind all that was there. -/
theorem fresh_step {ρ : Nat → Option Loc} {h h' : T Blk} {nx g : Nat} {t : T AV} {cs : List AV} {w w' : World} {c : Array Value} {el : Nat} (hI : Inv E ρ h.get w) (hK : Keeps w w') (hg : w.heap.size ≤ g) (hc : w'.heap[g]? = some (.cells c el (0, 0))) (hnx : ρ nx = none)
    (hv : ∀ (ρ' : Nat → Option Loc) (j : Nat) (a : AV), cs[j]? = some a → ∃ v, c[j]? = some v ∧ VR E ρ' a v ∧ v.oneCell' = true) (ht : ∀ j, j < cs.length → t.get j = cs[j]?) (hT : t.get (cs.length + 7) = none) (hu : Upd h nx (.live cs.length t) h') :
    Stp ρ h.get w nx (ρset ρ nx ⟨g, 0, c.size, 1⟩) h'.get w' (nx + 1) ∧ Inv E (ρset ρ nx ⟨g, 0, c.size, 1⟩) h'.get w' := by
  have hext : Ext ρ (ρset ρ nx ⟨g, 0, c.size, 1⟩) := ρset_ext hnx
  have e0 : ∀ i n u, h'.get i = some (.live n u) → (i = nx ∧ n = cs.length ∧ u = t) ∨ (i ≠ nx ∧ h.get i = some (.live n u)) := fun i n u hi => by
    rw [hu] at hi
    split at hi
    · rename_i e; injection hi with hi; injection hi with a b; exact .inl ⟨e, a.symm, b.symm⟩
    · rename_i e; exact .inr ⟨e, hi⟩
  refine ⟨⟨Nat.le_succ _, fun j a b => by rwa [show j = nx from by omega], fun j hj => by unfold ρset; rw [if_neg (by omega)], hK.os, hK.tape, hK.output, hK.size, fun b hb _ => hK.keep b hb, fun i n u L hi hL => ?_⟩, ⟨fun i n u hi => ?_, fun i k n u n' u' hi hk hne L M hL hM => ?_⟩⟩
  · rcases e0 i n u hi with ⟨rfl, _, _⟩ | ⟨e, hi⟩
    · simp only [ρset, if_pos] at hL; injection hL with hL; subst hL
      exact .inl hg
    · simp only [ρset, if_neg e] at hL
      exact .inr ⟨i, n, u, L, hi, hL, rfl⟩
  · rcases e0 i n u hi with ⟨rfl, rfl, rfl⟩ | ⟨e, hi⟩
    · refine ⟨⟨g, 0, c.size, 1⟩, by simp [ρset], c, el, (0, 0), hc, fun k _ hk => by omega, rfl, fun j hj => ?_, fun ty hty => by rw [hT] at hty; cases hty⟩
      have hx : cs[j]? = some cs[j] := by simp [hj]
      obtain ⟨v, h1, h2, h3⟩ := hv (ρset ρ i ⟨g, 0, c.size, 1⟩) j _ hx
      exact ⟨cs[j], v, by rw [ht j hj, hx], by simpa using h1, h2, h3⟩
    · obtain ⟨L, hL, hB⟩ := (hK.inv hI).at_ i n u hi
      exact ⟨L, hext _ _ hL, hB.ext hext⟩
  · rcases e0 i n u hi with ⟨rfl, _, _⟩ | ⟨e, hi⟩
    · rcases e0 k n' u' hk with ⟨rfl, _, _⟩ | ⟨e2, hk⟩
      · exact absurd rfl hne
      · simp only [ρset, if_pos] at hL; injection hL with hL; subst hL
        simp only [ρset, if_neg e2] at hM
        have := (hI.blk hk hM).lt
        show g ≠ M.b
        omega
    · simp only [ρset, if_neg e] at hL
      rcases e0 k n' u' hk with ⟨rfl, _, _⟩ | ⟨e2, hk⟩
      · simp only [ρset, if_pos] at hM; injection hM with hM; subst hM
        have := (hI.blk hi hL).lt
        show L.b ≠ g
        omega
      · simp only [ρset, if_neg e2] at hM
        exact hI.inj i k n u n' u' hi hk hne L M hL hM
theorem paths_orc {F : Facts} : FnRel Tryz.prog E F 185 (.orc gPth) := by
  refine .orc fun args h nx k hk hfr => ?_
  unfold gPth at hk
  replace hk := l1K_some hk
  rcases hk with ⟨x, rfl, hk⟩ | hk
  rotate_left
  · cases hk
  obtain ⟨rows, nr, hk, hlen, hnr, hrow⟩ := rowS_some (E := E) hk
  rw [Nat.mul_one] at hlen
  obtain ⟨ps, L, hk, hL, hsum, hR, hsrt, hmem⟩ := rowsS_some (E := E) hk (by omega)
  rw [strsK_eq, lenK_eq, Nat.zero_add, List.length_map] at hk
  have hf : FnHas Tryz.prog 185 := ⟨_, Tryz.func185, by kernel_rfl, by kernel_rfl⟩
  have hsort := hsrt (by simp [Srt])
  have call : ∀ ρ w vs, Inv E ρ h.get w → VRs E ρ [x] vs → Calls Tryz.prog 185 vs.toArray w (Ret fun v w' => Keeps w w' ∧ ∃ a0 c0, v = .slice a0 ps.length ps.length ∧ OS rStr [] w.heap.size (blkL a0 ++ []) w' 9 a0 ps.length c0 (ps.map E.bytes)) := by
    intro ρ w vs hI hvs
    simp only [VRs] at hvs
    obtain ⟨u, r, hu, hr, rfl⟩ := hvs
    subst hr
    obtain ⟨a, cc, rfl, g1, g2, g3⟩ := hrow ρ w u hI hu
    have hSl : Sl (rSl r_files_File) [] w a cc L := by
      refine ⟨by omega, g2, ?_⟩
      rcases g3 with ⟨h1, rfl, rfl⟩ | ⟨b, o, xs, rfl, q1, q2, q3, q4⟩
      · exact .inl ⟨List.eq_nil_of_length_eq_zero (by omega), fun _ => rfl⟩
      · exact .inr ⟨b, o, xs, rfl, by simp, q1, q2, hR ρ w xs hI q3⟩
    have hpre : files_Paths_p L fun r => r = ps.map E.bytes := paths_p (by omega) (by omega) fun s hs => by
      refine keysB_of hs ?_ fun k => ?_
      · rw [List.pairwise_map]
        exact hsort.imp fun {a b} h => by rw [bytes_list, bytes_list]; exact h
      · have := hmem k
        simpa using this
    have hw := files_Paths_w (X := []) (Old.nil w) hSl hpre
    have e : #[Value.slice a L.length cc] = [Value.slice a nr cc].toArray := by rw [show L.length = nr from by omega]
    rw [← e]
    refine hw.mono ?_
    rintro e w' ⟨v, rfl, r0, hr0, hE, a0, c0, rfl, hO⟩
    subst hr0
    rw [List.length_map] at hO ⊢
    exact ⟨_, rfl, ⟨hE.os, hE.tape, hE.output, hE.size, fun b hb => hE.keep b hb (by simp)⟩, a0, c0, rfl, hO⟩
  cases hps : ps.length with
  | zero =>
    rw [hps] at hk
    refine ⟨_, h, nx, hk, hfr, Nat.le_refl _, .inl ⟨hf, fun ρ w vs _ hI hvs => ?_⟩⟩
    refine (call ρ w vs hI hvs).mono ?_
    rintro e w' ⟨v, rfl, hkp, a0, c0, rfl, _⟩
    rw [hps]
    exact ⟨_, rfl, ρ, hkp.stp, hkp.inv hI, by simp only [VR]; exact ⟨_, _, rfl⟩⟩
  | succ n' =>
    have hpos : 0 < ps.length := by omega
    rw [hps] at hk
    change ifK (Nat.ble (n' + 1) 1000000) (mkK (ps.map .str) h nx fun h nx' => k (.sl nx 0 (n' + 1) (n' + 1) true 1) h nx') false = true at hk
    rw [← hps] at hk
    obtain ⟨hn, hk⟩ := ifK_and hk
    have hn := ble_of hn
    obtain ⟨t, h', ht, hu, hk⟩ := mkK_some hk
    refine ⟨_, h', nx + 1, hk, hfr.new hu, Nat.le_succ _, .inl ⟨hf, fun ρ w vs hfree hI hvs => ?_⟩⟩
    refine (call ρ w vs hI hvs).mono ?_
    rintro e w' ⟨v, rfl, hkp, a0, c0, rfl, hO⟩
    obtain ⟨_, ⟨_, _, xs, ho, hx⟩, hW⟩ := hO
    rw [List.length_map] at ho
    rcases ho.2 with ⟨_, h0⟩ | ⟨g, cap, cur, hv, _, hg, hnc, hcm, hcs, htake⟩
    · omega
    · injection hv with e1 e2 e3
      subst e1
      have hn1 : rStr.n = 1 := rfl
      rw [hn1] at hcs htake
      have hge : w.heap.size ≤ g := by
        rcases hW g (by simp [blkL]) with h | h
        · cases h
        · exact h
      have hxv : ∀ j, j < ps.length → cur[j]? = some (.string (E.bytes (ps.getD j []))) := fun j hj => by
        obtain ⟨cs, hok, hcell⟩ := hx.get j (by simpa using hj)
        obtain ⟨rfl, _⟩ := hok
        have hc0 := hcell 0 _ rfl
        rw [hn1] at hc0
        have h2 : (cur.toList.take (ps.length * 1))[j * 1 + 0]? = some (.string ((ps.map E.bytes)[j]'(by simpa using hj))) := by rw [htake]; exact hc0
        rw [Nat.mul_one, Nat.mul_one, Nat.add_zero, List.getElem?_take, if_pos hj, Array.getElem?_toList] at h2
        rw [h2, List.getElem_map]
        simp [List.getD, hj]
      obtain ⟨s1, s2⟩ := fresh_step (cs := ps.map .str) hI hkp hge hg (hfree nx (Nat.le_refl _) (Nat.lt_succ_self _)) (fun ρ' j a ha => by
        rw [List.getElem?_map] at ha
        obtain ⟨s, hs, rfl⟩ := Option.map_eq_some_iff.1 ha
        have hj := (List.getElem?_eq_some_iff.1 hs).1
        refine ⟨_, hxv j hj, ?_, rfl⟩
        simp only [VR, List.getD, hs]; rfl) (fun j hj => by rw [ht, if_pos hj]) (by rw [ht, if_neg (by omega)]) hu
      refine ⟨_, rfl, _, s1, s2, ?_⟩
      simp only [VR]
      refine ⟨⟨g, 0, cur.size, 1⟩, ps.length, by simp [ρset], rfl, Nat.le_refl _, fun _ => rfl, ?_, fun h => absurd rfl h, by omega⟩
      show 0 + 0 + ps.length * 1 ≤ cur.size
      rw [hcs]; omega
end
end Go.Proofs.YtfgmmabggjjhgaaGreatDoor.Ev
