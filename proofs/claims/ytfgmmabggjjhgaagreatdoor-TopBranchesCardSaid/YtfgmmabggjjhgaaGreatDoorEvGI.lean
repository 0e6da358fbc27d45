/- The evaluator: slices.Insert, run by the evaluator itself: where the capacity is not known, once with none left and once with room. It speaks of any program; nothing of the claim's own program stands here. -/
import Derived.Test.YtfgmmabggjjhgaaGreatDoorEvG
import Derived.Lib.Overlaps
import Derived.Laws.Externs
set_option linter.unusedVariables false
set_option linter.unusedSimpArgs false
namespace Go.Proofs.YtfgmmabggjjhgaaGreatDoor.Ev
open Go

/-! ### Values that name no block -/
noncomputable def flat1 (a : AV) (k : Bool) : Bool :=
  @AV.casesOn (fun _ => Bool) a (fun _ => k) (fun _ _ => k) (fun _ _ => k) (fun _ _ => k) (fun _ => k) (fun _ _ => false) k (fun _ => k) (fun _ _ _ _ _ _ => false) k k (fun _ _ _ => false) k (fun _ _ => false) k (fun _ => false) (fun _ => false) false (fun _ _ => false)
noncomputable def flatsK (k : Bool) (l : List AV) : Bool := @List.rec AV (fun _ => Bool) k (fun x _ ih => flat1 x ih) l
theorem flat1_some {a : AV} {k : Bool} (h : flat1 a k = true) : k = true ∧ ∀ (E : Env) (ρ ρ' : Nat → Option Loc) (v : Value), VR E ρ a v → VR E ρ' a v := by
  cases a <;> first | exact ⟨h, fun E ρ ρ' v hv => by simpa only [VR] using hv⟩ | cases h
theorem flatsK_some {k : Bool} : ∀ {l : List AV}, flatsK k l = true → k = true ∧ ∀ (E : Env) (ρ ρ' : Nat → Option Loc) (i : Nat) (a : AV) (v : Value), l[i]? = some a → VR E ρ a v → VR E ρ' a v
  | [], h => ⟨h, fun _ _ _ i a v hi => by simp at hi⟩
  | x :: l, h => by
    obtain ⟨h, h1⟩ := flat1_some (a := x) (k := flatsK k l) h
    obtain ⟨h, h2⟩ := flatsK_some h
    refine ⟨h, fun E ρ ρ' i a v hi hv => ?_⟩
    cases i with
    | zero => simp at hi; subst hi; exact h1 E ρ ρ' v hv
    | succ i => exact h2 E ρ ρ' i a v (by simpa using hi) hv

/-! ### slices.overlaps -/
noncomputable def notK (b : Bool) (k : Bool) : Bool := @Bool.rec (fun _ => Bool) k false b
theorem notK_some {b k : Bool} (h : notK b k = true) : b = false ∧ k = true := by cases b <;> first | exact ⟨rfl, h⟩ | cases h
theorem bne_of {a b : Nat} (h : Nat.beq a b = false) : a ≠ b := fun e => by subst e; simp at h
noncomputable def gOverlaps : Orc := fun as h nx k => l2K as (fun x y => slK x (fun i _ n c _ es => slK y (fun j _ m d _ es' =>
  ifK (Nat.beq es es') (notK (Nat.beq es 1) (ifK (Nat.blt 0 es) (notK (Nat.beq i j) (ifK (Nat.blt 0 n) (ifK (Nat.ble n c) (ifK (Nat.blt 0 m) (ifK (Nat.ble m d) (blkK h i fun _ _ => blkK h j fun _ _ => k (.bool false) h nx) false) false) false) false)) false)) false) false false) false false) false

section
variable {P : Program} {E : Env} {F : Facts}
theorem overlaps_orc {f : Nat} {fn : Func} {tS tR el size : Nat} (hf : P.funcs[f]? = some fn) (hname : (fn.name == "runtime.NumGoroutine") = false) (hb : fn.body.isNone = true) (hn : Extern.findNext fn = none) (he : Extern.find fn = some (Extern.SlicesOverlaps.overlaps #[tS, tS] #[tR]))
    (ht : P.underlying tS = some (.slice el)) (hz : ∀ w, (sizeOf el).run P w = .ok size w) : FnRel P E F f (.orc gOverlaps) := by
  refine .orc fun as h nx k hk hfr => ?_
  unfold gOverlaps at hk
  replace hk := l2K_some hk
  rcases hk with ⟨x, y, rfl, hk⟩ | hk
  rotate_left
  · cases hk
  replace hk := slK_some hk
  rcases hk with ⟨i, p, n, c, ex, es, rfl, hk⟩ | ⟨_, hk⟩ | ⟨_, hk⟩
  rotate_left
  · cases hk
  · cases hk
  replace hk := slK_some hk
  rcases hk with ⟨j, q, m, d, ex', es', rfl, hk⟩ | ⟨_, hk⟩ | ⟨_, hk⟩
  rotate_left
  · cases hk
  · cases hk
  replace hk := ifK_and hk
  obtain ⟨h1, hk⟩ := hk
  have := beq_of h1; subst this
  replace hk := notK_some hk
  obtain ⟨h2, hk⟩ := hk
  have h2 := bne_of h2
  replace hk := ifK_and hk
  obtain ⟨h3, hk⟩ := hk
  have h3 := blt_of h3
  replace hk := notK_some hk
  obtain ⟨h4, hk⟩ := hk
  have h4 := bne_of h4
  replace hk := ifK_and hk
  obtain ⟨h5, hk⟩ := hk
  have h5 := blt_of h5
  replace hk := ifK_and hk
  obtain ⟨h6, hk⟩ := hk
  have h6 := ble_of h6
  replace hk := ifK_and hk
  obtain ⟨h7, hk⟩ := hk
  have h7 := blt_of h7
  replace hk := ifK_and hk
  obtain ⟨h8, hk⟩ := hk
  have h8 := ble_of h8
  replace hk := blkK_some hk
  obtain ⟨N, t, hbi, hk⟩ := hk
  replace hk := blkK_some hk
  obtain ⟨M, u, hbj, hk⟩ := hk
  refine ⟨_, _, _, hk, hfr, Nat.le_refl _, .inr fun ρ w vs _ hI hvs => ?_⟩
  simp only [VRs] at hvs
  obtain ⟨vx, r, hx, ⟨vy, r', hy, hr', rfl⟩, rfl⟩ := hvs
  subst hr'
  simp only [VR] at hx hy
  obtain ⟨L, cx, hL, rfl, x1, _, x3, x4⟩ := hx
  obtain ⟨K, cy, hK, rfl, y1, _, y3, y4⟩ := hy
  have hne := hI.inj i j _ _ _ _ hbi hbj h4 L K hL hK
  obtain ⟨ci, ei, zi, a1, a2, a3, _⟩ := hI.blk hbi hL
  obtain ⟨cj, ej, zj, b1, b2, b3, _⟩ := hI.blk hbj hK
  have l1 := x4.1 h2
  have m1 : 1 * 1 ≤ cy * es := Nat.mul_le_mul (by omega) h3
  have fz : ∀ o, o ≤ ci.size → w.frozen? ⟨L.b, o, none⟩ = false := fun o ho => by
    have := a2 o (by omega)
    obtain ⟨lo, hi⟩ := zi
    simp only [World.frozen?, a1]
    simp only [Bool.and_eq_false_iff, decide_eq_false_iff_not]
    by_cases hl : lo ≤ o
    · exact .inr fun hh => this ⟨hl, hh⟩
    · exact .inl hl
  have hrun := Lib.run_overlaps_apart (P := P) w tS tR el ht size hz ⟨L.b, L.o + p, none⟩ ⟨K.b, K.o + q, none⟩ n cx m cy hne ei ej ci.size cj.size (by simp [World.shape?, a1]) (by simp [World.shape?, b1]) (by omega) (fz _ (by omega)) (fz _ (Nat.le_refl _))
  refine ⟨.bool false, w, ρ, ?_, Stp.rfl', hI, by simp only [VR]⟩
  rw [run_callFunc_extern hf hname hb hn he]
  rw [show [Value.slice (some ⟨L.b, L.o + p, none⟩) n cx, Value.slice (some ⟨K.b, K.o + q, none⟩) m cy].toArray = #[Value.slice (some ⟨L.b, L.o + p, none⟩) n cx, Value.slice (some ⟨K.b, K.o + q, none⟩) m cy] from rfl, hrun]
  rfl

/-! ### What is run on a part of what is known -/
theorem sub_step {ρ ρ' : Nat → Option Loc} {H0 H H0' H'' : Heap} {w w' : World} {nx n1 nm j p N : Nat} {t t2 : T AV} {L : Loc} {cs : List AV} (hI : Inv E ρ H w) (hl : Less H0 H) (hS : Stp ρ H0 w nx ρ' H0' w' n1) (hI' : Inv E ρ' H0' w') (hj : H0' j = some (.live N t)) (hL : ρ' j = some L)
    (hfit : p + cs.length ≤ N) (hcs : ∀ k, k < cs.length → t.get (p + k) = cs[k]?) (hfl : ∀ (E : Env) (ρ ρ' : Nat → Option Loc) (i : Nat) (a : AV) (v : Value), cs[i]? = some a → VR E ρ a v → VR E ρ' a v) (hnm : nx < nm) (hfree : ∀ i, nx ≤ i → i < nm → ρ i = none)
    (ht2 : ∀ k, k < cs.length → t2.get k = cs[k]?) (hT2 : t2.get (cs.length + 7) = none) (hH : ∀ i n u, H'' i = some (.live n u) → (i = nx ∧ n = cs.length ∧ u = t2) ∨ (i ≠ nx ∧ H i = some (.live n u) ∧ ∀ n' u', H0 i ≠ some (.live n' u'))) :
    Stp ρ H w nx (ρset ρ nx ⟨L.b, L.o + p, L.sz, L.pl⟩) H'' w' nm ∧ Inv E (ρset ρ nx ⟨L.b, L.o + p, L.sz, L.pl⟩) H'' w' := by
  have hnx : ρ nx = none := hfree nx (Nat.le_refl _) hnm
  have hext : Ext ρ (ρset ρ nx ⟨L.b, L.o + p, L.sz, L.pl⟩) := ρset_ext hnx
  -- where the new one lies
  have hown := hS.own j N t L hj hL
  have apart : ∀ i n u M, H i = some (.live n u) → (∀ n' u', H0 i ≠ some (.live n' u')) → ρ i = some M → L.b ≠ M.b := fun i n u M hi h0 hM => by
    rcases hown with h1 | ⟨j0, m, v, K, h1, h2, h3⟩
    · have := (hI.blk hi hM).lt; omega
    · rw [← h3]
      exact hI.inj j0 i m v n u (hl _ _ _ h1) hi (fun e => by subst e; exact h0 _ _ h1) K M h2 hM
  refine ⟨⟨Nat.le_of_lt hnm, hfree, fun i hi => by unfold ρset; rw [if_neg (by omega)], hS.os, hS.tape, hS.output, hS.size, fun b hb hn => hS.keep b hb fun i n u M hi hM => hn i n u M (hl _ _ _ hi) hM, fun i n u M hi hM => ?_⟩, ⟨fun i n u hi => ?_, fun i k n u n' u' hi hk hne M M' hM hM' => ?_⟩⟩
  · rcases hH i n u hi with ⟨rfl, _, _⟩ | ⟨h1, h2, _⟩
    · simp only [ρset, if_pos] at hM; injection hM with hM; subst hM
      rcases hown with h1 | ⟨j0, m, v, K, h1, h2, h3⟩
      · exact .inl h1
      · exact .inr ⟨j0, m, v, K, hl _ _ _ h1, h2, h3⟩
    · simp only [ρset, if_neg h1] at hM
      exact .inr ⟨i, n, u, M, h2, hM, rfl⟩
  · rcases hH i n u hi with ⟨rfl, rfl, rfl⟩ | ⟨h1, h2, h3⟩
    · refine ⟨⟨L.b, L.o + p, L.sz, L.pl⟩, by simp [ρset], ?_⟩
      obtain ⟨c, el, z, b1, b2, b3, b4, _⟩ := hI'.blk hj hL
      refine ⟨c, el, z, b1, b2, b3, fun k hk => ?_, fun ty hty => by rw [hT2] at hty; cases hty⟩
      obtain ⟨av, v, a1, a2, a3, a4⟩ := b4 (p + k) (by omega)
      have hck := hcs k hk
      rw [a1] at hck
      exact ⟨av, v, by rw [ht2 k hk, hck], by show c[L.o + p + k]? = _; rw [Nat.add_assoc]; exact a2, hfl E _ _ k av v hck.symm a3, a4⟩
    · obtain ⟨M, hM, hB⟩ := hI.at_ i n u h2
      exact ⟨M, hext _ _ hM, (hB.ext hext).same (hS.keep M.b hB.lt fun i0 n0 u0 K h0 hK => hI.inj i0 i n0 u0 n u (hl _ _ _ h0) h2 (fun e => by subst e; exact h3 _ _ h0) K M hK hM)⟩
  · rcases hH i n u hi with ⟨rfl, _, _⟩ | ⟨h1, h2, h3⟩
    · rcases hH k n' u' hk with ⟨rfl, _, _⟩ | ⟨g1, g2, g3⟩
      · exact absurd rfl hne
      · simp only [ρset, if_pos] at hM; injection hM with hM; subst hM
        simp only [ρset, if_neg g1] at hM'
        exact apart k n' u' M' g2 g3 hM'
    · simp only [ρset, if_neg h1] at hM
      rcases hH k n' u' hk with ⟨rfl, _, _⟩ | ⟨g1, g2, g3⟩
      · simp only [ρset, if_pos] at hM'; injection hM' with hM'; subst hM'
        exact fun e => apart i n u M h2 h3 hM e.symm
      · simp only [ρset, if_neg g1] at hM'
        exact hI.inj i k n u n' u' h2 g2 hne M M' hM hM'

/-! ### slices.Insert -/
noncomputable def maxK (a b : Nat) (k : Nat → Bool) : Bool := @Bool.rec (fun _ => Bool) (k a) (k b) (Nat.ble a b)
theorem maxK_some {a b : Nat} {k : Nat → Bool} (h : maxK a b k = true) : ∃ m, a ≤ m ∧ b ≤ m ∧ k m = true := by
  unfold maxK at h
  cases hb : Nat.ble a b with
  | true => rw [hb] at h; exact ⟨b, ble_of hb, Nat.le_refl _, h⟩
  | false =>
    rw [hb] at h
    have : ¬ (a ≤ b) := fun hh => by rw [← Nat.ble_eq] at hh; rw [hh] at hb; cases hb
    exact ⟨a, Nat.le_refl _, by omega, h⟩
/-- The cells of what comes back. -/
noncomputable def outK (es n : Nat) (r : AV) (h : T Blk) (k : List AV → Bool) : Bool :=
  slK r (fun j p l c _ es' => ifK (Nat.beq es es') (ifK (Nat.beq n l) (ifK (Nat.ble l c) (blkK h j fun N t => forceN (Nat.mul l es) fun q => ifK (Nat.ble (Nat.add p q) N) (readK t q p fun cs => flatsK (k cs) cs) false) false) false) false) false false
theorem outK_some {es n : Nat} {r : AV} {h : T Blk} {k : List AV → Bool} (e : outK es n r h k = true) : ∃ j p c ex N t cs, r = .sl j p n c ex es ∧ n ≤ c ∧ h.get j = some (.live N t) ∧ p + cs.length ≤ N ∧ cs.length = n * es ∧ (∀ i, i < cs.length → t.get (p + i) = cs[i]?) ∧
    (∀ (E : Env) (ρ ρ' : Nat → Option Loc) (i : Nat) (a : AV) (v : Value), cs[i]? = some a → VR E ρ a v → VR E ρ' a v) ∧ k cs = true := by
  unfold outK at e
  replace e := slK_some e
  rcases e with ⟨j, p, l, c, ex, es', rfl, e⟩ | ⟨_, e⟩ | ⟨_, e⟩
  rotate_left
  · cases e
  · cases e
  replace e := ifK_and e
  obtain ⟨h1, e⟩ := e
  have := beq_of h1; subst this
  replace e := ifK_and e
  obtain ⟨h2, e⟩ := e
  have := beq_of h2; subst this
  replace e := ifK_and e
  obtain ⟨h3, e⟩ := e
  replace e := blkK_some e
  obtain ⟨N, t, hb, e⟩ := e
  rw [forceN_eq] at e
  replace e := ifK_and e
  obtain ⟨h4, e⟩ := e
  have h4 := ble_of h4
  replace e := readK_some e
  obtain ⟨cs, hl, hg, e⟩ := e
  obtain ⟨e, hfl⟩ := flatsK_some e
  exact ⟨j, p, c, ex, N, t, cs, rfl, ble_of h3, hb, by rw [hl]; exact h4, hl, by rw [hl]; exact hg, hfl, e⟩
/-- Two blocks alone. -/
noncomputable def twoK (i : Nat) (n : Nat) (t : T AV) (j : Nat) (m : Nat) (u : T AV) (k : T Blk → Bool) : Bool := setK (.live n t) 40 .l i fun h => setK (.live m u) 40 h j k
noncomputable def insGo (es xi vi n : Nat) (cs : List AV) (nm nx : Nat) (h : T Blk) (k : KV) : Bool :=
  ifK (Nat.blt nx nm) (setK .dead 40 h xi fun h => setK .dead 40 h vi fun h => writeK cs .l 0 fun t => lenK cs 0 fun l => setK (.live l t) 40 h nx fun h => k (.sl nx 0 n n false es) h nm) false
noncomputable def insOpen (es : Nat) (run : Orc) (i v : AV) (xi xo l vi N M : Nat) (t u : T AV) (h : T Blk) (nx : Nat) (k : KV) : Bool :=
  forceN (Nat.succ l) fun l' => twoK xi N t vi M u fun h0 =>
    run [.sl xi xo l l true es, i, v] h0 nx fun r1 h1 n1 => outK es l' r1 h1 fun cs1 =>
      run [.sl xi xo l l' false es, i, v] h0 nx fun r2 h2 n2 => outK es l' r2 h2 fun cs2 =>
        avsEq (maxK n1 n2 fun nm => insGo es xi vi l' cs1 nm nx h k) cs1 cs2
noncomputable def gIns (run : Orc) : Orc := fun as h nx k => l3K as fun x i v =>
  slK x (fun xi xo l c ex es => natK i fun a => @Bool.rec (fun _ => Bool)
      (@Bool.rec (fun _ => Bool) (slK v (fun vi _ _ _ _ _ => notK (Nat.beq xi vi) (@Bool.rec (fun _ => Bool) (run as h nx k) (blkK h xi fun N t => blkK h vi fun M u => insOpen es run i v xi xo l vi N M t u h nx k) (Nat.beq c l))) false false) (run as h nx k) (Nat.beq a l))
      (run as h nx k) ex)
    (run as h nx k) (run as h nx k)
theorem l3K_some {β : Type} {l : List β} {k : β → β → β → Bool} (h : l3K l k = true) : ∃ x y z, l = [x, y, z] ∧ k x y z = true := by
  match l, h with
  | [], h => cases h
  | x :: r, h =>
    rcases l2K_some (l := r) (k := fun y z => k x y z) h with ⟨y, z, rfl, h⟩ | h
    · exact ⟨x, y, z, rfl, h⟩
    · cases h
theorem twoK_some {i n j m : Nat} {t u : T AV} {k : T Blk → Bool} (hij : i ≠ j) (h : twoK i n t j m u k = true) : ∃ h0, k h0 = true ∧ ∀ q b, h0.get q = some b → (q = i ∧ b = .live n t) ∨ (q = j ∧ b = .live m u) := by
  unfold twoK at h
  replace h := setK_some h
  obtain ⟨h1, hu1, h⟩ := h
  replace h := setK_some h
  obtain ⟨h0, hu0, h⟩ := h
  refine ⟨h0, h, fun q b hq => ?_⟩
  rw [hu0] at hq
  split at hq
  · rename_i e; injection hq with hq; exact .inr ⟨e, hq.symm⟩
  · rw [hu1] at hq
    split at hq
    · rename_i e; injection hq with hq; exact .inl ⟨e, hq.symm⟩
    · rw [T.get_l] at hq; cases hq
theorem gIns_ok {f : Nat} (hf : FnHas P f) (run : Orc) (hrun : OrcOk P E f run) : OrcOk P E f (gIns run) := by
  intro as h nx k hk hfr
  unfold gIns at hk
  obtain ⟨x, i, v, rfl, hk⟩ := l3K_some hk
  have plain : run [x, i, v] h nx k = true → _ := fun hk => hrun [x, i, v] h nx k hk hfr
  replace hk := slK_some hk
  rcases hk with ⟨xi, xo, l, c, ex, es, rfl, hk⟩ | ⟨rfl, hk⟩ | ⟨rfl, hk⟩
  rotate_left
  · exact plain hk
  · exact plain hk
  obtain ⟨a, hk, ha⟩ := natK_some (E := E) hk
  cases ex with
  | true => exact plain hk
  | false =>
  cases hal : Nat.beq a l with
  | true => rw [hal] at hk; exact plain hk
  | false =>
  rw [hal] at hk
  replace hk := slK_some hk
  rcases hk with ⟨vi, vo, vl, vc, vex, ves, rfl, hk⟩ | ⟨_, hk⟩ | ⟨_, hk⟩
  rotate_left
  · cases hk
  · cases hk
  replace hk := notK_some hk
  obtain ⟨hxv, hk⟩ := hk
  have hxv := bne_of hxv
  cases hcl : Nat.beq c l with
  | false => rw [hcl] at hk; exact plain hk
  | true =>
  rw [hcl] at hk
  have := beq_of hcl; subst this
  replace hk := blkK_some hk
  obtain ⟨N, t, hbx, hk⟩ := hk
  replace hk := blkK_some hk
  obtain ⟨M, u, hbv, hk⟩ := hk
  unfold insOpen at hk
  rw [forceN_eq] at hk
  replace hk := twoK_some hxv hk
  obtain ⟨h0, hk, hh0⟩ := hk
  have hless : Less h0.get h.get := fun q n tr hq => by
    rcases hh0 q _ hq with ⟨rfl, e⟩ | ⟨rfl, e⟩
    · rw [e]; exact hbx
    · rw [e]; exact hbv
  have hfr0 : Fresh h0 nx := fun q hq => by
    cases e : h0.get q with
    | none => rfl
    | some b =>
      rcases hh0 q _ e with ⟨rfl, _⟩ | ⟨rfl, _⟩
      · have := hfr.lt hbx; omega
      · have := hfr.lt hbv; omega
  obtain ⟨r1, h1, n1, hk, hf1, hle1, hC1⟩ := hrun _ _ _ _ hk hfr0
  obtain ⟨j1, p1, c1, ex1, N1, t1, cs1, rfl, hc1, hb1, hfit1, hlen1, hg1, hfl1, hk⟩ := outK_some hk
  obtain ⟨r2, h2, n2, hk, hf2, hle2, hC2⟩ := hrun _ _ _ _ hk hfr0
  obtain ⟨j2, p2, c2, ex2, N2, t2, cs2, rfl, hc2, hb2, hfit2, hlen2, hg2, hfl2, hk⟩ := outK_some hk
  replace hk := avsEq_some hk
  obtain ⟨rfl, hk⟩ := hk
  replace hk := maxK_some hk
  obtain ⟨nm, hm1, hm2, hk⟩ := hk
  unfold insGo at hk
  replace hk := ifK_and hk
  obtain ⟨hnm, hk⟩ := hk
  have hnm := blt_of hnm
  replace hk := setK_some hk
  obtain ⟨ha1, hua, hk⟩ := hk
  replace hk := setK_some hk
  obtain ⟨ha2, hub, hk⟩ := hk
  replace hk := writeK_some hk
  obtain ⟨tn, htn, hk⟩ := hk
  rw [lenK_eq] at hk
  replace hk := setK_some hk
  obtain ⟨ha3, huc, hk⟩ := hk
  have hxlt := hfr.lt hbx
  have hvlt := hfr.lt hbv
  have hH : ∀ q n tr, ha3.get q = some (.live n tr) → (q = nx ∧ n = cs1.length ∧ tr = tn) ∨ (q ≠ nx ∧ h.get q = some (.live n tr) ∧ ∀ n' u', h0.get q ≠ some (.live n' u')) := fun q n tr hq => by
    rw [huc] at hq
    split at hq
    · rename_i e; injection hq with hq; injection hq with e1 e2; exact .inl ⟨e, by omega, e2.symm⟩
    · rename_i e
      rw [hub] at hq
      split at hq
      · cases hq
      · rename_i e2
        rw [hua] at hq
        split at hq
        · cases hq
        · rename_i e3
          refine .inr ⟨e, hq, fun n' u' h' => ?_⟩
          rcases hh0 q _ h' with ⟨e4, _⟩ | ⟨e4, _⟩
          · exact e3 e4
          · exact e2 e4
  have htn' : ∀ q, q < cs1.length → tn.get q = cs1[q]? := fun q hq => by rw [htn, if_pos ⟨Nat.zero_le _, by omega⟩, Nat.sub_zero]
  refine ⟨_, ha3, nm, hk, fun q hq => ?_, by omega, .inl ⟨hf, fun ρ w vs hfree hI hvs => ?_⟩⟩
  · rw [huc, if_neg (by omega), hub, if_neg (by omega), hua, if_neg (by omega)]; exact hfr q (by omega)
  have hI0 := hI.less hless
  simp only [VRs] at hvs
  obtain ⟨vx, r, hvx, hr, rfl⟩ := hvs
  have hvx' := hvx
  simp only [VR] at hvx'
  obtain ⟨L, cc, hL, rfl, q1, _, q3, q4⟩ := hvx'
  -- both ways alike
  have fin : ∀ (as' : List AV) (j p c0 : Nat) (ex0 : Bool) (N0 : Nat) (t0 : T AV) (h' : T Blk) (n' : Nat), CallR P E f as' h0.get nx (.sl j p (Nat.succ c) c0 ex0 es) h'.get n' → nx ≤ n' → n' ≤ nm → VRs E ρ as' (Value.slice (some ⟨L.b, L.o + xo, none⟩) c cc :: r) → Nat.succ c ≤ c0 → h'.get j = some (.live N0 t0) → p + cs1.length ≤ N0 → (∀ i, i < cs1.length → t0.get (p + i) = cs1[i]?) →
      Calls P f (Value.slice (some ⟨L.b, L.o + xo, none⟩) c cc :: r).toArray w (Ret fun v w' => ∃ ρ', Stp ρ h.get w nx ρ' ha3.get w' nm ∧ Inv E ρ' ha3.get w' ∧ VR E ρ' (.sl nx 0 (Nat.succ c) (Nat.succ c) false es) v) := by
    intro as' j p c0 ex0 N0 t0 h' n' hC hle hn hv hcc hb hfit hg
    refine (hC.body hf ρ w _ (fun i a b => hfree i a (by omega)) hI0 hv).mono ?_
    rintro e w' ⟨v, rfl, ρ', s1, s2, s3⟩
    simp only [VR] at s3
    obtain ⟨K, ck, hK, rfl, k1, _, k3, k4⟩ := s3
    obtain ⟨g1, g2⟩ := sub_step (nm := nm) hI hless s1 s2 hb hK hfit hg hfl1 hnm hfree htn' (by rw [htn, if_neg (by omega)]; rfl) hH
    refine ⟨_, rfl, _, g1, g2, ?_⟩
    simp only [VR]
    exact ⟨⟨K.b, K.o + p, K.sz, K.pl⟩, ck, by simp [ρset], rfl, by omega, fun h => (by cases h), by show K.o + p + 0 + ck * es ≤ K.sz; omega, k4⟩
  rcases Nat.lt_or_ge c cc with hlt | hge
  · refine fin _ j2 p2 c2 ex2 N2 t2 h2 n2 hC2 hle2 hm2 ?_ hc2 hb2 hfit2 hg2
    refine VRs.cons ?_ hr
    simp only [VR]
    exact ⟨L, cc, hL, rfl, hlt, fun h => (by cases h), q3, q4⟩
  · refine fin _ j1 p1 c1 ex1 N1 t1 h1 n1 hC1 hle1 hm1 ?_ hc1 hb1 hfit1 hg1
    refine VRs.cons ?_ hr
    simp only [VR]
    exact ⟨L, cc, hL, rfl, q1, fun _ => by omega, q3, q4⟩
end
end Go.Proofs.YtfgmmabggjjhgaaGreatDoor.Ev
