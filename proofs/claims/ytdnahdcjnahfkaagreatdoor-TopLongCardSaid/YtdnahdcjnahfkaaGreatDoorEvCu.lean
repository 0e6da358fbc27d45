/- The contract of the reader's rows of texts, as the evaluator takes it. -/
import Derived.Test.YtdnahdcjnahfkaaGreatDoorCqP
import Derived.Test.YtdnahdcjnahfkaaGreatDoorEvMB
set_option linter.unusedVariables false
set_option linter.unusedSimpArgs false
namespace Go.Proofs.YtdnahdcjnahfkaaGreatDoor.Ev
open Go Go.Proofs

/-! ### Numbers as they are written -/
noncomputable def byteK (t : T AV) (p : Nat) (k : Nat → Bool) : Bool := getK (fun v => intK v fun q z => ifK (kindEq q .u8) (@Int.rec (fun _ => Bool) (fun m => forceN m fun m => ifK (Nat.blt m 256) (k m) false) (fun _ => false) z) false) t p
theorem byteK_some {t : T AV} {p : Nat} {k : Nat → Bool} (h : byteK t p k = true) : ∃ m : Nat, m < 256 ∧ t.get p = some (.int .u8 (m : Int)) ∧ k m = true := by
  unfold byteK at h
  replace h := getK_some h
  obtain ⟨v, hv, h⟩ := h
  replace h := intK_some h
  obtain ⟨q, z, rfl, h⟩ := h
  replace h := ifK_and h
  obtain ⟨hq, h⟩ := h
  have := kindEq_of hq; subst this
  cases z with
  | negSucc m => cases h
  | ofNat m =>
    change forceN m (fun m => ifK (Nat.blt m 256) (k m) false) = true at h
    rw [forceN_eq] at h
    obtain ⟨h1, h2⟩ := ifK_and h
    exact ⟨m, blt_of h1, hv, h2⟩
noncomputable def evenK (u : Nat) (k : Nat → Bool) : Bool := ifK (Nat.beq (Nat.mod u 2) 0) (forceN (Nat.div u 2) k) false
theorem evenK_some {u : Nat} {k : Nat → Bool} (h : evenK u k = true) : ∃ n, u = 2 * n ∧ k n = true := by
  unfold evenK at h
  rw [forceN_eq] at h
  obtain ⟨h1, h2⟩ := ifK_and h
  have h1 := beq_of h1
  refine ⟨Nat.div u 2, ?_, h2⟩
  show u = 2 * (u / 2)
  have : u % 2 = 0 := h1
  omega
noncomputable def decK (t : T AV) (p : Nat) (k : Nat → Nat → Bool) : Bool :=
  byteK t p fun c0 => @Bool.rec (fun _ => Bool) (forceN (Nat.succ p) fun p1 => byteK t p1 fun c1 => @Bool.rec (fun _ => Bool) (forceN (Nat.succ p1) fun p2 => byteK t p2 fun c2 => ifK (Nat.blt c2 128) (ifK (Nat.blt 0 c2) (forceN (Nat.add (Nat.sub c0 128) (Nat.add (Nat.mul 128 (Nat.sub c1 128)) (Nat.mul 16384 c2))) fun u => evenK u fun n => k n 3) false) false)
    (ifK (Nat.blt 0 c1) (forceN (Nat.add (Nat.sub c0 128) (Nat.mul 128 c1)) fun u => evenK u fun n => k n 2) false) (Nat.blt c1 128)) (evenK c0 fun n => k n 1) (Nat.blt c0 128)
theorem encI_nat (n : Nat) : encI (n : Int) = vb (2 * n) := by
  unfold encI zz
  rw [if_neg (by omega)]
  simp
/-- These bytes stand there. -/
def BytesAt (t : T AV) (p : Nat) (l : List Int) : Prop := ∀ j x, l[j]? = some x → ∃ m : Nat, x = (m : Int) ∧ m < 256 ∧ t.get (p + j) = some (.int .u8 (m : Int))
theorem bltF {a b : Nat} (h : Nat.blt a b = false) : ¬ a < b := fun hl => by rw [← Nat.blt_eq] at hl; rw [hl] at h; cases h
theorem decK_some {t : T AV} {p : Nat} {k : Nat → Nat → Bool} (h : decK t p k = true) : ∃ n len, k n len = true ∧ n ≤ 2000000 ∧ (encI (n : Int)).length = len ∧ BytesAt t p (encI (n : Int)) := by
  unfold decK at h
  replace h := byteK_some h
  obtain ⟨c0, b0, g0, h⟩ := h
  cases e0 : Nat.blt c0 128 with
  | true =>
    rw [e0] at h
    have e0 := blt_of e0
    replace h := evenK_some h
    obtain ⟨n, hn, h⟩ := h
    have hv : encI (n : Int) = [(c0 : Int)] := by rw [encI_nat, vb_lt (by omega), hn]
    refine ⟨n, 1, h, by omega, by rw [hv]; rfl, ?_⟩
    rw [hv]
    intro j x hj
    cases j with
    | zero => injection hj with hj; exact ⟨c0, hj.symm, b0, g0⟩
    | succ j => simp at hj
  | false =>
    rw [e0] at h
    have e0 := bltF e0
    change forceN (Nat.succ p) _ = true at h
    rw [forceN_eq] at h
    replace h := byteK_some h
    obtain ⟨c1, b1, g1, h⟩ := h
    cases e1 : Nat.blt c1 128 with
    | true =>
      rw [e1] at h
      have e1 := blt_of e1
      replace h := ifK_and h
      obtain ⟨hp, h⟩ := h
      have hp := blt_of hp
      rw [forceN_eq] at h
      replace h := evenK_some h
      obtain ⟨n, hn, h⟩ := h
      have hn : c0 - 128 + 128 * c1 = 2 * n := hn
      have hv : encI (n : Int) = [(c0 : Int), (c1 : Int)] := by
        rw [encI_nat, vb_ge (by omega), show 2 * n / 128 = c1 from by omega, vb_lt e1, show 2 * n % 128 + 128 = c0 from by omega]
      refine ⟨n, 2, h, by omega, by rw [hv]; rfl, ?_⟩
      rw [hv]
      intro j x hj
      match j, hj with
      | 0, hj => injection hj with hj; exact ⟨c0, hj.symm, b0, g0⟩
      | 1, hj => injection hj with hj; exact ⟨c1, hj.symm, b1, g1⟩
      | j + 2, hj => simp at hj
    | false =>
      rw [e1] at h
      have e1 := bltF e1
      change forceN (Nat.succ (Nat.succ p)) _ = true at h
      rw [forceN_eq] at h
      replace h := byteK_some h
      obtain ⟨c2, b2, g2, h⟩ := h
      replace h := ifK_and h
      obtain ⟨e2, h⟩ := h
      have e2 := blt_of e2
      replace h := ifK_and h
      obtain ⟨hp, h⟩ := h
      have hp := blt_of hp
      rw [forceN_eq] at h
      replace h := evenK_some h
      obtain ⟨n, hn, h⟩ := h
      have hn : c0 - 128 + (128 * (c1 - 128) + 16384 * c2) = 2 * n := hn
      have hv : encI (n : Int) = [(c0 : Int), (c1 : Int), (c2 : Int)] := by
        rw [encI_nat, vb_ge (by omega), show 2 * n / 128 = (c1 - 128) + 128 * c2 from by omega, vb_ge (by omega), show ((c1 - 128) + 128 * c2) / 128 = c2 from by omega, vb_lt e2, show 2 * n % 128 + 128 = c0 from by omega, show ((c1 - 128) + 128 * c2) % 128 + 128 = c1 from by omega]
      refine ⟨n, 3, h, by omega, by rw [hv]; rfl, ?_⟩
      rw [hv]
      intro j x hj
      match j, hj with
      | 0, hj => injection hj with hj; exact ⟨c0, hj.symm, b0, g0⟩
      | 1, hj => injection hj with hj; exact ⟨c1, hj.symm, b1, g1⟩
      | 2, hj => injection hj with hj; exact ⟨c2, hj.symm, b2, g2⟩
      | j + 3, hj => simp at hj

/-! ### Texts that stand in bytes -/
theorem vbF_eq : ∀ (f v : Nat), v < 128 ^ (f + 1) → vb v = (vbF (f + 1) v).map fun x : Nat => (x : Int)
  | 0, v, h => by
    have h : v < 128 := by simpa using h
    rw [vb_lt h]; simp [vbF, h]
  | f + 1, v, h => by
    by_cases h1 : v < 128
    · rw [vb_lt h1]; simp [vbF, h1]
    · have h2 : v / 128 < 128 ^ (f + 1) := by
        rw [Nat.pow_succ] at h
        exact Nat.div_lt_of_lt_mul (by rw [Nat.mul_comm]; exact h)
      rw [vb_ge h1, vbF_eq f _ h2, show vbF (f + 1 + 1) v = (v % 128 + 128) :: vbF (f + 1) (v / 128) from by rw [vbF, if_neg h1]]
      rfl
theorem codeT_eq {E : Env} {s : List Nat} (h : s.length ≤ 1000000) : codeT E (.str s) = encT (E.bytes s) := by
  have hb : bytesL (E.bytes s) = s.map fun m => ((E.byte m).toNat : Int) := by simp [bytesL, Env.bytes]
  have hsz : (E.bytes s).size = s.length := bytes_size s
  have h2 : 2 * s.length < 128 ^ (9 + 1) := Nat.lt_of_le_of_lt (show 2 * s.length ≤ 2000000 by omega) (by decide)
  unfold encT
  rw [hb, hsz, encI_nat, vbF_eq 9 _ h2]
  rfl
theorem code_eq {E : Env} : ∀ {S : List (List Nat)}, (∀ s ∈ S, s.length ≤ 1000000) → (S.map AV.str).flatMap (codeT E) = (S.map E.bytes).flatMap encT
  | [], _ => rfl
  | s :: S, h => by
    rw [List.map_cons, List.map_cons, List.flatMap_cons, List.flatMap_cons, codeT_eq (h s (by simp)), code_eq fun x hx => h x (by simp [hx])]
theorem code_short {E : Env} : ∀ {S : List (List Nat)} {s : List Nat}, s ∈ S → s.length ≤ ((S.map AV.str).flatMap (codeT E)).length
  | a :: S, s, h => by
    rw [List.map_cons, List.flatMap_cons, List.length_append]
    rcases List.mem_cons.1 h with rfl | h
    · have : s.length ≤ (codeT E (.str s)).length := by simp [codeT]
      omega
    · have := code_short (E := E) h
      omega
/-- The block is of bytes; perhaps texts stand in it. -/
def ByteKey (k : Option AV) (el : Nat) : Prop := k = some (.glob el) ∨ ∃ l, k = some (.ifc el (.agg l))
/-- Such texts, among these bytes. -/
def ChL (E : Env) (bq : List Int) (x : AV) : Prop := ∀ p q l, x = .tup [.ptr p q, .agg l] → p + (l.flatMap (codeT E)).length = q ∧ q ≤ bq.length ∧ ∀ (j : Nat) (b : Int), (l.flatMap (codeT E))[j]? = some b → bq[p + j]? = some b
theorem ChL.app {E : Env} {bq bs : List Int} {x : AV} (h : ChL E bq x) : ChL E (bq ++ bs) x := fun p q l hx => by
  obtain ⟨h1, h2, h3⟩ := h p q l hx
  refine ⟨h1, by rw [List.length_append]; omega, fun j b hj => ?_⟩
  have := (List.getElem?_eq_some_iff.1 hj).1
  rw [List.getElem?_append_left (by omega)]; exact h3 j b hj
theorem ChL.at {E : Env} {bq : List Int} {x : AV} {c : Array Value} (h : ChL E bq x) (hc : ∀ (k : Nat) (b : Int), bq[k]? = some b → c[k]? = some (.int .u8 b)) : ChAt E c bq.length x := fun p q l hx => by
  obtain ⟨h1, h2, h3⟩ := h p q l hx
  exact ⟨h1, h2, fun j b hj => hc _ _ (h3 j b hj)⟩
noncomputable def ifcE (x : AV) (k : Nat → AV → Bool) (e : Bool) : Bool :=
  @AV.casesOn (fun _ => Bool) x (fun _ => e) (fun _ _ => e) (fun _ _ => e) (fun _ _ => e) (fun _ => e) (fun _ _ => e) e (fun _ => e) (fun _ _ _ _ _ _ => e) e e (fun _ _ _ => e) e (fun t v => k t v) e (fun _ => e) (fun _ => e) e (fun _ _ => e)
theorem ifcE_some {x : AV} {k : Nat → AV → Bool} {e : Bool} (h : ifcE x k e = true) : (∃ t v, x = .ifc t v ∧ k t v = true) ∨ e = true := by cases x <;> first | exact .inl ⟨_, _, rfl, h⟩ | exact .inr h
noncomputable def aggE (x : AV) (k : List AV → Bool) (e : Bool) : Bool :=
  @AV.casesOn (fun _ => Bool) x (fun _ => e) (fun _ _ => e) (fun _ _ => e) (fun _ _ => e) (fun _ => e) (fun _ _ => e) e (fun _ => e) (fun _ _ _ _ _ _ => e) e e (fun _ _ _ => e) e (fun _ _ => e) e (fun l => k l) (fun _ => e) e (fun _ _ => e)
theorem aggE_some {x : AV} {k : List AV → Bool} {e : Bool} (h : aggE x k e = true) : (∃ l, x = .agg l ∧ k l = true) ∨ e = true := by cases x <;> first | exact .inl ⟨_, rfl, h⟩ | exact .inr h
noncomputable def globE (x : AV) (k : Nat → Bool) (e : Bool) : Bool :=
  @AV.casesOn (fun _ => Bool) x (fun _ => e) (fun _ _ => e) (fun _ _ => e) (fun _ _ => e) (fun _ => e) (fun _ _ => e) e (fun g => k g) (fun _ _ _ _ _ _ => e) e e (fun _ _ _ => e) e (fun _ _ => e) e (fun _ => e) (fun _ => e) e (fun _ _ => e)
theorem globE_some {x : AV} {k : Nat → Bool} {e : Bool} (h : globE x k e = true) : (∃ g, x = .glob g ∧ k g = true) ∨ e = true := by cases x <;> first | exact .inl ⟨_, rfl, h⟩ | exact .inr h
/-- The key of a block of bytes. -/
noncomputable def bkeyK (t : T AV) (n el : Nat) (k : AV → Bool) : Bool :=
  forceN (Nat.add n 7) fun q => getK (fun x => globE x (fun g => ifK (Nat.beq g el) (k x) false) (ifcE x (fun g y => ifK (Nat.beq g el) (aggE y (fun _ => k x) false) false) false)) t q
theorem bkeyK_some {t : T AV} {n el : Nat} {k : AV → Bool} (h : bkeyK t n el k = true) : ∃ x, t.get (n + 7) = some x ∧ (x = .glob el ∨ ∃ l, x = .ifc el (.agg l)) ∧ k x = true := by
  unfold bkeyK at h
  rw [forceN_eq] at h
  obtain ⟨x, hx, h⟩ := getK_some h
  refine ⟨x, hx, ?_⟩
  rcases globE_some h with ⟨g, rfl, h⟩ | h
  · obtain ⟨h1, h2⟩ := ifK_and h
    have := beq_of h1; subst this
    exact ⟨.inl rfl, h2⟩
  · rcases ifcE_some h with ⟨g, y, rfl, h⟩ | h
    · obtain ⟨h1, h2⟩ := ifK_and h
      have := beq_of h1; subst this
      rcases aggE_some h2 with ⟨l, rfl, h3⟩ | h3
      · exact ⟨.inr ⟨l, rfl⟩, h3⟩
      · cases h3
    · cases h
theorem ByteKey.of {x : AV} {el : Nat} {k : Option AV} (h : k = some x) (hx : x = .glob el ∨ ∃ l, x = .ifc el (.agg l)) : ByteKey k el := by
  subst h
  rcases hx with rfl | ⟨l, rfl⟩
  · exact .inl rfl
  · exact .inr ⟨l, rfl⟩

/-! ### The decoder -/
noncomputable def decArgs (ty el : Nat) (h : T Blk) (xs : List AV) (k : Nat → T AV → Nat → T AV → Nat → Nat → AV → Bool) : Bool :=
  l1K xs (fun x => ptrK x fun i o => ifK (Nat.beq o 0) (blkK h i fun n3 t => ifK (Nat.beq n3 3) (tyPK t 3 fun ty' => ifK (Nat.beq ty' ty) (getK (fun b => slK b (fun j p n c _ es => ifK (Nat.beq es 1) (ifK (Nat.beq p 0) (ifK (Nat.ble n c) (ifK (Nat.ble n 1000000)
    (getK (fun a => intK a fun q z => ifK (kindEq q .i64) (@Int.rec (fun _ => Bool) (fun at_ => forceN at_ fun at_ => getK (fun e => isNil (blkK h j fun N u => ifK (Nat.ble n N) (bkeyK u N el fun ky => k i t at_ u n N ky) false) 3 e) t 2) (fun _ => false) z) false) t 1) false) false) false) false) false false) t 0) false) false) false) false
structure DecArgs (ty el : Nat) (h : T Blk) (xs : List AV) (i : Nat) (t : T AV) (at_ j n c : Nat) (ex : Bool) (N : Nat) (u : T AV) : Prop where
  xs_ : xs = [.ptr i 0]
  hi : h.get i = some (.live 3 t)
  key : ∃ q, t.get 10 = some (.ptr ty q)
  c0 : t.get 0 = some (.sl j 0 n c ex 1)
  c1 : t.get 1 = some (.int .i64 (at_ : Int))
  c2 : t.get 2 = some .nili
  nc : n ≤ c
  n6 : n ≤ 1000000
  hj : h.get j = some (.live N u)
  nN : n ≤ N
  by_ : ByteKey (u.get (N + 7)) el
theorem decArgs_some {ty el : Nat} {h : T Blk} {xs : List AV} {k : Nat → T AV → Nat → T AV → Nat → Nat → AV → Bool} (e : decArgs ty el h xs k = true) : ∃ i t at_ j n c ex N u ky, DecArgs ty el h xs i t at_ j n c ex N u ∧ u.get (N + 7) = some ky ∧ k i t at_ u n N ky = true := by
  unfold decArgs at e
  replace e := l1K_some e
  rcases e with ⟨x, rfl, e⟩ | e
  rotate_left
  · cases e
  replace e := ptrK_some e
  obtain ⟨i, o, rfl, e⟩ := e
  replace e := ifK_and e
  obtain ⟨ho, e⟩ := e
  have := beq_of ho; subst this
  replace e := blkK_some e
  obtain ⟨n3, t, hi, e⟩ := e
  replace e := ifK_and e
  obtain ⟨h3, e⟩ := e
  have := beq_of h3; subst this
  replace e := tyPK_some e
  obtain ⟨ty', q, hk, e⟩ := e
  replace e := ifK_and e
  obtain ⟨hty, e⟩ := e
  have := beq_of hty; subst this
  replace e := getK_some e
  obtain ⟨b, hb, e⟩ := e
  replace e := slK_some e
  rcases e with ⟨j, p, n, c, ex, es, rfl, e⟩ | ⟨_, e⟩ | ⟨_, e⟩
  rotate_left
  · cases e
  · cases e
  replace e := ifK_and e
  obtain ⟨h1, e⟩ := e
  have := beq_of h1; subst this
  replace e := ifK_and e
  obtain ⟨h2, e⟩ := e
  have := beq_of h2; subst this
  replace e := ifK_and e
  obtain ⟨h5, e⟩ := e
  replace e := ifK_and e
  obtain ⟨h6, e⟩ := e
  replace e := getK_some e
  obtain ⟨a, ha, e⟩ := e
  replace e := intK_some e
  obtain ⟨q1, z, rfl, e⟩ := e
  replace e := ifK_and e
  obtain ⟨hq, e⟩ := e
  have := kindEq_of hq; subst this
  cases z with
  | negSucc m => cases e
  | ofNat at_ =>
    change forceN at_ _ = true at e
    rw [forceN_eq] at e
    replace e := getK_some e
    obtain ⟨ev, hev, e⟩ := e
    replace e := isNil_some e
    obtain ⟨e, hnil⟩ := e
    have hnil : ev = .nili := by rcases hnil with ⟨h, _⟩ | ⟨h, _⟩ | ⟨h, _⟩ | ⟨_, h⟩ | ⟨h, _⟩ <;> first | exact h | omega
    subst hnil
    replace e := blkK_some e
    obtain ⟨N, u, hj, e⟩ := e
    replace e := ifK_and e
    obtain ⟨h7, e⟩ := e
    replace e := bkeyK_some e
    obtain ⟨ky, h8, h9, e⟩ := e
    exact ⟨i, t, at_, j, n, c, ex, N, u, ky, ⟨rfl, hi, ⟨q, hk⟩, hb, ha, hev, ble_of h5, ble_of h6, hj, ble_of h7, .of h8 h9⟩, h8, e⟩

/-! ### Blocks that are known whole, and blocks of bytes -/
section
variable {E : Env} {ρ : Nat → Option Loc} {w : World}
/-- A block of bytes: the numbers that stand there. -/
theorem bytes_pre {L : Loc} {n el : Nat} {t : T AV} (h : BlkAt E ρ w L n t) (hty : ByteKey (t.get (n + 7)) el) :
    L.o = 0 ∧ ∃ bq : List Int, bq.length = n ∧ CellsAt w L.b 0 (bq.map (Value.int .u8)) ∧ (∀ x ∈ bq, inR .u8 x) ∧ (∀ p av, p < n → t.get p = some av → ∃ x, bq[p]? = some x ∧ VR E ρ av (.int .u8 x)) ∧ ∀ l, t.get (n + 7) = some (.ifc el (.agg l)) → ∀ x ∈ l, ChL E bq x := by
  obtain ⟨c, el', z, b1, b2, b3, b4, b5⟩ := h
  have ⟨g2, g4⟩ : L.o = 0 ∧ ∀ j, j < n → ∃ m : Nat, m < 256 ∧ c[j]? = some (.int .u8 (m : Int)) := by
    rcases hty with hty | ⟨l, hty⟩
    · obtain ⟨_, g2, _, g4⟩ := b5.1 el hty
      exact ⟨g2, g4⟩
    · obtain ⟨_, g2, _, g4, _⟩ := b5.2.2 el l hty
      exact ⟨g2, g4⟩
  have hget : ∀ j, ∃ m : Nat, j < n → m < 256 ∧ c[j]? = some (.int .u8 (m : Int)) := fun j => by
    by_cases hj : j < n
    · obtain ⟨m, h1, h2⟩ := g4 j hj
      exact ⟨m, fun _ => ⟨h1, h2⟩⟩
    · exact ⟨0, fun h => absurd h hj⟩
  let f : Nat → Nat := fun j => Classical.choose (hget j)
  have hf : ∀ j, j < n → f j < 256 ∧ c[j]? = some (.int .u8 (f j : Int)) := fun j hj => Classical.choose_spec (hget j) hj
  refine ⟨g2, (List.range n).map fun j => (f j : Int), by simp, fun j u hj => ?_, fun x hx => ?_, fun p av hp hg => ?_, fun l hl x hx => ?_⟩
  · have hjn : j < n := by have := (List.getElem?_eq_some_iff.1 hj).1; simpa using this
    simp [hjn] at hj
    subst hj
    simp [World.cell?, b1, (hf j hjn).2]
  · obtain ⟨j, hj, rfl⟩ := List.mem_map.1 hx
    have := (hf j (by simpa using hj)).1
    exact inR_u8.2 (by omega)
  · obtain ⟨av', v, a1, a2, a3, _⟩ := b4 p hp
    rw [hg] at a1; injection a1 with a1; subst a1
    rw [g2, Nat.zero_add, (hf p hp).2] at a2
    injection a2 with a2; subst a2
    exact ⟨(f p : Int), by simp [hp], a3⟩
  · obtain ⟨_, _, _, _, hch⟩ := b5.2.2 el l hl
    intro p q l' hx'
    obtain ⟨q1, q2, q3⟩ := hch x hx p q l' hx'
    refine ⟨q1, by simpa using q2, fun j b hj => ?_⟩
    have hjl := (List.getElem?_eq_some_iff.1 hj).1
    have h1 := q3 j b hj
    rw [(hf (p + j) (by omega)).2] at h1
    injection h1 with h1; injection h1 with _ h1
    have hpn : p + j < n := by omega
    simp [hpn, h1]
/-- A block that is known whole. -/
theorem whole_pre {L : Loc} {n ty q : Nat} {t : T AV} (h : BlkAt E ρ w L n t) (hty : t.get (n + 7) = some (.ptr ty q)) :
    L.o = 0 ∧ L.sz = n ∧ ∃ vs : List Value, vs.length = n ∧ Go.Proofs.YtdnahdcjnahfkaaGreatDoor.Blk w L.b vs ty ∧ ∀ j av, j < n → t.get j = some av → ∃ v, vs[j]? = some v ∧ VR E ρ av v ∧ v.oneCell' = true := by
  obtain ⟨c, el', z, b1, b2, b3, b4, b5⟩ := h
  obtain ⟨g1, g2, g3, g4⟩ := b5.2.1 ty q hty
  subst g4; subst g1
  refine ⟨g2, g3, c.toList, by simp [b3, g3], by rw [Go.Proofs.YtdnahdcjnahfkaaGreatDoor.Blk]; simpa using b1, fun j av hj hg => ?_⟩
  obtain ⟨av', v, a1, a2, a3, a4⟩ := b4 j hj
  rw [hg] at a1; injection a1 with a1; subst a1
  rw [g2, Nat.zero_add] at a2
  exact ⟨v, by simpa using a2, a3, a4⟩
/-- One block that is known whole has turned. -/
theorem whole_step {h h' : T Blk} {i n ty q nx : Nat} {t t' : T AV} {L : Loc} {vs : List Value} {w' : World} (hI : Inv E ρ h.get w) (hi : h.get i = some (.live n t)) (hL : ρ i = some L) (hty : t.get (n + 7) = some (.ptr ty q)) (hE : Evo [L.b] w w') (hB : Go.Proofs.YtdnahdcjnahfkaaGreatDoor.Blk w' L.b vs ty) (hn : vs.length = n)
    (hv : ∀ j, j < n → ∃ av v, t'.get j = some av ∧ vs[j]? = some v ∧ VR E ρ av v ∧ v.oneCell' = true) (ht : t'.get (n + 7) = t.get (n + 7)) (hu : Upd h i (.live n t') h') :
    Stp ρ h.get w nx ρ h'.get w' nx ∧ Inv E ρ h'.get w' := by
  obtain ⟨c, el', z, b1, b2, b3, b4, b5⟩ := hI.blk hi hL
  obtain ⟨g1, g2, g3, g4⟩ := b5.2.1 ty q hty
  have e0 : ∀ j m u, h'.get j = some (.live m u) → (j = i ∧ m = n ∧ u = t') ∨ (j ≠ i ∧ h.get j = some (.live m u)) := fun j m u hj => by
    rw [hu] at hj
    split at hj
    · rename_i e; injection hj with hj; injection hj with a b; exact .inl ⟨e, a.symm, b.symm⟩
    · rename_i e; exact .inr ⟨e, hj⟩
  have e1 : ∀ j m u, h'.get j = some (.live m u) → ∃ m' u', h.get j = some (.live m' u') := fun j m u hj => by
    rcases e0 j m u hj with ⟨rfl, _, _⟩ | ⟨_, hj⟩
    · exact ⟨n, t, hi⟩
    · exact ⟨m, u, hj⟩
  refine ⟨⟨Nat.le_refl _, fun j h1 h2 => by omega, fun _ _ => rfl, hE.os, hE.tape, hE.output, hE.size, fun b hb hne => hE.keep b hb ?_, fun j m u M hj hM => ?_⟩, ⟨fun j m u hj => ?_, fun j k m u m' u' hj hk hne M M' hM hM' => ?_⟩⟩
  · have := hne i n t L hi hL
    simp only [List.mem_singleton]
    exact fun e => this e.symm
  · obtain ⟨m', u', hj'⟩ := e1 j m u hj
    exact .inr ⟨j, m', u', M, hj', hM, rfl⟩
  · rcases e0 j m u hj with ⟨rfl, rfl, rfl⟩ | ⟨hne, hj⟩
    · refine ⟨L, hL, vs.toArray, ty, (0, 0), hB, fun k _ hk => by omega, by simp [hn, g3], fun k hk => ?_, ?_⟩
      · obtain ⟨av, v, a1, a2, a3, a4⟩ := hv k hk
        exact ⟨av, v, a1, by rw [g2, Nat.zero_add]; simpa using a2, a3, a4⟩
      · rw [ht, hty]
        exact ⟨fun _ h => (by cases h), fun ty' q' h => (by injection h with h; injection h with h1 _; subst h1; exact ⟨rfl, g2, g3, rfl⟩), fun _ _ h => (by cases h)⟩
    · obtain ⟨M, hM, hB'⟩ := hI.at_ j m u hj
      have hb := hI.inj j i m u n t hj hi hne M L hM hL
      exact ⟨M, hM, hB'.same (hE.keep M.b hB'.lt (by simpa using hb))⟩
  · obtain ⟨_, _, hj⟩ := e1 _ _ _ hj
    obtain ⟨_, _, hk⟩ := e1 _ _ _ hk
    exact hI.inj j k _ _ _ _ hj hk hne M M' hM hM'
end

/-! ### The decoder's functions -/
theorem cut_of {l bq : List Int} {p : Nat} (h : ∀ j x, l[j]? = some x → bq[p + j]? = some x) : bq = bq.take p ++ (l ++ bq.drop (p + l.length)) := by
  have e : (bq.drop p).take l.length = l := by
    apply List.ext_getElem?
    intro j
    by_cases hj : j < l.length
    · rw [List.getElem?_take, if_pos hj, List.getElem?_drop, List.getElem?_eq_getElem hj, h j _ (List.getElem?_eq_getElem hj)]
    · rw [List.getElem?_eq_none (by rw [List.length_take]; omega), List.getElem?_eq_none (by omega)]
  have e2 : bq.drop p = l ++ bq.drop (p + l.length) := by
    rw [← List.drop_drop, ← e]
    have : ((bq.drop p).take l.length).length = l.length := by rw [e]
    rw [this, List.take_append_drop]
  rw [← e2, List.take_append_drop]
section
variable {E : Env} {ρ : Nat → Option Loc} {w : World} {h h' : T Blk} {el : Nat} {xs : List AV} {i : Nat} {t : T AV} {at_ j n c : Nat} {ex : Bool} {N : Nat} {u : T AV}
/-- What the decoder's functions find. -/
structure DecIn (E : Env) (ρ : Nat → Option Loc) (w : World) (i n at_ : Nat) (s : AV) (u : T AV) (N el : Nat) (vs : List Value) (L : Loc) (a0 : Option Addr) (cc : Nat) (bq : List Int) : Prop where
  hL : ρ i = some L
  old : Old [L.b] w
  ar : vs.toArray = #[.pointer (some ⟨L.b, 0, none⟩)]
  mo : MO (o_codec_Dec a0 cc) 213 [L.b] w.heap.size [L.b] w [L.b] L.b ⟨bq, (at_ : Int), .nil⟩
  len : bq.length = n
  rd : ∀ p av, p < n → u.get p = some av → ∃ x, bq[p]? = some x ∧ VR E ρ av (.int .u8 x)
  sl : VR E ρ s (.slice a0 n cc)
  ch : ∀ l, u.get (N + 7) = some (.ifc el (.agg l)) → ∀ x ∈ l, ∀ p q l', x = .tup [.ptr p q, .agg l'] → q ≤ n → p + (l'.flatMap (codeT E)).length = q ∧ ∀ (j : Nat) (b : Int), (l'.flatMap (codeT E))[j]? = some b → bq[p + j]? = some b
theorem dec_pre (D : DecArgs 213 el h xs i t at_ j n c ex N u) (hat : at_ ≤ n) (hI : Inv E ρ h.get w) {vs : List Value} (hvs : VRs E ρ xs vs) : ∃ L a0 cc bq, DecIn E ρ w i n at_ (.sl j 0 n c ex 1) u N el vs L a0 cc bq := by
  obtain ⟨hx, hi, ⟨q, hk⟩, hc0, hc1, hc2, hnc, hn6, hj, hnN, hby⟩ := D
  obtain ⟨L, hL, hB⟩ := hI.at_ _ _ _ hi
  obtain ⟨M, hM, hC⟩ := hI.at_ _ _ _ hj
  have hne : i ≠ j := by
    rintro rfl
    rw [hi] at hj; injection hj with hj; injection hj with e1 e2; subst e1; subst e2
    rw [hk] at hby; rcases hby with hby | ⟨_, hby⟩ <;> cases hby
  have hb := hI.inj i j _ _ _ _ hi hj hne L M hL hM
  obtain ⟨o1, _, ws, hl3, hBk, hcs⟩ := whole_pre hB hk
  obtain ⟨o2, bq0, hlen0, hcells, hr, hrd, hch⟩ := bytes_pre hC hby
  subst hx
  simp only [VRs, VR] at hvs
  obtain ⟨v, r, ⟨L', hL', rfl⟩, rfl, rfl⟩ := hvs
  rw [hL] at hL'; injection hL' with hL'; subst hL'
  obtain ⟨v0, g0, r0, _⟩ := hcs 0 _ (by omega) hc0
  obtain ⟨v1, g1, r1, _⟩ := hcs 1 _ (by omega) hc1
  obtain ⟨v2, g2, r2, _⟩ := hcs 2 _ (by omega) hc2
  have hr0 := r0
  simp only [VR] at r0 r1 r2
  obtain ⟨M', cc, hM', rfl, k1, _, _, _, k5, _⟩ := r0
  rw [hM] at hM'; injection hM' with hM'; subst hM'
  subst r1; subst r2
  have hws : ws = [.slice (some ⟨M.b, M.o + 0, none⟩) n cc, .int .i64 (at_ : Int), .nilIface] := by
    apply List.ext_getElem?
    intro k
    match k with
    | 0 => rw [g0]; rfl
    | 1 => rw [g1]; rfl
    | 2 => rw [g2]; rfl
    | k + 3 => rw [List.getElem?_eq_none (by omega), List.getElem?_eq_none (by simp)]
  subst hws
  refine ⟨L, some ⟨M.b, M.o + 0, none⟩, cc, bq0.take n, hL, fun b hb => ?_, ?_, ?_, by rw [List.length_take]; omega, fun p av hp hg => ?_, hr0, fun l hl x hx p q l' hx' hq => ?_⟩
  · simp at hb; subst hb; exact hB.lt
  · rw [o1]
  · refine o_codec_Dec_mk (m4 := n) (v6 := .nilIface) ⟨by simp, hBk, fun x hx => .inl hx⟩ ⟨by rw [List.length_take]; omega, k5, .inr ⟨M.b, M.o + 0, (bq0.map (Value.int .u8)).take n, rfl, by simpa using fun e => hb e.symm, hC.lt, ?_, ?_⟩⟩ (by rw [List.length_take]; omega) (inR_i64.2 (by omega)) rErr_nil
    · rw [o2]
      exact hcells.take n
    · rw [← List.map_take]
      exact flat_ints _ fun x hx => hr x (List.mem_of_mem_take hx)
  · obtain ⟨x, h1, h2⟩ := hrd p av (by omega) hg
    exact ⟨x, by rw [List.getElem?_take, if_pos hp]; exact h1, h2⟩
  · obtain ⟨q1, _, q3⟩ := hch l hl x hx p q l' hx'
    refine ⟨q1, fun j b hj => ?_⟩
    have := (List.getElem?_eq_some_iff.1 hj).1
    rw [List.getElem?_take, if_pos (by omega)]; exact q3 j b hj
theorem dec_post {vs : List Value} {L : Loc} {a0 : Option Addr} {cc at2 nx : Nat} {bq : List Int} {t' : T AV} {w' : World} {X' F : List Nat} (D : DecArgs 213 el h xs i t at_ j n c ex N u) (I : DecIn E ρ w i n at_ (.sl j 0 n c ex 1) u N el vs L a0 cc bq) (hI : Inv E ρ h.get w)
    (ht : Upd t 1 (.int .i64 (at2 : Int)) t') (hu : Upd h i (.live 3 t') h') (hS : Step [L.b] w [L.b] X' w') (mo : MO (o_codec_Dec a0 cc) 213 [L.b] w.heap.size X' w' F L.b ⟨bq, (at2 : Int), .nil⟩) : Stp ρ h.get w nx ρ h'.get w' nx ∧ Inv E ρ h'.get w' := by
  obtain ⟨hx, hi, ⟨q, hk⟩, hc0, hc1, hc2, hnc, hn6, hj, hnN, hby⟩ := D
  obtain ⟨v5, ob, _, _, he, _⟩ := o_codec_Dec_open mo
  have hv5 : v5 = .nilIface := by simp only [rErr] at he; injection he
  subst hv5
  refine whole_step hI hi I.hL hk hS.evo ob.2.1 rfl (fun k hk3 => ?_) (by rw [ht, if_neg (by omega)]) hu
  match k, hk3 with
  | 0, _ => exact ⟨_, _, by rw [ht, if_neg (by omega)]; exact hc0, rfl, by have := I.sl; rw [I.len]; exact this, rfl⟩
  | 1, _ => exact ⟨_, _, by rw [ht, if_pos rfl], rfl, by simp only [VR], rfl⟩
  | 2, _ => exact ⟨_, _, by rw [ht, if_neg (by omega)]; exact hc2, rfl, by simp only [VR], rfl⟩
theorem dec_num {vs : List Value} {L : Loc} {a0 : Option Addr} {cc : Nat} {bq : List Int} {s : AV} (I : DecIn E ρ w i n at_ s u N el vs L a0 cc bq) {l : List Int} {p : Nat} (hB : BytesAt u p l) (hp : p + l.length ≤ n) : ∀ j x, l[j]? = some x → bq[p + j]? = some x := fun j x hj => by
  obtain ⟨m, rfl, _, hg⟩ := hB j x hj
  have := (List.getElem?_eq_some_iff.1 hj).1
  obtain ⟨y, h1, h2⟩ := I.rd (p + j) _ (by omega) hg
  simp only [VR] at h2
  injection h2 with _ h2; subst h2
  exact h1
end
/-- What is written back. -/
noncomputable def decSet (h : T Blk) (t : T AV) (i at2 n : Nat) (k : T Blk → Bool) : Bool := ifK (Nat.ble at2 n) (setK (.int .i64 (.ofNat at2)) 40 t 1 fun t' => setK (.live 3 t') 40 h i k) false
theorem decSet_some {h : T Blk} {t : T AV} {i at2 n : Nat} {k : T Blk → Bool} (e : decSet h t i at2 n k = true) : at2 ≤ n ∧ ∃ t' h', Upd t 1 (.int .i64 (at2 : Int)) t' ∧ Upd h i (.live 3 t') h' ∧ k h' = true := by
  unfold decSet at e
  obtain ⟨h1, e⟩ := ifK_and e
  replace e := setK_some e
  obtain ⟨t', ht, e⟩ := e
  replace e := setK_some e
  obtain ⟨h', hu, e⟩ := e
  exact ⟨ble_of h1, t', h', ht, hu, e⟩
noncomputable def gDecInt : Orc := fun xs h nx k => decArgs 213 5 h xs fun i t at_ u n _ _ => decK u at_ fun m len => forceN (Nat.add at_ len) fun at2 => decSet h t i at2 n fun h' => k (.int .i64 (.ofNat m)) h' nx
theorem decInt_orc {E : Env} {F : Facts} : FnRel Tryz.prog E F 147 (.orc gDecInt) := by
  refine .orc fun xs h nx k hk hfr => ?_
  unfold gDecInt at hk
  obtain ⟨i, t, at_, j, n, c, ex, N, u, _, D, _, hk⟩ := decArgs_some hk
  obtain ⟨m, len, hk, hm, hlen, hB⟩ := decK_some hk
  rw [forceN_eq] at hk
  obtain ⟨hat2, t', h', ht, hu, hk⟩ := decSet_some hk
  have hat2 : at_ + len ≤ n := hat2
  have hf : FnHas Tryz.prog 147 := ⟨_, Tryz.func147, by kernel_rfl, by kernel_rfl⟩
  refine ⟨_, h', nx, hk, hfr.set hu (hfr.lt D.hi), Nat.le_refl _, .inl ⟨hf, fun ρ w vs _ hI hvs => ?_⟩⟩
  obtain ⟨L, a0, cc, bq, I⟩ := dec_pre D (by omega) hI hvs
  rw [I.ar]
  have hpre : codec_Dec_Int_p ⟨bq, (at_ : Int), .nil⟩ fun d r => d = ⟨bq, ((at_ + len : Nat) : Int), .nil⟩ ∧ r = (m : Int) := by
    have hl := I.len
    refine DecInt_p (pre := bq.take at_) (post := bq.drop (at_ + (encI (m : Int)).length)) (inR_i64.2 (by omega)) (cut_of (bq := bq) (dec_num I hB (by omega))) (by rw [List.length_take]; simp only; omega) rfl (by simp only; have := D.n6; omega) ⟨?_, rfl⟩
    rw [List.length_take, hlen, show min at_ bq.length = at_ from by omega]
  refine (codec_Dec_Int_w I.old I.mo hpre).mono ?_
  rintro e w' ⟨v, rfl, d, r, ⟨rfl, rfl⟩, X', F', hS, rfl, mo, _⟩
  obtain ⟨s1, s2⟩ := dec_post D I hI ht hu hS mo
  exact ⟨_, rfl, ρ, s1, s2, by simp only [VR]; rfl⟩

theorem bytesL_bytes {E : Env} (s : List Nat) : bytesL (E.bytes s) = s.map fun m => ((E.byte m).toNat : Int) := by simp [bytesL, Env.bytes]
noncomputable def gDecText : Orc := fun xs h nx k => decArgs 213 5 h xs fun i t at_ u n _ _ => decK u at_ fun m len => forceN (Nat.add at_ len) fun at1 => forceN (Nat.add at1 m) fun at2 => decSet h t i at2 n fun h' => readK u m at1 fun l => atomsK l fun s => k (.str s) h' nx
theorem decText_orc {E : Env} {F : Facts} : FnRel Tryz.prog E F 148 (.orc gDecText) := by
  refine .orc fun xs h nx k hk hfr => ?_
  unfold gDecText at hk
  obtain ⟨i, t, at_, j, n, c, ex, N, u, _, D, _, hk⟩ := decArgs_some hk
  obtain ⟨m, len, hk, hm, hlen, hB⟩ := decK_some hk
  rw [forceN_eq, forceN_eq] at hk
  obtain ⟨hat2, t', h', ht, hu, hk⟩ := decSet_some hk
  have hat2 : at_ + len + m ≤ n := hat2
  replace hk := readK_some hk
  obtain ⟨l, hl, hlg, hk⟩ := hk
  obtain ⟨s, hk, hs⟩ := atomsK_some (E := E) hk
  have hf : FnHas Tryz.prog 148 := ⟨_, Tryz.func148, by kernel_rfl, by kernel_rfl⟩
  refine ⟨_, h', nx, hk, hfr.set hu (hfr.lt D.hi), Nat.le_refl _, .inl ⟨hf, fun ρ w vs _ hI hvs => ?_⟩⟩
  obtain ⟨L, a0, cc, bq, I⟩ := dec_pre D (by omega) hI hvs
  rw [I.ar]
  have hln := I.len
  have htxt : (bq.drop (at_ + len)).take m = bytesL (E.bytes s) := by
    have hv : VRs E ρ l (((bq.drop (at_ + len)).take m).map (Value.int .u8)) := VRs.of_get (by rw [List.length_map, List.length_take, List.length_drop, hl]; omega) fun j av hj => by
      have hjm : j < m := by have := (List.getElem?_eq_some_iff.1 hj).1; omega
      rw [← hlg j hjm] at hj
      obtain ⟨x, h1, h2⟩ := I.rd (at_ + len + j) av (by omega) hj
      exact ⟨_, by rw [List.getElem?_map, List.getElem?_take, if_pos hjm, List.getElem?_drop, h1]; rfl, h2⟩
    have e := hs ρ _ hv
    rw [bytesL_bytes]
    have e2 := congrArg (List.map fun v => match v with | Value.int _ x => x | _ => 0) e
    rw [List.map_map, List.map_map] at e2
    have id1 : (fun v => match v with | Value.int _ x => x | _ => 0) ∘ Value.int .u8 = id := by funext x; rfl
    rw [id1, List.map_id] at e2
    exact e2
  have hsz : (E.bytes s).size = m := by
    have := congrArg List.length htxt
    rw [List.length_take, List.length_drop, bytesL_len] at this
    omega
  have hcut : bq = bq.take at_ ++ (encT (E.bytes s) ++ bq.drop (at_ + len + m)) := by
    have e1 := cut_of (bq := bq) (dec_num I hB (by omega))
    rw [hlen] at e1
    have e2 : bq.drop (at_ + len) = bytesL (E.bytes s) ++ bq.drop (at_ + len + m) := by
      have h3 : bq.drop (at_ + len + m) = (bq.drop (at_ + len)).drop m := by rw [List.drop_drop]
      rw [← htxt, h3, List.take_append_drop]
    unfold encT
    rw [hsz, List.append_assoc, ← e2]
    exact e1
  have hel : (encT (E.bytes s)).length = len + m := by unfold encT; rw [List.length_append, bytesL_len, hsz, hlen]
  have hpre : codec_Dec_Text_p ⟨bq, (at_ : Int), .nil⟩ fun d r => d = ⟨bq, ((at_ + len + m : Nat) : Int), .nil⟩ ∧ r = E.bytes s := by
    refine DecText_p (pre := bq.take at_) (post := bq.drop (at_ + len + m)) hcut (by rw [List.length_take]; simp only; omega) rfl (by simp only; have := D.n6; omega) ⟨?_, rfl⟩
    rw [List.length_take, hel, show min at_ bq.length = at_ from by omega, Nat.add_assoc]
  refine (codec_Dec_Text_w I.old I.mo hpre).mono ?_
  rintro e w' ⟨v, rfl, d, r, ⟨rfl, rfl⟩, X', F', hS, rfl, mo, _⟩
  obtain ⟨s1, s2⟩ := dec_post D I hI ht hu hS mo
  exact ⟨_, rfl, ρ, s1, s2, by simp only [VR]⟩
end Go.Proofs.YtdnahdcjnahfkaaGreatDoor.Ev
set_option linter.unusedVariables false
set_option linter.unusedSimpArgs false
namespace Go.Proofs.YtdnahdcjnahfkaaGreatDoor.Ev
open Go Go.Proofs

/-! ### Several texts -/
theorem EncTexts_p {e : S_codec_Enc} {l : List ByteArray} {Q : S_codec_Enc → Prop} (hs : ∀ s ∈ l, s.size ≤ 1000000) (hb : e.b.length + 1000010 * l.length ≤ 1000000000000) (h : Q ⟨e.b ++ l.flatMap encT⟩) : codec_Enc_Text_p e l Q := by
  unfold codec_Enc_Text_p; simp only [inR_i64]; intro _
  refine ⟨fun s o => ∃ k : Nat, s = k ∧ k ≤ l.length ∧ o.b = e.b ++ (l.take k).flatMap encT ∧ o.b.length ≤ e.b.length + 1000010 * k, fun s _ => l.length - s.toNat, ⟨0, rfl, Nat.zero_le _, by simp, by omega⟩, ?_⟩
  rintro _ o ⟨k, rfl, hk, ho, hl⟩ _
  refine ⟨fun hlt => ?_, fun hge => ?_⟩
  · have hkl : k < l.length := by omega
    refine ⟨inL_nat.2 hkl, fun _ => ?_⟩
    have hsz : (lget l (k : Int)).size ≤ 1000000 := by
      refine hs _ ?_
      rw [lget_nat]
      simp [List.getD, hkl]
    have hr : inR .i64 ((lget l (k : Int)).size : Int) := inR_i64.2 ⟨by omega, by omega⟩
    have hlen := encI_len hr
    refine EncInt_p (by simp; omega) (fun _ => ⟨?_, ⟨by omega, by omega⟩, ⟨k + 1, rfl, hkl, ?_, ?_⟩, by dsimp only; omega⟩)
    · simp [encIs]; omega
    · rw [flat_take encT hkl, ho]; unfold encT; simp [encIs]
    · simp [encIs, bytesL_len]; omega
  · have : k = l.length := by omega
    subst this
    rw [List.take_length] at ho
    have : o = ⟨e.b ++ l.flatMap encT⟩ := by cases o; simp at ho; rw [ho]
    rw [this]; exact h

/-! ### The cells that are written -/
noncomputable def encNK (m : Nat) (rest : List AV) (k : List AV → Bool) : Bool :=
  forceN (Nat.mul 2 m) fun u => @Bool.rec (fun _ => Bool) (forceN (Nat.add (Nat.mod u 128) 128) fun c0 => forceN (Nat.div u 128) fun u1 => @Bool.rec (fun _ => Bool) (forceN (Nat.add (Nat.mod u1 128) 128) fun c1 => forceN (Nat.div u1 128) fun u2 => ifK (Nat.blt u2 128) (k (.int .u8 (.ofNat c0) :: .int .u8 (.ofNat c1) :: .int .u8 (.ofNat u2) :: rest)) false)
    (k (.int .u8 (.ofNat c0) :: .int .u8 (.ofNat u1) :: rest)) (Nat.blt u1 128)) (k (.int .u8 (.ofNat u) :: rest)) (Nat.blt u 128)
/-- These cells hold these bytes. -/
def Cells8 (E : Env) (cs : List AV) (l : List Int) : Prop := ∀ ρ, VRs E ρ cs (l.map (Value.int .u8))
section
variable {E : Env}
theorem Cells8.nil : Cells8 E [] [] := fun _ => VRs.nil
theorem Cells8.cons {m : Nat} {cs : List AV} {l : List Int} (h : Cells8 E cs l) : Cells8 E (.int .u8 (.ofNat m) :: cs) ((m : Int) :: l) := fun ρ => VRs.cons (by simp only [VR]; rfl) (h ρ)
theorem Cells8.app {cs ds : List AV} {l m : List Int} (h : Cells8 E cs l) (k : Cells8 E ds m) : Cells8 E (cs ++ ds) (l ++ m) := fun ρ => by rw [List.map_append]; exact VRs.append (h ρ) (k ρ)
theorem Cells8.length {cs : List AV} {l : List Int} (h : Cells8 E cs l) : cs.length = l.length := by have := (h fun _ => none).length; simpa using this.symm
theorem encNK_some {m : Nat} {rest : List AV} {k : List AV → Bool} (h : encNK m rest k = true) : ∃ cs, k (cs ++ rest) = true ∧ m ≤ 2000000 ∧ Cells8 E cs (encI (m : Int)) := by
  unfold encNK at h
  rw [forceN_eq] at h
  have h2 : Nat.mul 2 m = 2 * m := rfl
  rw [h2] at h
  cases e0 : Nat.blt (2 * m) 128 with
  | true =>
    rw [e0] at h
    have e0 := blt_of e0
    refine ⟨[.int .u8 (.ofNat (2 * m))], h, by omega, ?_⟩
    rw [encI_nat, vb_lt e0]
    exact Cells8.nil.cons
  | false =>
    rw [e0] at h
    have e0 := bltF e0
    change forceN (Nat.add (Nat.mod (2 * m) 128) 128) _ = true at h
    rw [forceN_eq, forceN_eq] at h
    have h3 : Nat.div (2 * m) 128 = 2 * m / 128 := rfl
    have h4 : Nat.add (Nat.mod (2 * m) 128) 128 = 2 * m % 128 + 128 := rfl
    rw [h3, h4] at h
    cases e1 : Nat.blt (2 * m / 128) 128 with
    | true =>
      rw [e1] at h
      have e1 := blt_of e1
      refine ⟨[.int .u8 (.ofNat (2 * m % 128 + 128)), .int .u8 (.ofNat (2 * m / 128))], h, by omega, ?_⟩
      rw [encI_nat, vb_ge e0, vb_lt e1]
      exact Cells8.nil.cons.cons
    | false =>
      rw [e1] at h
      have e1 := bltF e1
      change forceN (Nat.add (Nat.mod (2 * m / 128) 128) 128) _ = true at h
      rw [forceN_eq, forceN_eq] at h
      have h5 : Nat.div (2 * m / 128) 128 = 2 * m / 128 / 128 := rfl
      have h6 : Nat.add (Nat.mod (2 * m / 128) 128) 128 = 2 * m / 128 % 128 + 128 := rfl
      rw [h5, h6] at h
      obtain ⟨e2, h⟩ := ifK_and h
      have e2 := blt_of e2
      refine ⟨[.int .u8 (.ofNat (2 * m % 128 + 128)), .int .u8 (.ofNat (2 * m / 128 % 128 + 128)), .int .u8 (.ofNat (2 * m / 128 / 128))], h, by omega, ?_⟩
      rw [encI_nat, vb_ge e0, vb_ge e1, vb_lt e2]
      exact Cells8.nil.cons.cons.cons
end

noncomputable def numsK (l : List AV) (k : List AV → Bool) : Bool := @List.rec AV (fun _ => (List AV → Bool) → Bool) (fun k => k []) (fun v _ ih k => ih fun rest => intK v fun q z => ifK (kindEq q .i64) (@Int.rec (fun _ => Bool) (fun m => encNK m rest k) (fun _ => false) z) false) l k
noncomputable def textsK (l : List AV) (k : List AV → Bool) : Bool := @List.rec AV (fun _ => (List AV → Bool) → Bool) (fun k => k []) (fun v _ ih k => ih fun rest => strK v fun s => lenK s 0 fun n => ifK (Nat.ble n 1000000) (atomAVs s fun cs => appK cs rest fun rest => encNK n rest k) false) l k
section
variable {E : Env}
theorem numsK_some : ∀ {l : List AV} {k : List AV → Bool}, numsK l k = true → ∃ (L : List Int) (cs : List AV), k cs = true ∧ L.length = l.length ∧ (∀ x ∈ L, inR .i64 x) ∧ (∀ ρ vs, VRs E ρ l vs → vs = L.map (Value.int .i64)) ∧ Cells8 E cs (encIs L)
  | [], k, h => ⟨[], [], h, rfl, fun _ h => (by cases h), fun ρ vs hv => by simpa [VRs] using hv, Cells8.nil⟩
  | v :: l, k, h => by
    obtain ⟨L, rest, g, h1, h2, h3, h4⟩ := numsK_some (l := l) (k := fun rest => intK v fun q z => ifK (kindEq q .i64) (@Int.rec (fun _ => Bool) (fun m => encNK m rest k) (fun _ => false) z) false) h
    replace g := intK_some g
    obtain ⟨q, z, rfl, g⟩ := g
    replace g := ifK_and g
    obtain ⟨hq, g⟩ := g
    have := kindEq_of hq; subst this
    cases z with
    | negSucc m => cases g
    | ofNat m =>
      obtain ⟨cs, g, hm, hc⟩ := encNK_some (E := E) (k := k) g
      refine ⟨(m : Int) :: L, cs ++ rest, g, by simp [h1], fun x hx => ?_, fun ρ vs hv => ?_, ?_⟩
      · rcases List.mem_cons.1 hx with rfl | hx
        · exact inR_i64.2 (by omega)
        · exact h2 x hx
      · simp only [VRs, VR] at hv
        obtain ⟨_, r, rfl, hr, rfl⟩ := hv
        rw [h3 ρ r hr]; rfl
      · have : encIs ((m : Int) :: L) = encI (m : Int) ++ encIs L := by simp [encIs]
        rw [this]; exact hc.app h4
theorem textsK_some : ∀ {l : List AV} {k : List AV → Bool}, textsK l k = true → ∃ (L : List ByteArray) (cs : List AV), k cs = true ∧ L.length = l.length ∧ (∀ x ∈ L, x.size ≤ 1000000) ∧ (∀ ρ vs, VRs E ρ l vs → vs = L.map Value.string) ∧ Cells8 E cs (L.flatMap encT)
  | [], k, h => ⟨[], [], h, rfl, fun _ h => (by cases h), fun ρ vs hv => by simpa [VRs] using hv, Cells8.nil⟩
  | v :: l, k, h => by
    obtain ⟨L, rest, g, h1, h2, h3, h4⟩ := textsK_some (l := l) (k := fun rest => strK v fun s => lenK s 0 fun n => ifK (Nat.ble n 1000000) (atomAVs s fun cs => appK cs rest fun rest => encNK n rest k) false) h
    replace g := strK_some g
    obtain ⟨s, rfl, g⟩ := g
    rw [lenK_eq, Nat.zero_add] at g
    replace g := ifK_and g
    obtain ⟨hn, g⟩ := g
    have hn := ble_of hn
    obtain ⟨cs, g, hc⟩ := atomAVs_some (E := E) g
    rw [appK_eq] at g
    obtain ⟨ds, g, hm, hd⟩ := encNK_some (E := E) (k := k) g
    refine ⟨E.bytes s :: L, ds ++ (cs ++ rest), g, by simp [h1], fun x hx => ?_, fun ρ vs hv => ?_, ?_⟩
    · rcases List.mem_cons.1 hx with rfl | hx
      · rw [bytes_size]; exact hn
      · exact h2 x hx
    · simp only [VRs, VR] at hv
      obtain ⟨_, r, rfl, hr, rfl⟩ := hv
      rw [h3 ρ r hr]; rfl
    · rw [List.flatMap_cons]
      have e : encT (E.bytes s) ++ L.flatMap encT = encI (s.length : Int) ++ (bytesL (E.bytes s) ++ L.flatMap encT) := by unfold encT; rw [bytes_size, List.append_assoc]
      rw [e]
      refine hd.app (Cells8.app (fun ρ => ?_) h4)
      have := hc ρ
      rw [bytesL_bytes, List.map_map]
      exact this
end

/-! ### A row that is read -/
noncomputable def rowE (h : T Blk) (nx : Nat) (v : AV) (k : Nat → List AV → Bool) : Bool :=
  slK v (fun i o n c _ es => ifK (Nat.beq es 1) (ifK (Nat.ble n c) (ifK (Nat.ble n 1000) (blkK h i fun m t => forceN (Nat.add o n) fun on => ifK (Nat.ble on m) (readK t n o fun cs => k i cs) false) false) false) false) (k nx []) false
theorem rowE_some {E : Env} {h : T Blk} {nx : Nat} {v : AV} {k : Nat → List AV → Bool} (e : rowE h nx v k = true) : ∃ i cs n, k i cs = true ∧ cs.length = n ∧ n ≤ 1000 ∧ ∀ ρ w u, Inv E ρ h.get w → VR E ρ v u →
    ∃ al cc xs, u = .slice al n cc ∧ n ≤ cc ∧ cc ≤ maxLen ∧ VRs E ρ cs xs ∧ ((cs = [] ∧ (al = none → cc = 0)) ∨ ∃ m t L o, h.get i = some (.live m t) ∧ ρ i = some L ∧ al = some ⟨L.b, o, none⟩ ∧ L.b < w.heap.size ∧ CellsAt w L.b o xs) := by
  unfold rowE at e
  replace e := slK_some e
  rcases e with ⟨i, o, n, c, ex, es, rfl, e⟩ | ⟨rfl, e⟩ | ⟨_, e⟩
  · replace e := ifK_and e
    obtain ⟨h0, e⟩ := e
    have := beq_of h0; subst this
    replace e := ifK_and e
    obtain ⟨h1, e⟩ := e
    have h1 := ble_of h1
    replace e := ifK_and e
    obtain ⟨h2, e⟩ := e
    have h2 := ble_of h2
    replace e := blkK_some e
    obtain ⟨m, t, hb, e⟩ := e
    rw [forceN_eq] at e
    replace e := ifK_and e
    obtain ⟨h3, e⟩ := e
    have h3 := ble_of h3
    replace e := readK_some e
    obtain ⟨cs, hl, hg, e⟩ := e
    refine ⟨i, cs, n, e, hl, h2, fun ρ w u hI hu => ?_⟩
    simp only [VR] at hu
    obtain ⟨L, cc, hL, rfl, v1, _, v3, v4⟩ := hu
    obtain ⟨xs, g1, g2, g3⟩ := (hI.blk hb hL).row h3 hl hg
    exact ⟨_, cc, xs, rfl, by omega, v4.2.1, g1, .inr ⟨m, t, L, L.o + o, hb, hL, rfl, (hI.blk hb hL).lt, fun j u hj => by rw [g3 j (List.getElem?_eq_some_iff.1 hj).1]; exact hj⟩⟩
  · refine ⟨nx, [], 0, e, rfl, by omega, fun ρ w u hI hu => ?_⟩
    simp only [VR] at hu
    subst hu
    exact ⟨none, 0, [], rfl, by omega, Nat.zero_le _, VRs.nil, .inl ⟨rfl, fun _ => rfl⟩⟩
  · cases e

/-! ### The block behind, and the buffer -/
/-- The encoder's cell turns, its buffer goes (or stays, with more in it), and is known by a new number. -/
theorem enc_step {E : Env} {ρ : Nat → Option Loc} {w w' : World} {h h1 h2 h3 : T Blk} {i nx n2 g c3 ty q : Nat} {t t' u' : T AV} {L : Loc} {G : List Nat} {cur : Array Value} (hI : Inv E ρ h.get w)
    (hl : ∀ k m u, h1.get k = some (.live m u) → h.get k = some (.live m u) ∧ ∀ M, ρ k = some M → M.b ∉ G) (hG : ∀ b ∈ G, ∃ j m u M, h.get j = some (.live m u) ∧ ρ j = some M ∧ M.b = b)
    (hi : h1.get i = some (.live 1 t)) (hL : ρ i = some L) (hk : t.get 8 = some (.ptr ty q)) (hE : Evo (L.b :: G) w w') (hB : Go.Proofs.YtdnahdcjnahfkaaGreatDoor.Blk w' L.b [.slice (some ⟨g, 0, none⟩) n2 c3] ty) (hne : L.b ≠ g) (hg : g ∈ G ∨ w.heap.size ≤ g)
    (hc : w'.heap[g]? = some (.cells cur 5 (0, 0))) (hnc : n2 ≤ c3) (hcm : c3 ≤ maxLen) (hcs : cur.size = c3) (hv : ∀ k, k < n2 → ∃ av x, u'.get k = some av ∧ 0 ≤ x ∧ x < 256 ∧ cur[k]? = some (.int .u8 x) ∧ ∀ ρ', Ext ρ ρ' → VR E ρ' av (.int .u8 x)) (hT : u'.get (n2 + 7) = some (.glob 5) ∨ ∃ l, u'.get (n2 + 7) = some (.ifc 5 (.agg l)) ∧ ∀ x ∈ l, ChAt E cur n2 x)
    (hnx : ρ nx = none) (hix : i ≠ nx) (hu1 : Upd h1 nx (.live n2 u') h2) (ht : Upd t 0 (.sl nx 0 n2 n2 false 1) t') (hu2 : Upd h2 i (.live 1 t') h3) :
    Stp ρ h.get w nx (ρset ρ nx ⟨g, 0, c3, 1⟩) h3.get w' (nx + 1) ∧ Inv E (ρset ρ nx ⟨g, 0, c3, 1⟩) h3.get w' := by
  have hext : Ext ρ (ρset ρ nx ⟨g, 0, c3, 1⟩) := ρset_ext hnx
  have rs : ρset ρ nx ⟨g, 0, c3, 1⟩ nx = some ⟨g, 0, c3, 1⟩ := by simp [ρset]
  have hby : ∀ j, j < n2 → ∃ m : Nat, m < 256 ∧ cur[j]? = some (.int .u8 (m : Int)) := fun j hj => by
    obtain ⟨av, x, _, a4, a5, a2, _⟩ := hv j hj
    exact ⟨x.toNat, by omega, by rw [a2, Int.toNat_of_nonneg a4]⟩
  have hTy : TyAt E (u'.get (n2 + 7)) n2 0 c3 cur 5 (0, 0) := by
    rcases hT with hT | ⟨l, hT, hch⟩
    · rw [hT]; exact TyAt.glob hby
    · rw [hT]
      exact ⟨fun _ h => (by cases h), fun _ _ h => (by cases h), fun ty' l' h => (by injection h with h; injection h with ha hb; injection hb with hb; subst ha; subst hb; exact ⟨rfl, rfl, rfl, hby, hch⟩)⟩
  have rn : ∀ k, k ≠ nx → ρset ρ nx ⟨g, 0, c3, 1⟩ k = ρ k := fun k hk => by simp [ρset, hk]
  have e0 : ∀ k m u, h3.get k = some (.live m u) → (k = i ∧ m = 1 ∧ u = t') ∨ (k = nx ∧ k ≠ i ∧ m = n2 ∧ u = u') ∨ (k ≠ i ∧ k ≠ nx ∧ h1.get k = some (.live m u)) := fun k m u hk => by
    rw [hu2] at hk
    split at hk
    · rename_i e; injection hk with hk; injection hk with a b; exact .inl ⟨e, a.symm, b.symm⟩
    · rename_i e
      rw [hu1] at hk
      split at hk
      · rename_i e2; injection hk with hk; injection hk with a b; exact .inr (.inl ⟨e2, e, a.symm, b.symm⟩)
      · rename_i e2; exact .inr (.inr ⟨e, e2, hk⟩)
  have hLi := hl _ _ _ hi
  -- a block of another number, that is known before
  have e1 : ∀ k m u, h3.get k = some (.live m u) → k ≠ nx → ∃ m' u', h1.get k = some (.live m' u') := fun k m u hk hkn => by
    rcases e0 k m u hk with ⟨rfl, _, _⟩ | ⟨e, _⟩ | ⟨_, _, hk⟩
    · exact ⟨1, t, hi⟩
    · exact absurd e hkn
    · exact ⟨m, u, hk⟩
  have e2 : ∀ k m u M, h1.get k = some (.live m u) → ρ k = some M → M.b ≠ g := fun k m u M hk hM e => by
    obtain ⟨p1, p2⟩ := hl k m u hk
    rcases hg with hg | hg
    · exact p2 M hM (e ▸ hg)
    · have := (hI.blk p1 hM).lt; omega
  obtain ⟨c0, el', z, b1, b2, b3, b4, b5⟩ := hI.blk hLi.1 hL
  obtain ⟨g1, g2, g3, g4⟩ := b5.2.1 ty q hk
  refine ⟨⟨Nat.le_succ _, fun j a b => by rwa [show j = nx from by omega], fun j hj => rn j (by omega), hE.os, hE.tape, hE.output, hE.size, fun b hb hno => hE.keep b hb ?_, fun k m u M hk' hM => ?_⟩, ⟨fun k m u hk' => ?_, fun k k' m u m' u' hk1 hk2 hkk M M' hM hM' => ?_⟩⟩
  · intro hm
    rcases List.mem_cons.1 hm with e | hm
    · exact hno i 1 t L hLi.1 hL e.symm
    · obtain ⟨j, m, u, M, a1, a2, a3⟩ := hG b hm
      exact hno j m u M a1 a2 a3
  · by_cases hkn : k = nx
    · subst hkn
      rw [rs] at hM; injection hM with hM; subst hM
      rcases hg with hg | hg
      · obtain ⟨j, m, u, M, a1, a2, a3⟩ := hG g hg
        exact .inr ⟨j, m, u, M, a1, a2, a3⟩
      · exact .inl hg
    · rw [rn k hkn] at hM
      obtain ⟨m', u', hk1⟩ := e1 k m u hk' hkn
      exact .inr ⟨k, m', u', M, (hl _ _ _ hk1).1, hM, rfl⟩
  · rcases e0 k m u hk' with ⟨rfl, rfl, rfl⟩ | ⟨rfl, _, rfl, rfl⟩ | ⟨hki, hkn, hk1⟩
    · refine ⟨L, hext _ _ hL, _, ty, (0, 0), hB, fun k _ hk => by omega, by simp [g3], fun k hk1 => ?_, ?_⟩
      · have hk0 : k = 0 := by omega
        subst hk0
        refine ⟨_, .slice (some ⟨g, 0, none⟩) n2 c3, by rw [ht, if_pos rfl], by rw [g2]; rfl, ?_, rfl⟩
        simp only [VR]
        exact ⟨⟨g, 0, c3, 1⟩, c3, rs, rfl, hnc, fun h => (by cases h), by show 0 + 0 + c3 * 1 ≤ c3; omega, fun h => absurd rfl h, hcm, fun _ => by show 0 + 0 + c3 * 1 = c3; omega⟩
      · rw [ht, if_neg (by omega), hk]
        exact ⟨fun _ h => (by cases h), fun ty' q' h => (by injection h with h; injection h with h1 _; subst h1; exact ⟨rfl, g2, g3, rfl⟩), fun _ _ h => (by cases h)⟩
    · refine ⟨⟨g, 0, c3, 1⟩, rs, cur, 5, (0, 0), hc, fun k _ hk => by omega, hcs, fun k hk1 => ?_, ?_⟩
      · obtain ⟨av, x, a1, _, _, a2, a3⟩ := hv k hk1
        exact ⟨av, _, a1, by rw [Nat.zero_add]; exact a2, a3 _ hext, rfl⟩
      · exact hTy
    · obtain ⟨p1, p2⟩ := hl _ _ _ hk1
      obtain ⟨M, hM, hBk⟩ := hI.at_ _ _ _ p1
      refine ⟨M, hext _ _ hM, (hBk.same (hE.keep M.b hBk.lt ?_)).ext hext⟩
      intro hm
      rcases List.mem_cons.1 hm with e | hm
      · exact hI.inj k i _ _ _ _ p1 hLi.1 hki M L hM hL e
      · exact p2 M hM hm
  · by_cases h1n : k = nx
    · subst h1n
      rw [rs] at hM; injection hM with hM; subst hM
      have h2n : k' ≠ k := fun e => hkk e.symm
      rw [rn k' h2n] at hM'
      obtain ⟨_, _, hk2⟩ := e1 _ _ _ hk2 h2n
      exact fun e => e2 _ _ _ _ hk2 hM' e.symm
    · rw [rn k h1n] at hM
      obtain ⟨_, _, hk1⟩ := e1 _ _ _ hk1 h1n
      by_cases h2n : k' = nx
      · subst h2n
        rw [rs] at hM'; injection hM' with hM'; subst hM'
        exact e2 _ _ _ _ hk1 hM
      · rw [rn k' h2n] at hM'
        obtain ⟨_, _, hk2⟩ := e1 _ _ _ hk2 h2n
        exact hI.inj k k' _ _ _ _ (hl _ _ _ hk1).1 (hl _ _ _ hk2).1 hkk M M' hM hM'

/-! ### What the encoder's functions find -/
def EncBuf (h h1 : T Blk) (t : T AV) (a : Nat) (u : T AV) (n : Nat) (ky : AV) : Prop :=
  (t.get 0 = some .nils ∧ h1 = h ∧ n = 0 ∧ ky = .glob 5) ∨ ∃ j c, t.get 0 = some (.sl j 0 n c false 1) ∧ n ≤ c ∧ h.get j = some (.live n u) ∧ u.get (n + 7) = some ky ∧ (ky = .glob 5 ∨ ∃ l, ky = .ifc 5 (.agg l)) ∧ j ≠ a ∧ Upd h j .dead h1
theorem EncBuf.key {h h1 : T Blk} {t : T AV} {a : Nat} {u : T AV} {n : Nat} {ky : AV} (hb : EncBuf h h1 t a u n ky) : ky = .glob 5 ∨ ∃ l, ky = .ifc 5 (.agg l) := by
  rcases hb with ⟨_, _, _, h⟩ | ⟨_, _, _, _, _, _, h, _⟩
  · exact .inl h
  · exact h
structure EncIn (E : Env) (ρ : Nat → Option Loc) (w : World) (h h1 : T Blk) (i a n : Nat) (ty : TypeId) (u : T AV) (ky : AV) (L : Loc) (a1 : Option Addr) (bq : List Int) : Prop where
  hL : ρ i = some L
  old : Old (L.b :: blkL a1) w
  mo : MO o_codec_Enc ty (L.b :: blkL a1) w.heap.size (L.b :: blkL a1) w (L.b :: blkL a1) L.b ⟨bq⟩
  len : bq.length = n
  o0 : L.o = 0
  rd : ∀ p, p < n → ∃ av x, u.get p = some av ∧ bq[p]? = some x ∧ VR E ρ av (.int .u8 x)
  hl : ∀ k m u, h1.get k = some (.live m u) → h.get k = some (.live m u) ∧ ∀ M, ρ k = some M → M.b ∉ blkL a1
  hG : ∀ b ∈ blkL a1, ∃ j m u M, h.get j = some (.live m u) ∧ ρ j = some M ∧ M.b = b
  hi : ∀ m v, h.get i = some (.live m v) → h1.get i = some (.live m v)
  apart : ∀ R m v, a ≠ i → h.get a = some (.live m v) → ρ a = some R → R.b ∉ L.b :: blkL a1
  ch : ∀ l, ky = .ifc 5 (.agg l) → ∀ x ∈ l, ChL E bq x
theorem enc_pre {E : Env} {ρ : Nat → Option Loc} {w : World} {h h1 : T Blk} {i a n ty q : Nat} {t u : T AV} {ky : AV} (hI : Inv E ρ h.get w) (hi : h.get i = some (.live 1 t)) (hk : t.get 8 = some (.ptr ty q)) (hb : EncBuf h h1 t a u n ky) : ∃ L a1 bq, EncIn E ρ w h h1 i a n ty u ky L a1 bq := by
  obtain ⟨L, hL, hB⟩ := hI.at_ _ _ _ hi
  obtain ⟨o1, _, ws, hl1, hBk, hcs⟩ := whole_pre hB hk
  rcases hb with ⟨hc0, rfl, rfl, rfl⟩ | ⟨j, c, hc0, hnc, hj, hby, hkk, hja, hu⟩
  · obtain ⟨v0, g0, r0, _⟩ := hcs 0 _ (by omega) hc0
    simp only [VR] at r0
    subst r0
    have hws : ws = [.slice none 0 0] := by
      match ws, hl1, g0 with
      | [x], _, g0 => injection g0 with g0; subst g0; rfl
    subst hws
    refine ⟨L, none, [], hL, fun b hb => ?_, ?_, rfl, o1, fun p hp => by omega, fun k m u hk => ⟨hk, fun M _ hm => (by cases hm)⟩, fun b hb => (by cases hb), fun m v h => h, fun R m v hne ha hR => ?_, fun l h => (by cases h)⟩
    · simp [blkL] at hb; subst hb; exact hB.lt
    · exact o_codec_Enc_mk (a1 := none) ⟨by simp, hBk, fun x hx => .inl (by simp at hx; simp [hx])⟩ (OS.nil2 _ _ _ _ _) (fun x _ hm => (by cases hm))
    · have := hI.inj a i _ _ _ _ ha hi hne R L hR hL
      simp [blkL]; exact this
  · obtain ⟨M, hM, hC⟩ := hI.at_ _ _ _ hj
    have hne : i ≠ j := by
      rintro rfl
      rw [hi] at hj; injection hj with hj; injection hj with e1 e2; subst e1; subst e2
      rw [hk] at hby; injection hby with hby; rcases hkk with h | ⟨_, h⟩ <;> rw [h] at hby <;> cases hby
    have hbb := hI.inj i j _ _ _ _ hi hj hne L M hL hM
    obtain ⟨v0, g0, r0, _⟩ := hcs 0 _ (by omega) hc0
    simp only [VR] at r0
    obtain ⟨M', cc, hM', rfl, k1, _, _, _, k5, k6⟩ := r0
    rw [hM] at hM'; injection hM' with hM'; subst hM'
    have k6 := k6 trivial
    obtain ⟨o2, bq0, hlen0, hcells, hr, hrd, hch⟩ := bytes_pre hC (.of hby hkk)
    obtain ⟨cur, el, z, b1, b2, b3, b4, b5⟩ := hC
    have ⟨q1, q2, q3, q4⟩ : el = 5 ∧ M.o = 0 ∧ z = (0, 0) ∧ ∀ j, j < n → ∃ m : Nat, m < 256 ∧ cur[j]? = some (.int .u8 (m : Int)) := by
      rcases hkk with h | ⟨l, h⟩
      · exact b5.1 5 (by rw [hby, h])
      · obtain ⟨a1, a2, a3, a4, _⟩ := b5.2.2 5 l (by rw [hby, h])
        exact ⟨a1, a2, a3, a4⟩
    subst q1; subst q3
    have hws : ws = [.slice (some ⟨M.b, 0, none⟩) n cc] := by
      match ws, hl1, g0 with
      | [x], _, g0 => injection g0 with g0; subst g0; rw [q2]
    subst hws
    have hcur : ∀ p, p < n → ∃ x, bq0[p]? = some x ∧ cur[p]? = some (.int .u8 x) := fun p hp => by
      obtain ⟨m, _, hm⟩ := q4 p (by omega)
      have hx : bq0[p]? = some bq0[p] := by simp [hlen0, show p < n from by omega]
      refine ⟨_, hx, ?_⟩
      have := hcells p (.int .u8 bq0[p]) (by rw [List.getElem?_map, hx]; rfl)
      rw [Nat.zero_add] at this
      simpa [World.cell?, b1] using this
    refine ⟨L, some ⟨M.b, 0, none⟩, bq0.take n, hL, fun b hb => ?_, ?_, by rw [List.length_take]; omega, o1, fun p hp => ?_, fun k m v hk' => ?_, fun b hb => ?_, fun m v hm => ?_, fun R m v hne' ha hR => ?_, fun l hl x hx => (by rw [List.take_of_length_le (by omega)]; exact hch l (by rw [hby, hl]) x hx)⟩
    · simp [blkL] at hb
      rcases hb with rfl | rfl
      · exact hB.lt
      · exact (Array.getElem?_eq_some_iff.1 b1).1
    · have hlt : (bq0.take n).length = n := by rw [List.length_take]; omega
      refine o_codec_Enc_mk (a1 := some ⟨M.b, 0, none⟩) (m2 := n) (c3 := cc) ⟨by simp, hBk, fun x hx => .inl (by simp at hx; simp [hx])⟩ ⟨hlt.symm, ⟨Nat.zero_le _, fun b hb => by simp [blkL] at hb; simp [blkL, hb], (bq0.take n).map (Value.int .u8), (show w.ownsRow 0 5 1 (.slice (some ⟨M.b, 0, none⟩) (bq0.take n).length cc) (bq0.take n).length ((bq0.take n).map (Value.int .u8)) from ⟨by simp, .inr ⟨M.b, cc, cur, rfl, Nat.zero_le _, b1, by omega, k5, by omega, ?_⟩⟩), flat_ints _ fun x hx => hr x (List.mem_of_mem_take hx)⟩, fun x hx => .inl (by simp [hx])⟩ (fun x hx hm => ?_)
      · rw [hlt, Nat.mul_one]
        apply List.ext_getElem?
        intro p
        by_cases hp : p < n
        · obtain ⟨x, h1, h2⟩ := hcur p hp
          rw [List.getElem?_take, if_pos hp, List.getElem?_map, List.getElem?_take, if_pos hp, h1, Array.getElem?_toList, h2]; rfl
        · rw [List.getElem?_eq_none (by rw [List.length_take]; omega), List.getElem?_eq_none (by rw [List.length_map]; omega)]
      · simp at hx; subst hx
        simp [blkL] at hm
        exact hbb hm
    · obtain ⟨av, v, a1, a2, a3, _⟩ := b4 p (by omega)
      obtain ⟨x, h1, h2⟩ := hrd p av (by omega) a1
      exact ⟨av, x, a1, by rw [List.getElem?_take, if_pos hp]; exact h1, h2⟩
    · rw [hu] at hk'
      split at hk'
      · injection hk' with hk'; cases hk'
      · rename_i hkj
        refine ⟨hk', fun M2 hM2 hm => ?_⟩
        simp [blkL] at hm
        exact hI.inj k j _ _ _ _ hk' hj hkj M2 M hM2 hM hm
    · simp [blkL] at hb
      subst hb
      exact ⟨j, _, _, M, hj, hM, rfl⟩
    · rw [hu, if_neg hne]; exact hm
    · have e1 := hI.inj a i _ _ _ _ ha hi hne' R L hR hL
      have e2 := hI.inj a j _ _ _ _ ha hj (fun e => hja e.symm) R M hR hM
      simp [blkL]
      exact ⟨e1, e2⟩

/-! ### The contracts -/
noncomputable def encFin (h : T Blk) (i : Nat) (t u : T AV) (n : Nat) (cs : List AV) (ky : AV) (nx : Nat) (k : KV) : Bool :=
  lenK cs 0 fun m => forceN (Nat.add n m) fun n2 => ifK (Nat.blt 0 n2) (ifK (Nat.ble n2 1000000) (writeK cs u n fun u => forceN (Nat.add n2 7) fun q => setK ky 40 u q fun u => setK (.live n2 u) 40 h nx fun h => setK (.sl nx 0 n2 n2 false 1) 40 t 0 fun t => setK (.live 1 t) 40 h i fun h => forceN (Nat.succ nx) fun nx => k (.tup []) h nx) false) false
noncomputable def neK (a b : Nat) (k : Bool) : Bool := @Bool.rec (fun _ => Bool) k false (Nat.beq a b)
theorem neK_some {a b : Nat} {k : Bool} (h : neK a b k = true) : a ≠ b ∧ k = true := by
  unfold neK at h
  cases e : Nat.beq a b with
  | true => rw [e] at h; cases h
  | false =>
    rw [e] at h
    refine ⟨fun hab => ?_, h⟩
    subst hab
    have : Nat.beq a a = true := by simp
    rw [this] at e
    cases e
noncomputable def encBufK (h : T Blk) (t : T AV) (a : Nat) (k : T Blk → T AV → Nat → AV → Bool) : Bool :=
  getK (fun b => slK b (fun j p n c ex es => @Bool.rec (fun _ => Bool) (ifK (Nat.beq es 1) (ifK (Nat.beq p 0) (ifK (Nat.ble n c) (neK j a (blkK h j fun N u => ifK (Nat.beq n N) (bkeyK u n 5 fun ky => setK .dead 40 h j fun h => k h u n ky) false)) false) false) false) false ex) (k h .l 0 (.glob 5)) false) t 0
theorem encBufK_some {h : T Blk} {t : T AV} {a : Nat} {k : T Blk → T AV → Nat → AV → Bool} (e : encBufK h t a k = true) : ∃ h1 u n ky, EncBuf h h1 t a u n ky ∧ k h1 u n ky = true := by
  unfold encBufK at e
  replace e := getK_some e
  obtain ⟨b, hb, e⟩ := e
  replace e := slK_some e
  rcases e with ⟨j, p, n, c, ex, es, rfl, e⟩ | ⟨rfl, e⟩ | ⟨_, e⟩
  · cases ex with
    | true => cases e
    | false =>
      replace e := ifK_and e
      obtain ⟨h1, e⟩ := e
      have := beq_of h1; subst this
      replace e := ifK_and e
      obtain ⟨h2, e⟩ := e
      have := beq_of h2; subst this
      replace e := ifK_and e
      obtain ⟨h3, e⟩ := e
      replace e := neK_some e
      obtain ⟨h4, e⟩ := e
      replace e := blkK_some e
      obtain ⟨N, u, h5, e⟩ := e
      replace e := ifK_and e
      obtain ⟨h6, e⟩ := e
      have := beq_of h6; subst this
      replace e := bkeyK_some e
      obtain ⟨ky, h7, h9, e⟩ := e
      replace e := setK_some e
      obtain ⟨h', h8, e⟩ := e
      exact ⟨h', u, n, ky, .inr ⟨j, c, hb, ble_of h3, h5, h7, h9, h4, h8⟩, e⟩
  · exact ⟨h, .l, 0, _, .inl ⟨hb, rfl, rfl, rfl⟩, e⟩
  · cases e
/-- An encoder's function; what is done with the row is told by two parts. -/
noncomputable def gEncG {β : Type} (row : List AV → (β → Bool) → Bool) (fin : List AV → β → T Blk → Nat → T AV → T AV → Nat → AV → Nat → KV → Bool) : Orc := fun xs h nx k =>
  l2K xs (fun x y => rowE h nx y fun a rs => row rs fun cs => ptrK x fun i o => ifK (Nat.beq o 0) (neK a i (blkK h i fun n1 t => ifK (Nat.beq n1 1) (tyPK t 1 fun _ => encBufK h t a fun h u n ky => fin rs cs h i t u n ky nx k) false)) false) false
noncomputable def gEnc (row : List AV → (List AV → Bool) → Bool) : Orc := gEncG row fun _ cs h i t u n ky nx k => encFin h i t u n cs ky nx k
structure EncFin (h1 : T Blk) (i : Nat) (t u : T AV) (n : Nat) (cs : List AV) (ky : AV) (nx : Nat) (n2 : Nat) (u1 u2 t' : T AV) (h2 h3 : T Blk) : Prop where
  pos : 0 < n2
  n2_ : n2 = n + cs.length
  le : n2 ≤ 1000000
  wr : ∀ j, u1.get j = if n ≤ j ∧ j < n + cs.length then cs[j - n]? else u.get j
  key : Upd u1 (n2 + 7) ky u2
  nw : Upd h1 nx (.live n2 u2) h2
  cell : Upd t 0 (.sl nx 0 n2 n2 false 1) t'
  up : Upd h2 i (.live 1 t') h3
/-- How it ends, whatever was written. -/
structure EncEnd (E : Env) (h1 : T Blk) (i : Nat) (t u : T AV) (n : Nat) (nx n2 : Nat) (u2 t' : T AV) (h2 h3 : T Blk) (bq bs : List Int) : Prop where
  pos : 0 < n2
  n2_ : n2 = n + bs.length
  le : n2 ≤ 1000000
  low : ∀ k, k < n → ∀ av, u.get k = some av → u2.get k = some av ∨ u2.get k = some .any
  high : ∀ k, n ≤ k → k < n2 → ∃ av, u2.get k = some av ∧ ∀ ρ x, bs[k - n]? = some x → VR E ρ av (.int .u8 x)
  key : u2.get (n2 + 7) = some (.glob 5) ∨ ∃ l, u2.get (n2 + 7) = some (.ifc 5 (.agg l)) ∧ ∀ x ∈ l, ChL E (bq ++ bs) x
  nw : Upd h1 nx (.live n2 u2) h2
  cell : Upd t 0 (.sl nx 0 n2 n2 false 1) t'
  up : Upd h2 i (.live 1 t') h3
theorem EncFin.fin {E : Env} {ρ : Nat → Option Loc} {w : World} {h h1 h2 h3 : T Blk} {i a n n2 nx : Nat} {ty : Nat} {t t' u u1 u2 : T AV} {ky : AV} {L : Loc} {a1 : Option Addr} {bq bs : List Int} {cs : List AV}
    (D : EncFin h1 i t u n cs ky nx n2 u1 u2 t' h2 h3) (I : EncIn E ρ w h h1 i a n ty u ky L a1 bq) (hc : Cells8 E cs bs) (hkk : ky = .glob 5 ∨ ∃ l, ky = .ifc 5 (.agg l)) : EncEnd E h1 i t u n nx n2 u2 t' h2 h3 bq bs := by
  have hlen := hc.length
  have hn2 := D.n2_
  refine ⟨D.pos, by omega, D.le, fun k hk av hav => .inl ?_, fun k h1 h2 => ?_, ?_, D.nw, D.cell, D.up⟩
  · rw [D.key, if_neg (by omega), D.wr, if_neg (by omega)]; exact hav
  · have hcn : k - n < cs.length := by omega
    have hav : cs[k - n]? = some cs[k - n] := by simp
    refine ⟨cs[k - n], by rw [D.key, if_neg (by omega), D.wr, if_pos (by omega)]; exact hav, fun ρ' x hx => ?_⟩
    obtain ⟨v, r1, r2⟩ := (hc ρ').get hav
    rw [List.getElem?_map, hx] at r1
    injection r1 with r1; subst r1
    exact r2
  · have : u2.get (n2 + 7) = some ky := by rw [D.key, if_pos rfl]
    rcases hkk with rfl | ⟨l, rfl⟩
    · exact .inl this
    · exact .inr ⟨l, this, fun x hx => (I.ch l rfl x hx).app⟩
theorem encFin_some {h : T Blk} {i : Nat} {t u : T AV} {n : Nat} {cs : List AV} {ky : AV} {nx : Nat} {k : KV} (e : encFin h i t u n cs ky nx k = true) : ∃ n2 u1 u2 t' h2 h3, EncFin h i t u n cs ky nx n2 u1 u2 t' h2 h3 ∧ k (.tup []) h3 (nx + 1) = true := by
  unfold encFin at e
  rw [lenK_eq, Nat.zero_add, forceN_eq] at e
  replace e := ifK_and e
  obtain ⟨h0, e⟩ := e
  replace e := ifK_and e
  obtain ⟨h1, e⟩ := e
  replace e := writeK_some e
  obtain ⟨u1, h2, e⟩ := e
  rw [forceN_eq] at e
  replace e := setK_some e
  obtain ⟨u2, h3, e⟩ := e
  replace e := setK_some e
  obtain ⟨hh2, h4, e⟩ := e
  replace e := setK_some e
  obtain ⟨t', h5, e⟩ := e
  replace e := setK_some e
  obtain ⟨hh3, h6, e⟩ := e
  rw [forceN_eq] at e
  exact ⟨_, u1, u2, t', hh2, hh3, ⟨blt_of h0, rfl, ble_of h1, h2, h3, h4, h5, h6⟩, e⟩
theorem enc_post {E : Env} {ρ : Nat → Option Loc} {w w' : World} {h h1 h2 h3 : T Blk} {i a n n2 nx : Nat} {ty q : Nat} {t t' u u2 : T AV} {ky : AV} {L : Loc} {a1 : Option Addr} {bq bs : List Int} {X' F : List Nat} (hI : Inv E ρ h.get w) (hi : h.get i = some (.live 1 t)) (hk : t.get 8 = some (.ptr ty q))
    (I : EncIn E ρ w h h1 i a n ty u ky L a1 bq) (D : EncEnd E h1 i t u n nx n2 u2 t' h2 h3 bq bs) (hS : Step (L.b :: blkL a1) w (L.b :: blkL a1) X' w') (mo : MO o_codec_Enc ty (L.b :: blkL a1) w.heap.size X' w' F L.b ⟨bq ++ bs⟩) (hnx : ρ nx = none) (hix : i ≠ nx) :
    ∃ ρ', Stp ρ h.get w nx ρ' h3.get w' (nx + 1) ∧ Inv E ρ' h3.get w' := by
  have hbl := I.len
  have hpos := D.pos
  have hn2 := D.n2_
  obtain ⟨a2, m2, c3, ob, os, _, _, ap⟩ := o_codec_Enc_open mo
  obtain ⟨rfl, ⟨_, _, xs, ho, hx⟩, hW⟩ := os
  have hl2 : (bq ++ bs).length = n2 := by rw [List.length_append]; omega
  rcases ho.2 with ⟨_, h0⟩ | ⟨g, cap, cur, hv, _, hg, hnc, hcm, hcs, htake⟩
  · have h0 : (bq ++ bs).length = 0 := h0
    omega
  injection hv with e1 e2 e3
  subst e1; subst e3
  have hn1 : (rInt .u8).n = 1 := rfl
  rw [hn1, Nat.mul_one] at hcs
  rw [hn1, Nat.mul_one] at htake
  have hgW := hW g (by simp [blkL])
  have hne : L.b ≠ g := fun e => ap L.b (by simp) (by simp [blkL, e])
  have hxs := Flat.u8 hx
  rw [hl2] at htake hnc
  have hB := ob.2.1
  simp only at hB
  rw [hl2] at hB
  have hcur : ∀ k, k < n2 → ∃ x, (bq ++ bs)[k]? = some x ∧ cur[k]? = some (.int .u8 x) ∧ inR .u8 x := fun k hk' => by
    have hx0 : (bq ++ bs)[k]? = some (bq ++ bs)[k] := by simp
    refine ⟨(bq ++ bs)[k], hx0, ?_, ?_⟩
    · have e5 : (cur.toList.take n2)[k]? = some (.int .u8 (bq ++ bs)[k]) := by rw [htake, hxs, List.getElem?_map, hx0]; rfl
      rw [List.getElem?_take, if_pos hk', Array.getElem?_toList] at e5
      exact e5
    · obtain ⟨cs', hok, _⟩ := hx.get k (by simpa [hl2] using hk')
      exact hok.2
  have hT : u2.get (n2 + 7) = some (.glob 5) ∨ ∃ l, u2.get (n2 + 7) = some (.ifc 5 (.agg l)) ∧ ∀ x ∈ l, ChAt E cur n2 x := by
    rcases D.key with hk | ⟨l, hk, hch⟩
    · exact .inl hk
    · refine .inr ⟨l, hk, fun x hx => ?_⟩
      rw [← hl2]
      refine (hch x hx).at fun k b hb => ?_
      have hkl := (List.getElem?_eq_some_iff.1 hb).1
      obtain ⟨y, e1, e2, _⟩ := hcur k (by omega)
      rw [hb] at e1; injection e1 with e1; subst e1
      exact e2
  refine ⟨_, enc_step hI I.hl I.hG (I.hi _ _ hi) I.hL hk hS.evo hB hne (hgW.imp (fun hm => (List.mem_cons.1 hm).resolve_left (fun e => hne e.symm)) id) hg hnc hcm hcs (fun k hk' => ?_) hT hnx hix D.nw D.cell D.up⟩
  obtain ⟨x, e1, e2, e3⟩ := hcur k hk'
  have e3 := inR_u8.1 e3
  by_cases hkn : k < n
  · obtain ⟨av, y, r1, r2, r3⟩ := I.rd k hkn
    rw [List.getElem?_append_left (by omega), r2] at e1
    injection e1 with e1; subst e1
    rcases D.low k hkn av r1 with r4 | r4
    · exact ⟨av, y, r4, by omega, by omega, e2, fun ρ' hρ => r3.ext hρ⟩
    · exact ⟨.any, y, r4, by omega, by omega, e2, fun ρ' _ => by simp only [VR]; rfl⟩
  · obtain ⟨av, r1, r2⟩ := D.high k (by omega) hk'
    rw [List.getElem?_append_right (by omega), hbl] at e1
    exact ⟨av, x, r1, by omega, by omega, e2, fun ρ' _ => r2 ρ' x e1⟩

theorem EncBuf.fresh {h h1 : T Blk} {t : T AV} {a nx : Nat} {u : T AV} {n : Nat} {ky : AV} (hb : EncBuf h h1 t a u n ky) (hf : Fresh h nx) : Fresh h1 nx := by
  rcases hb with ⟨_, rfl, _⟩ | ⟨j, c, _, _, hj, _, _, _, hu⟩
  · exact hf
  · exact hf.set hu (hf.lt hj)
/-- Where the arguments lie. -/
theorem gEncG_some {β : Type} {E : Env} {row : List AV → (β → Bool) → Bool} {fin : List AV → β → T Blk → Nat → T AV → T AV → Nat → AV → Nat → KV → Bool} {xs : List AV} {h : T Blk} {nx : Nat} {k : KV} (e : gEncG row fin xs h nx k = true) (hf : Fresh h nx) : ∃ (rs : List AV) (c : β → Bool), row rs c = true ∧ ∀ cs, c cs = true →
    ∃ a i t ty q u n h1 ky, fin rs cs h1 i t u n ky nx k = true ∧ i < nx ∧ Fresh h1 nx ∧ h.get i = some (.live 1 t) ∧ t.get 8 = some (.ptr ty q) ∧ EncBuf h h1 t a u n ky ∧ rs.length ≤ 1000 ∧
    ∀ ρ w vs, Inv E ρ h.get w → VRs E ρ xs vs → ∃ (L : Loc) (al : Option Addr) (cc : Nat) (ys : List Value), ρ i = some L ∧ vs = [.pointer (some ⟨L.b, L.o + 0, none⟩), .slice al rs.length cc] ∧ VRs E ρ rs ys ∧ ∀ l : List Nat, (∀ (R : Loc) m v, a ≠ i → h.get a = some (.live m v) → ρ a = some R → R.b ∉ l) →
      ∀ {α : Type} (R : Rep α) (Ls : List α), Ls.length = rs.length → Flat R l w ys Ls → Sl R l w al cc Ls := by
  unfold gEncG at e
  replace e := l2K_some e
  rcases e with ⟨x, y, rfl, e⟩ | e
  rotate_left
  · cases e
  obtain ⟨a, rs, nr, e, hl, hn, hrow⟩ := rowE_some (E := E) e
  refine ⟨rs, _, e, fun cs f => ?_⟩
  replace f := ptrK_some f
  obtain ⟨i, o, rfl, f⟩ := f
  replace f := ifK_and f
  obtain ⟨h0, f⟩ := f
  have := beq_of h0; subst this
  replace f := neK_some f
  obtain ⟨hai, f⟩ := f
  replace f := blkK_some f
  obtain ⟨n1, t, hi, f⟩ := f
  replace f := ifK_and f
  obtain ⟨h1, f⟩ := f
  have := beq_of h1; subst this
  replace f := tyPK_some f
  obtain ⟨ty, q, hk, f⟩ := f
  replace f := encBufK_some f
  obtain ⟨hh1, u, n, ky, hb, f⟩ := f
  have hlt := hf.lt hi
  refine ⟨a, i, t, ty, q, u, n, hh1, ky, f, hlt, hb.fresh hf, hi, hk, hb, by omega, fun ρ w vs hI hvs => ?_⟩
  simp only [VRs] at hvs
  obtain ⟨v1, r1, hv1, ⟨v2, r2, hv2, rfl, rfl⟩, rfl⟩ := hvs
  simp only [VR] at hv1
  obtain ⟨L, hL, rfl⟩ := hv1
  obtain ⟨al, cc, ys, rfl, g1, g2, g3, g4⟩ := hrow ρ w v2 hI hv2
  subst hl
  refine ⟨L, al, cc, ys, hL, rfl, g3, fun l hap {α} R Ls hLs hfl => ⟨by omega, g2, ?_⟩⟩
  rcases g4 with ⟨rfl, g4⟩ | ⟨m, v, M, o, g5, g6, rfl, g7, g8⟩
  · exact .inl ⟨List.eq_nil_of_length_eq_zero (by simpa using hLs), g4⟩
  · exact .inr ⟨M.b, o, ys, rfl, hap M m v hai g5 g6, g7, g8, hfl⟩
theorem encInt_orc {E : Env} {F : Facts} : FnRel Tryz.prog E F 130 (.orc (gEnc numsK)) := by
  refine .orc fun xs h nx k hk hfr => ?_
  obtain ⟨rs, c, hrow, hk⟩ := gEncG_some (E := E) hk hfr
  obtain ⟨Ls, cs, hc, hll, hin, hvals, h8⟩ := numsK_some (E := E) hrow
  obtain ⟨a, i, t, ty, q, u, n, h1, ky, hk, hlt, hf1, hi, hkey, hb, hrs, hargs⟩ := hk cs hc
  replace hk := encFin_some hk
  obtain ⟨n2, u1, u2, t', h2, h3, D, hk⟩ := hk
  have hfr' : Fresh h3 (nx + 1) := (Fresh.new hf1 D.nw).set D.up (by omega)
  have hix : i ≠ nx := by omega
  have hf : FnHas Tryz.prog 130 := ⟨_, Tryz.func130, by kernel_rfl, by kernel_rfl⟩
  refine ⟨_, h3, nx + 1, hk, hfr', Nat.le_succ _, .inl ⟨hf, fun ρ w vs hfree hI hvs => ?_⟩⟩
  obtain ⟨L, a1, bq, I⟩ := enc_pre hI hi hkey hb
  obtain ⟨L', al, cc, ys, hL', rfl, g5, g6⟩ := hargs ρ w vs hI hvs
  rw [I.hL] at hL'; injection hL' with hL'; subst hL'
  have hys := hvals ρ ys g5
  subst hys
  have hSl : Sl (rInt .i64) (L.b :: blkL a1) w al cc Ls := g6 _ I.apart _ _ hll (flat_ints _ hin)
  have hbl := I.len
  have hn2 := D.n2_
  have hle := D.le
  have hpre : codec_Enc_Int_p ⟨bq⟩ Ls fun d => d = ⟨bq ++ encIs Ls⟩ := EncInt_p (by simp only; omega) rfl
  have hw := codec_Enc_Int_w I.old I.mo hSl hpre
  rw [show ([Value.pointer (some ⟨L.b, L.o + 0, none⟩), .slice al rs.length cc] : List Value).toArray = #[.pointer (some ⟨L.b, 0, none⟩), .slice al Ls.length cc] from by rw [I.o0, hll]]
  refine hw.mono ?_
  rintro e w' ⟨v, rfl, d, rfl, X', F', hS, rfl, mo⟩
  obtain ⟨ρ', s1, s2⟩ := enc_post hI hi hkey I (D.fin I h8 hb.key) hS mo (hfree nx (Nat.le_refl _) (Nat.lt_succ_self _)) hix
  exact ⟨_, rfl, ρ', s1, s2, by simp only [VR]; exact ⟨[], VRs.nil, rfl⟩⟩
theorem encText_orc {E : Env} {F : Facts} : FnRel Tryz.prog E F 131 (.orc (gEnc textsK)) := by
  refine .orc fun xs h nx k hk hfr => ?_
  obtain ⟨rs, c, hrow, hk⟩ := gEncG_some (E := E) hk hfr
  obtain ⟨Ls, cs, hc, hll, hin, hvals, h8⟩ := textsK_some (E := E) hrow
  obtain ⟨a, i, t, ty, q, u, n, h1, ky, hk, hlt, hf1, hi, hkey, hb, hrs, hargs⟩ := hk cs hc
  replace hk := encFin_some hk
  obtain ⟨n2, u1, u2, t', h2, h3, D, hk⟩ := hk
  have hfr' : Fresh h3 (nx + 1) := (Fresh.new hf1 D.nw).set D.up (by omega)
  have hix : i ≠ nx := by omega
  have hf : FnHas Tryz.prog 131 := ⟨_, Tryz.func131, by kernel_rfl, by kernel_rfl⟩
  refine ⟨_, h3, nx + 1, hk, hfr', Nat.le_succ _, .inl ⟨hf, fun ρ w vs hfree hI hvs => ?_⟩⟩
  obtain ⟨L, a1, bq, I⟩ := enc_pre hI hi hkey hb
  obtain ⟨L', al, cc, ys, hL', rfl, g5, g6⟩ := hargs ρ w vs hI hvs
  rw [I.hL] at hL'; injection hL' with hL'; subst hL'
  have hys := hvals ρ ys g5
  subst hys
  have flat : ∀ l : List ByteArray, (∀ s ∈ l, s.size ≤ 1000000) → Flat rStr (L.b :: blkL a1) w (l.map Value.string) l := fun l => by
    induction l with
    | nil => intro _; exact Flat.nil
    | cons s l ih => intro h; exact Flat.cons1 (rStr_mk (by have := h s (by simp); unfold maxLen; omega)) (ih fun x hx => h x (by simp [hx]))
  have hSl : Sl rStr (L.b :: blkL a1) w al cc Ls := g6 _ I.apart _ _ hll (flat _ hin)
  have hbl := I.len
  have hn2 := D.n2_
  have hle := D.le
  have hpre : codec_Enc_Text_p ⟨bq⟩ Ls fun d => d = ⟨bq ++ Ls.flatMap encT⟩ := EncTexts_p hin (by simp only; omega) rfl
  have hw := codec_Enc_Text_w I.old I.mo hSl hpre
  rw [show ([Value.pointer (some ⟨L.b, L.o + 0, none⟩), .slice al rs.length cc] : List Value).toArray = #[.pointer (some ⟨L.b, 0, none⟩), .slice al Ls.length cc] from by rw [I.o0, hll]]
  refine hw.mono ?_
  rintro e w' ⟨v, rfl, d, rfl, X', F', hS, rfl, mo⟩
  obtain ⟨ρ', s1, s2⟩ := enc_post hI hi hkey I (D.fin I h8 hb.key) hS mo (hfree nx (Nat.le_refl _) (Nat.lt_succ_self _)) hix
  exact ⟨_, rfl, ρ', s1, s2, by simp only [VR]; exact ⟨[], VRs.nil, rfl⟩⟩

/-! ### Rows of texts that are kept as they are -/
theorem vbF_len {v : Nat} (h : v < 2097152) : (vbF 10 v).length = if v < 128 then 1 else if v < 16384 then 2 else 3 := by
  by_cases h1 : v < 128
  · rw [if_pos h1]; simp [vbF, h1]
  · rw [if_neg h1, vbF, if_neg h1, List.length_cons]
    by_cases h2 : v < 16384
    · have h3 : v / 128 < 128 := by omega
      rw [if_pos h2]; simp [vbF, h3]
    · have h3 : ¬ v / 128 < 128 := by omega
      have h4 : v / 128 / 128 < 128 := by omega
      rw [if_neg h2, vbF, if_neg h3, List.length_cons]; simp [vbF, h4]
noncomputable def lenV (u : Nat) : Nat := @Bool.rec (fun _ => Nat) (@Bool.rec (fun _ => Nat) 3 2 (Nat.blt u 16384)) 1 (Nat.blt u 128)
theorem lenV_eq (u : Nat) : lenV u = if u < 128 then 1 else if u < 16384 then 2 else 3 := by
  unfold lenV
  cases h1 : Nat.blt u 128 with
  | true => rw [if_pos (blt_of h1)]
  | false =>
    rw [if_neg (bltF h1)]
    cases h2 : Nat.blt u 16384 with
    | true => rw [if_pos (blt_of h2)]
    | false => rw [if_neg (bltF h2)]
/-- How many bytes the texts are, as they are written. -/
noncomputable def lenT (l : List AV) : (Nat → Bool) → Bool :=
  @List.rec AV (fun _ => (Nat → Bool) → Bool) (fun k => k 0) (fun v _ ih k => ih fun acc => strK v fun s => lenK s 0 fun n => ifK (Nat.ble n 1000000) (forceN (Nat.mul 2 n) fun u => forceN (Nat.add (Nat.add n acc) (lenV u)) k) false) l
theorem lenT_some {E : Env} : ∀ {l : List AV} {k : Nat → Bool}, lenT l k = true → ∃ S : List (List Nat), l = S.map AV.str ∧ (∀ s ∈ S, s.length ≤ 1000000) ∧ k (l.flatMap (codeT E)).length = true
  | [], k, h => ⟨[], rfl, fun _ h => (by cases h), h⟩
  | v :: l, k, h => by
    obtain ⟨S, h1, h2, g⟩ := lenT_some (E := E) (l := l) (k := fun acc => strK v fun s => lenK s 0 fun n => ifK (Nat.ble n 1000000) (forceN (Nat.mul 2 n) fun u => forceN (Nat.add (Nat.add n acc) (lenV u)) k) false) h
    replace g := strK_some g
    obtain ⟨s, rfl, g⟩ := g
    rw [lenK_eq, Nat.zero_add] at g
    obtain ⟨hn, g⟩ := ifK_and g
    have hn := ble_of hn
    rw [forceN_eq, forceN_eq, lenV_eq] at g
    refine ⟨s :: S, by rw [h1]; rfl, fun x hx => ?_, ?_⟩
    · rcases List.mem_cons.1 hx with rfl | hx
      · exact hn
      · exact h2 x hx
    · have e : (codeT E (.str s)).length = (if 2 * s.length < 128 then 1 else if 2 * s.length < 16384 then 2 else 3) + s.length := by
        show ((vbF 10 (2 * s.length)).map (fun x : Nat => (x : Int)) ++ s.map fun m => ((E.byte m).toNat : Int)).length = _
        rw [List.length_append, List.length_map, List.length_map, vbF_len (by omega)]
      rw [List.flatMap_cons, List.length_append, e]
      have e2 : Nat.add (Nat.add s.length (l.flatMap (codeT E)).length) (if Nat.mul 2 s.length < 128 then 1 else if Nat.mul 2 s.length < 16384 then 2 else 3) = (if 2 * s.length < 128 then 1 else if 2 * s.length < 16384 then 2 else 3) + s.length + (l.flatMap (codeT E)).length := by
        show s.length + (l.flatMap (codeT E)).length + (if 2 * s.length < 128 then 1 else if 2 * s.length < 16384 then 2 else 3) = _
        omega
      rw [e2] at g; exact g
/-- The cells that are known go over, each at its place. -/
def Reb (u : T AV) (n : Nat) (r r' : T AV) : Prop := ∀ j, r'.get j = r.get j ∨ (j < n ∧ ∃ av, u.get j = some av ∧ r'.get j = some av)
theorem Reb.trans {u r r' r'' : T AV} {n : Nat} (h : Reb u n r r') (k : Reb u n r' r'') : Reb u n r r'' := fun j => by
  rcases k j with e | e
  · rw [e]; exact h j
  · exact .inr e
noncomputable def segK (u : T AV) (n a e : Nat) (r : T AV) (k : T AV → Bool) : Bool := ifK (Nat.ble e n) (forceN (Nat.sub e a) fun m => readK u m a fun cs => writeK cs r a k) false
theorem segK_some {u r : T AV} {n a e : Nat} {k : T AV → Bool} (h : segK u n a e r k = true) : ∃ r', Reb u n r r' ∧ k r' = true := by
  unfold segK at h
  obtain ⟨he, h⟩ := ifK_and h
  have he := ble_of he
  rw [forceN_eq] at h
  obtain ⟨cs, hl, hg, h⟩ := readK_some h
  obtain ⟨r', hr, h⟩ := writeK_some h
  have hl : cs.length = e - a := hl
  refine ⟨r', fun j => ?_, h⟩
  rw [hr]
  by_cases hj : a ≤ j ∧ j < a + cs.length
  · have hc : cs[j - a]? = some (cs[j - a]'(by omega)) := List.getElem?_eq_getElem _
    refine .inr ⟨by omega, cs[j - a]'(by omega), ?_, by rw [if_pos hj]; exact hc⟩
    have := hg (j - a) (by show j - a < e - a; omega)
    rw [show a + (j - a) = j from by omega] at this
    rw [this]; exact hc
  · exact .inl (by rw [if_neg hj])
noncomputable def descK (x : AV) (k : Nat → Nat → Bool) : Bool := tupK x fun l => l2K l (fun a _ => ptrK a k) false
theorem descK_some {x : AV} {k : Nat → Nat → Bool} (h : descK x k = true) : ∃ p q, k p q = true := by
  unfold descK at h
  obtain ⟨l, _, h⟩ := tupK_some h
  rcases l2K_some h with ⟨a, b, _, h⟩ | h
  · obtain ⟨p, q, _, h⟩ := ptrK_some h
    exact ⟨p, q, h⟩
  · cases h
noncomputable def rebR (u : T AV) (n : Nat) (l : List AV) : Nat → T AV → (T AV → Bool) → Bool :=
  @List.rec AV (fun _ => Nat → T AV → (T AV → Bool) → Bool) (fun e r k => segK u n 0 e r k) (fun x _ ih e r k => descK x fun p q => segK u n q e r fun r => ih p r k) l
theorem rebR_some {u : T AV} {n : Nat} : ∀ {l : List AV} {e : Nat} {r : T AV} {k : T AV → Bool}, rebR u n l e r k = true → ∃ r', Reb u n r r' ∧ k r' = true
  | [], _, _, _, h => segK_some h
  | x :: l, e, r, k, h => by
    obtain ⟨p, q, h⟩ := descK_some (k := fun p q => segK u n q e r fun r => rebR u n l p r k) h
    obtain ⟨r1, h1, h⟩ := segK_some h
    obtain ⟨r2, h2, h⟩ := rebR_some (l := l) h
    exact ⟨r2, h1.trans h2, h⟩
noncomputable def segsOf (ky : AV) (k : List AV → Bool) : Bool := ifcE ky (fun _ y => aggE y k (k [])) (k [])
theorem segsOf_some {ky : AV} {k : List AV → Bool} (h : segsOf ky k = true) : ∃ l, (l = [] ∨ ∃ t, ky = .ifc t (.agg l)) ∧ k l = true := by
  unfold segsOf at h
  rcases ifcE_some h with ⟨t, v, rfl, h⟩ | h
  · rcases aggE_some h with ⟨l, rfl, h⟩ | h
    · exact ⟨l, .inr ⟨t, rfl⟩, h⟩
    · exact ⟨[], .inl rfl, h⟩
  · exact ⟨[], .inl rfl, h⟩
noncomputable def encFinC (rs : List AV) (m : Nat) (h : T Blk) (i : Nat) (t u : T AV) (n : Nat) (ky : AV) (nx : Nat) (k : KV) : Bool :=
  forceN (Nat.add n m) fun n2 => ifK (Nat.blt 0 n2) (ifK (Nat.ble n2 1000000) (segsOf ky fun l => rebR u n l n (.u .any) fun u => forceN (Nat.add n2 7) fun q => setK (.ifc 5 (.agg (.tup [.ptr n n2, .agg rs] :: l))) 40 u q fun u => setK (.live n2 u) 40 h nx fun h => setK (.sl nx 0 n2 n2 false 1) 40 t 0 fun t => setK (.live 1 t) 40 h i fun h => forceN (Nat.succ nx) fun nx => k (.tup []) h nx) false) false
theorem encFinC_some {rs : List AV} {m : Nat} {h1 : T Blk} {i : Nat} {t u : T AV} {n : Nat} {ky : AV} {nx : Nat} {k : KV} (e : encFinC rs m h1 i t u n ky nx k = true) :
    ∃ u2 t' h2 h3, k (.tup []) h3 (nx + 1) = true ∧ Upd h1 nx (.live (n + m) u2) h2 ∧ Upd h2 i (.live 1 t') h3 ∧ ∀ {E : Env} {ρ : Nat → Option Loc} {w : World} {h : T Blk} {a : Nat} {ty : Nat} {L : Loc} {a1 : Option Addr} {bq bs : List Int}, EncIn E ρ w h h1 i a n ty u ky L a1 bq → (ky = .glob 5 ∨ ∃ l, ky = .ifc 5 (.agg l)) → bs = rs.flatMap (codeT E) → bs.length = m → EncEnd E h1 i t u n nx (n + m) u2 t' h2 h3 bq bs := by
  unfold encFinC at e
  rw [forceN_eq] at e
  have en : Nat.add n m = n + m := rfl
  rw [en] at e
  obtain ⟨g0, e⟩ := ifK_and e
  obtain ⟨g1, e⟩ := ifK_and e
  obtain ⟨l, hl, e⟩ := segsOf_some e
  obtain ⟨u1, hr, e⟩ := rebR_some e
  rw [forceN_eq] at e
  obtain ⟨u2, hu, e⟩ := setK_some e
  obtain ⟨h2, hn, e⟩ := setK_some e
  obtain ⟨t', ht, e⟩ := setK_some e
  obtain ⟨h3, hp, e⟩ := setK_some e
  rw [forceN_eq] at e
  refine ⟨u2, t', h2, h3, e, hn, hp, fun {E ρ w h a ty L a1 bq bs} I hkk hbs hm => ?_⟩
  have hq : Nat.add (n + m) 7 = n + m + 7 := rfl
  rw [hq] at hu
  have hbl := I.len
  refine ⟨blt_of g0, by rw [hm], ble_of g1, fun k hk av hav => ?_, fun k h1 h2 => ?_, .inr ⟨_, by rw [hu, if_pos rfl], fun x hx => ?_⟩, hn, ht, hp⟩
  · rw [hu, if_neg (by omega)]
    rcases hr k with e | ⟨_, av', e1, e2⟩
    · exact .inr (by rw [e, T.get_u])
    · rw [hav] at e1; injection e1 with e1; subst e1
      exact .inl e2
  · refine ⟨.any, ?_, fun ρ' x _ => by simp only [VR]; rfl⟩
    rw [hu, if_neg (by omega)]
    rcases hr k with e | ⟨e, _⟩
    · rw [e, T.get_u]
    · omega
  · rcases List.mem_cons.1 hx with rfl | hx
    · intro p q l' hx'
      injection hx' with hx'
      injection hx' with x1 x2
      injection x1 with x1 x1'
      injection x2 with x2 _
      injection x2 with x2
      subst x1; subst x1'; subst x2
      rw [← hbs]
      refine ⟨by omega, by rw [List.length_append]; omega, fun j b hj => ?_⟩
      rw [List.getElem?_append_right (by omega), show n + j - bq.length = j from by omega]
      exact hj
    · rcases hl with rfl | ⟨t0, hky⟩
      · cases hx
      · rcases hkk with h | ⟨l0, h⟩
        · rw [h] at hky; cases hky
        · rw [h] at hky; injection hky with _ hky; injection hky with hky; subst hky
          exact (I.ch _ h x hx).app
/-- Two at least. -/
noncomputable def severK (l : List AV) (a b : Bool) : Bool := @List.rec AV (fun _ => Bool) b (fun _ r _ => @List.rec AV (fun _ => Bool) b (fun _ _ _ => a) r) l
theorem severK_some {l : List AV} {a b : Bool} (h : severK l a b = true) : a = true ∨ b = true := by
  match l, h with
  | [], h => exact .inr h
  | [_], h => exact .inr h
  | _ :: _ :: _, h => exact .inl h
noncomputable def gEncC : Orc := gEncG lenT fun rs m h i t u n ky nx k => encFinC rs m h i t u n ky nx k
noncomputable def gEncTexts : Orc := fun xs h nx k => l2K xs (fun _ y => rowE h nx y fun _ rs => severK rs (gEncC xs h nx k) (gEnc textsK xs h nx k)) false
theorem encTexts_orc {E : Env} {F : Facts} : FnRel Tryz.prog E F 131 (.orc gEncTexts) := by
  refine .orc fun xs h nx k hk hfr => ?_
  have hor : gEncC xs h nx k = true ∨ gEnc textsK xs h nx k = true := by
    unfold gEncTexts at hk
    rcases l2K_some hk with ⟨x, y, rfl, hk⟩ | hk
    · obtain ⟨_, _, _, hk, _⟩ := rowE_some (E := E) hk
      exact severK_some hk
    · cases hk
  rcases hor with hk | hk
  rotate_left
  · have := encText_orc (E := E) (F := F)
    cases this with
    | orc hg => exact hg xs h nx k hk hfr
  obtain ⟨rs, c, hrow, hk⟩ := gEncG_some (E := E) hk hfr
  obtain ⟨S, hS, hin0, hc⟩ := lenT_some (E := E) hrow
  obtain ⟨a, i, t, ty, q, u, n, h1, ky, hk, hlt, hf1, hi, hkey, hb, hrs, hargs⟩ := hk _ hc
  obtain ⟨u2, t', h2, h3, hk, D1, D2, D⟩ := encFinC_some hk
  have hfr' : Fresh h3 (nx + 1) := (Fresh.new hf1 D1).set D2 (by omega)
  have hix : i ≠ nx := by omega
  have hf : FnHas Tryz.prog 131 := ⟨_, Tryz.func131, by kernel_rfl, by kernel_rfl⟩
  refine ⟨_, h3, nx + 1, hk, hfr', Nat.le_succ _, .inl ⟨hf, fun ρ w vs hfree hI hvs => ?_⟩⟩
  obtain ⟨L, a1, bq, I⟩ := enc_pre hI hi hkey hb
  obtain ⟨L', al, cc, ys, hL', rfl, g5, g6⟩ := hargs ρ w vs hI hvs
  rw [I.hL] at hL'; injection hL' with hL'; subst hL'
  have hstr : ∀ {S : List (List Nat)} {ys : List Value}, VRs E ρ (S.map AV.str) ys → ys = (S.map E.bytes).map Value.string := fun {S} => by
    induction S with
    | nil => intro ys h; simpa [VRs] using h
    | cons s S ih =>
      intro ys h
      simp only [List.map_cons, VRs, VR] at h
      obtain ⟨_, r, rfl, hr, rfl⟩ := h
      rw [ih hr]; rfl
  rw [hS] at g5
  have hys := hstr g5
  subst hys
  have hll : (S.map E.bytes).length = rs.length := by rw [hS, List.length_map, List.length_map]
  have hin : ∀ s ∈ S.map E.bytes, s.size ≤ 1000000 := fun s hs => by
    obtain ⟨x, hx, rfl⟩ := List.mem_map.1 hs
    rw [bytes_size]; exact hin0 x hx
  have flat : ∀ l : List ByteArray, (∀ s ∈ l, s.size ≤ 1000000) → Flat rStr (L.b :: blkL a1) w (l.map Value.string) l := fun l => by
    induction l with
    | nil => intro _; exact Flat.nil
    | cons s l ih => intro h; exact Flat.cons1 (rStr_mk (by have := h s (by simp); unfold maxLen; omega)) (ih fun x hx => h x (by simp [hx]))
  have hSl : Sl rStr (L.b :: blkL a1) w al cc (S.map E.bytes) := g6 _ I.apart _ _ hll (flat _ hin)
  have hbl := I.len
  have hcode : (S.map E.bytes).flatMap encT = rs.flatMap (codeT E) := by rw [hS, code_eq hin0]
  have DE := D I hb.key hcode (by rw [hcode])
  have hle := DE.le
  have hpre : codec_Enc_Text_p ⟨bq⟩ (S.map E.bytes) fun d => d = ⟨bq ++ (S.map E.bytes).flatMap encT⟩ := EncTexts_p hin (by simp only; omega) rfl
  have hw := codec_Enc_Text_w I.old I.mo hSl hpre
  rw [show ([Value.pointer (some ⟨L.b, L.o + 0, none⟩), .slice al rs.length cc] : List Value).toArray = #[.pointer (some ⟨L.b, 0, none⟩), .slice al (S.map E.bytes).length cc] from by rw [I.o0, hll]]
  refine hw.mono ?_
  rintro e w' ⟨v, rfl, d, rfl, X', F', hSt, rfl, mo⟩
  obtain ⟨ρ', s1, s2⟩ := enc_post hI hi hkey I DE hSt mo (hfree nx (Nat.le_refl _) (Nat.lt_succ_self _)) hix
  exact ⟨_, rfl, ρ', s1, s2, by simp only [VR]; exact ⟨[], VRs.nil, rfl⟩⟩
end Go.Proofs.YtdnahdcjnahfkaaGreatDoor.Ev
set_option linter.unusedVariables false
set_option linter.unusedSimpArgs false
namespace Go.Proofs.YtdnahdcjnahfkaaGreatDoor
open Go

theorem elTs : ElemT Tryz.prog 37 9 1 16 := elemT_mk (i := Tryz.t9) (z := (.string (ByteArray.mk #[]))) (by kernel_rfl) (by kernel_rfl) (by kernel_rfl) (by kernel_rfl) Tryz.underlying37 Tryz.sizeOf9 (by decide) (by decide)
/-- There is no error. -/
theorem dErr_w {w : World} {b : Nat} {v0 v1 : Value} (hB : Blk w b [v0, v1, .nilIface] 213) :
    Calls Tryz.prog 151 #[.pointer (some ⟨b, 0, none⟩)] w (Ret fun v w' => v = .nilIface ∧ w' = w) := by
  refine enter_ Tryz.func151 rfl 7 [(0, (.pointer (some ⟨b, 0, none⟩)))] (by kernel_rfl) (fun Qe hQ => ?_)
  refine seq_ (fun _ K1 => ?_)
  refine reg_ ?_
  refine sq (o_pv .nilIface rfl (by kernel_rfl) ?_)
  refine nil_ ?_
  refine then_normal (K1 _ _ _ _ ?_)
  refine seq_ (fun _ K2 => ?_)
  refine reg_ ?_
  refine sq (o_pv (.pointer (some ⟨b, 0, none⟩)) rfl (by kernel_rfl) ?_)
  refine sq (o_pv (.pointer (some ⟨b, 0, none⟩)) rfl (by kernel_rfl) ?_)
  refine sq (o_pv (.pointer (some ⟨b, 2, none⟩)) rfl (by kernel_rfl) ?_)
  refine sq (o_pv .nilIface rfl (x_load1 (by kernel_rfl) Tryz.isAgg46 (hB.cell' 2 rfl)) ?_)
  refine sq (o_pv .nilIface rfl (by kernel_rfl) ?_)
  refine nil_ ?_
  refine then_normal (K2 _ _ _ _ ?_)
  refine wp_ret ?_
  refine end_ret hQ .nilIface (by kernel_rfl) ?_
  exact ⟨rfl, rfl⟩
/-- 'x[:len(x):len(x)]'. -/
theorem clipS_w {w : World} {a : Option Addr} {n c : Nat} (hc : n ≤ c) :
    Calls Tryz.prog 127 #[.slice a n c] w (Ret fun v w' => v = .slice a n n ∧ w' = w) := by
  refine enter_ Tryz.func127 rfl 9 [(0, (.slice a n c))] (by kernel_rfl) (fun Qe hQ => ?_)
  refine seq_ (fun _ K1 => ?_)
  refine reg_ ?_
  refine sq (o_pv (.slice none 0 0) rfl (by kernel_rfl) ?_)
  refine nil_ ?_
  refine then_normal (K1 _ _ _ _ ?_)
  refine seq_ (fun _ K2 => ?_)
  refine reg_ ?_
  refine sq (o_pv (.slice a n c) rfl (by kernel_rfl) ?_)
  refine sq (o_pv (.slice a n c) rfl (by kernel_rfl) ?_)
  refine sq (o_pv (.int .i64 (n : Int)) rfl (by kernel_rfl) ?_)
  refine sq (o_pv (.slice a n c) rfl (by kernel_rfl) ?_)
  refine sq (o_pv (.int .i64 (n : Int)) rfl (by kernel_rfl) ?_)
  have hs := fun f u dst ty pos aft gd h1 h2 h3 => x_slice (P := Tryz.prog) (w := w) (n := 9) (f := f) (u := u) (dst := dst) (ty := ty) (pos := pos) (aft := aft) (gd := gd) (t := 37) (x := .tmp 3) (a := a) (c := c) (m := n) (lx := none) (hx := some (.tmp 5)) (mxx := some (.tmp 7)) (lo := 0) (hi := n) (mx := n) Tryz.underlying37 Tryz.sizeOf9 h1 (.inl ⟨rfl, rfl⟩) (.inr ⟨.i64, h2⟩) (.inr ⟨.i64, h3⟩) hc (Nat.zero_le _) (Nat.le_refl _) hc
  refine sq (o_pv (.slice a n n) rfl ((hs _ _ _ _ _ _ _ (by kernel_rfl) (by kernel_rfl) (by kernel_rfl)).trans ?_) ?_)
  · rw [a_add0]; rfl
  refine sq (o_pv (.slice a n n) rfl (by kernel_rfl) ?_)
  refine nil_ ?_
  refine then_normal (K2 _ _ _ _ ?_)
  refine wp_ret ?_
  refine end_ret hQ (.slice a n n) (by kernel_rfl) ?_
  exact ⟨rfl, rfl⟩

section
variable {a0 : Option Addr} {c0 : Nat}
/-- A decoder without an error, at a place of its bytes. -/
structure DI (a0 : Option Addr) (c0 : Nat) (X : List Nat) (w : World) (bd : Nat) (bq : List Int) (p : Int) : Prop where
  mem : bd ∈ X
  blk : Blk w bd [.slice a0 bq.length c0, .int .i64 p, .nilIface] 213
  sl : Sl (rInt .u8) X w a0 c0 bq
  rg : inR .i64 p
theorem DI.mo {X : List Nat} {w : World} {bd : Nat} {bq : List Int} {p : Int} (h : DI a0 c0 X w bd bq p) : MO (o_codec_Dec a0 c0) 213 [bd] w.heap.size X w [bd] bd ⟨bq, p, .nil⟩ :=
  o_codec_Dec_mk ⟨h.mem, h.blk, fun x hx => .inl hx⟩ h.sl rfl h.rg rErr_nil
theorem DI.of_ {X F G : List Nat} {w : World} {B bd : Nat} {bq : List Int} {p : Int} (h : MO (o_codec_Dec a0 c0) 213 G B X w F bd ⟨bq, p, .nil⟩) : DI a0 c0 X w bd bq p := by
  obtain ⟨v5, ob, h1, h2, he, _⟩ := o_codec_Dec_open h
  have hv5 : v5 = .nilIface := by simp only [rErr] at he; injection he
  subst hv5
  exact ⟨ob.1, ob.2.1, h1, h2⟩
theorem DI.step {X F X' : List Nat} {w w' : World} {bd : Nat} {bq : List Int} {p : Int} (h : DI a0 c0 X w bd bq p) (s : Step X w F X' w') (hf : bd ∉ F) : DI a0 c0 X' w' bd bq p :=
  ⟨s.up _ h.mem, h.blk.evo s.evo hf, h.sl.step s, h.rg⟩
theorem DI.step0 {X X' : List Nat} {w w' : World} {bd : Nat} {bq : List Int} {p : Int} (h : DI a0 c0 X w bd bq p) (s : Step X w [] X' w') : DI a0 c0 X' w' bd bq p := h.step s (by simp)

/-- One text more. -/
theorem one_w {X G3 : List Nat} {w : World} {B B3 bd b1 b3 br n c : Nat} {bad : Value} {a : Option Addr} {L : List ByteArray} {bq : List Int} {p p2 : Int} {s : ByteArray} (hX : Old X w) (hD : DI a0 c0 X w bd bq p)
    (h1 : Blk w b1 [.pointer (some ⟨br, 0, none⟩)] 139) (hr : Blk w br [.pointer (some ⟨bd, 0, none⟩), bad] 143) (h3 : OB G3 B3 X w b3 [.slice a n c] 37) (hB : B ≤ w.heap.size)
    (hO : OS rStr [] B X w 9 a n c L) (n1 : b1 ≠ bd) (nr : br ≠ bd) (n3 : b3 ≠ bd) (na : Ap [bd, b3] (blkL a)) (hL : (L.length + 1) * 16 ≤ 140737488355328)
    (hp : codec_Dec_Text_p ⟨bq, p, .nil⟩ fun d r => d = ⟨bq, p2, .nil⟩ ∧ r = s) :
    Calls Tryz.prog 234 #[.pointer (some ⟨b3, 0, none⟩), .pointer (some ⟨b1, 0, none⟩)] w (Ret fun v w' => v = .tuple #[] ∧ ∃ X' a' n' c', Step X w (bd :: b3 :: blkL a) X' w' ∧ DI a0 c0 X' w' bd bq p2 ∧
      OB G3 B3 X' w' b3 [.slice a' n' c'] 37 ∧ OS rStr [] B X' w' 9 a' n' c' (L ++ [s]) ∧ ∀ l, Ap l (blkL a) → Old l w → Ap l (blkL a')) := by
  refine enter_ Tryz.func234 rfl 10 [(0, (.pointer (some ⟨b3, 0, none⟩))), (1, (.pointer (some ⟨b1, 0, none⟩)))] (by kernel_rfl) (fun Qe hQ => ?_)
  have mF : Sub (bd :: b3 :: blkL a) X := Sub.of_cons hD.mem (Sub.of_cons h3.1 hO.mem)
  refine reg_drawn (RB w.heap.size [bd]) 7 (by kernel_rfl) (fun w1 e1 => ?_)
  have dv := Evo.of_drew e1
  have sz : w1.heap.size = w.heap.size := by rw [e1]
  have st1 := Step.of0 X dv
  have lt1 := h1.lt
  have ltr := hr.lt
  have lt3 := h3.2.1.lt
  replace hX := hX.step st1
  replace hD := hD.step0 st1
  replace h1 := h1.evo0 dv
  replace hr := hr.evo0 dv
  replace h3 := OB.step0 h3 st1
  replace hO := OS.step0 hO st1
  refine r_take 0 (.slice a n c) (RB.pre _ _) rfl (by kernel_rfl) (fun _ _ _ h => hQ.panic _ _ _ _ _ h) (.inl ⟨rfl, fun wq hq => (x_load1 (by kernel_rfl) Tryz.isAgg37 ((Blk.rb h3.2.1 hq lt3 (by simpa using n3)).cell' 0 rfl))⟩) ?_
  refine r_take 1 (.pointer (some ⟨br, 0, none⟩)) (RB.pre _ _) rfl (by kernel_rfl) (fun _ _ _ h => hQ.panic _ _ _ _ _ h) (.inl ⟨rfl, fun wq hq => (x_load1 (by kernel_rfl) Tryz.isAgg139 ((Blk.rb h1 hq lt1 (by simpa using n1)).cell' 0 rfl))⟩) ?_
  refine r_take 2 (.pointer (some ⟨br, 0, none⟩)) (RB.pre _ _) rfl (by kernel_rfl) (fun _ _ _ h => hQ.panic _ _ _ _ _ h) (.inl ⟨rfl, fun wq hq => (by kernel_rfl)⟩) ?_
  refine r_take 3 (.pointer (some ⟨br, 0, none⟩)) (RB.pre _ _) rfl (by kernel_rfl) (fun _ _ _ h => hQ.panic _ _ _ _ _ h) (.inl ⟨rfl, fun wq hq => (by kernel_rfl)⟩) ?_
  refine r_take 4 (.pointer (some ⟨bd, 0, none⟩)) (RB.pre _ _) rfl (by kernel_rfl) (fun _ _ _ h => hQ.panic _ _ _ _ _ h) (.inl ⟨rfl, fun wq hq => (x_load1 (by kernel_rfl) Tryz.isAgg140 ((Blk.rb hr hq ltr (by simpa using nr)).cell' 0 rfl))⟩) ?_
  refine r_ready [5] (by kernel_rfl) rfl (all_cons ⟨_, _, _, _, _, _, rfl, ?_⟩ all_nil)
  refine o_call 148 #[.pointer (some ⟨bd, 0, none⟩)] rfl (x_call Tryz.call148 (by kernel_rfl)) (codec_Dec_Text_w hX hD.mo hp) ?_
  rintro _ w2 ⟨d, r, ⟨rfl, rfl⟩, X2, F2, st2, rfl, mo, hsz⟩
  refine ⟨fun _ => st2.evo.mono (Nat.le_of_eq sz.symm) fun x hx => .inl hx, ?_⟩
  have ap3 : Ap [b3] [bd] := fun x hx hm => by simp at hx hm; omega
  have apa : Ap (blkL a) [bd] := (Ap.symm na).subr (fun x hx => by simp at hx; simp [hx])
  replace hX := hX.step st2
  replace hD := DI.of_ mo
  replace h3 := OB.step h3 st2 ap3
  replace hO := OS.step hO st2 apa
  have hB2 : B ≤ w2.heap.size := Nat.le_trans hB (by rw [← sz]; exact st2.evo.size)
  refine r_ready [6] (by kernel_rfl) rfl (all_cons ⟨_, _, _, _, _, _, rfl, ?_⟩ all_nil)
  refine o_rowX (R := rStr) [.string r] [r] 9 1 (X := X2) (B := B) hB2 rfl (by kernel_rfl) (Flat.cons (cs := [.string r]) (rStr_mk hsz) Flat.nil) rfl (by decide) ?_
  intro b4 w3 X3 st3 O4 _
  refine ⟨fun _ => st3.evo.mono (by rw [← sz]; exact st2.evo.size) fun x hx => (by cases hx), ?_⟩
  replace hX := hX.step st3
  replace hD := hD.step0 st3
  replace h3 := OB.step0 h3 st3
  replace hO := OS.step0 hO st3
  have hB3 : B ≤ w3.heap.size := Nat.le_trans hB2 st3.evo.size
  refine r_ready [7] (by kernel_rfl) rfl (all_cons ⟨_, _, _, _, _, _, rfl, ?_⟩ all_nil)
  refine o_appX (R := rStr) (X := X3) (B := B) (L := L) (M := [r]) rfl elTs rfl hB3 hO (OS.src O4) O4.1 (by kernel_rfl) (by kernel_rfl) hL ?_
  intro a' n' c' w4 X4 st4 O5 nn
  refine ⟨fun h => absurd h (by decide), ?_⟩
  have hD3 := hD.step st4 (fun hm => na bd (by simp) hm)
  have h34 := OB.step h3 st4 (fun x hx hm => na b3 (by simp) (by simp at hx; subst hx; exact hm))
  have old3 : Old [b3] w3 := h3.old
  refine r_ready [8] (by kernel_rfl) rfl (all_cons ⟨_, _, _, _, _, _, rfl, ?_⟩ all_nil)
  refine o_stB (o := 0) (v := .slice a' n' c') [.slice a' n' c'] rfl h34 (by kernel_rfl) (by kernel_rfl) Tryz.sizeOf37 (by kernel_rfl) (by kernel_rfl) (by kernel_rfl) ?_
  intro w5 st5 h35
  refine ⟨fun h => absurd h (by decide), ?_⟩
  refine r_done (by kernel_rfl) ?_
  refine end_normal hQ (.tuple #[]) (by kernel_rfl) ?_
  have nb3 : Ap [b3] (blkL a') := nn _ (fun x hx hm => na b3 (by simp) (by simp at hx; subst hx; exact hm)) old3
  have sz3 : w.heap.size ≤ w3.heap.size := by rw [← sz]; exact Nat.le_trans st2.evo.size st3.evo.size
  refine ⟨rfl, X4, a', n', c', ?_, hD3.step st5 (by simpa using Ne.symm n3), h35, OS.step O5 st5 (Ap.symm nb3), fun l h k => nn l h fun x hx => Nat.lt_of_lt_of_le (k x hx) sz3⟩
  have m0 : Sub [bd] (bd :: b3 :: blkL a) := fun x hx => by simp at hx; simp [hx]
  have m3 : Sub [b3] (bd :: b3 :: blkL a) := fun x hx => by simp at hx; simp [hx]
  have ma : Sub (blkL a) (bd :: b3 :: blkL a) := fun x hx => by simp [hx]
  have e01 : Evo (bd :: b3 :: blkL a) w w1 := RB.mono dv (Nat.le_refl _) (fun x hx => by cases hx)
  have e12 := Evo.then e01 st2.evo fun x hx => .inl (m0 x hx)
  have e13 := Evo.then0 e12 st3.evo
  have e14 := Evo.then e13 st4.evo fun x hx => .inl (ma x hx)
  have e15 := Evo.then e14 st5.evo fun x hx => .inl (m3 x hx)
  have up : Sub X X4 := (st1.up.trans st2.up).trans (st3.up.trans st4.up)
  exact step_of e15 mF up (((((News.refl X w).step st1).step st2).step st3).step st4 |>.step st5)
/-- As many texts as are told. -/
theorem many_w {X Gr G3 : List Nat} {w : World} {Br B3 bd b1 b3 br : Nat} {bq pre post : List Int} {ts : List ByteArray} (hX : Old X w) (hD : DI a0 c0 X w bd bq (pre.length : Int)) (h1 : Blk w b1 [.pointer (some ⟨br, 0, none⟩)] 139)
    (hr : OB Gr Br X w br [.pointer (some ⟨bd, 0, none⟩), .bool false] 143) (h3 : OB G3 B3 X w b3 [.slice none 0 0] 37) (n1 : b1 ≠ bd) (nr : br ≠ bd) (n3 : b3 ≠ bd) (n13 : b1 ≠ b3) (nr3 : br ≠ b3) (n1r : b1 ≠ br)
    (hb : bq = pre ++ (encI (ts.length : Int) ++ (ts.flatMap encT ++ post))) (hm : ts.length ≤ 1000) (hl : bq.length ≤ 1000000000) :
    Calls Tryz.prog 143 #[.pointer (some ⟨br, 0, none⟩), .func (.func 234) #[] #[.pointer (some ⟨b3, 0, none⟩), .pointer (some ⟨b1, 0, none⟩)]] w (Ret fun v w' => v = .tuple #[] ∧ ∃ X' a n c, Evo [bd, br, b3] w w' ∧ Old X' w' ∧
      DI a0 c0 X' w' bd bq ((pre.length + (encI (ts.length : Int)).length + (ts.flatMap encT).length : Nat) : Int) ∧ OB Gr Br X' w' br [.pointer (some ⟨bd, 0, none⟩), .bool false] 143 ∧ OB G3 B3 X' w' b3 [.slice a n c] 37 ∧ OS rStr [] w.heap.size X' w' 9 a n c ts ∧ (ts.length = 0 → a = none)) := by
  refine enter_ Tryz.func143 rfl 37 [(0, (.pointer (some ⟨br, 0, none⟩))), (1, (.func (.func 234) #[] #[.pointer (some ⟨b3, 0, none⟩), .pointer (some ⟨b1, 0, none⟩)]))] (by kernel_rfl) (fun Qe hQ => ?_)
  refine seq_ (fun _ K1 => ?_)
  refine reg_ ?_
  refine sq (o_pv (.pointer (some ⟨br, 0, none⟩)) rfl (by kernel_rfl) ?_)
  refine sq (o_pv (.pointer (some ⟨br, 0, none⟩)) rfl (by kernel_rfl) ?_)
  refine sq (o_pv (.pointer (some ⟨br, 0, none⟩)) rfl (by kernel_rfl) ?_)
  refine sq (o_pv (.pointer (some ⟨bd, 0, none⟩)) rfl (x_load1 (by kernel_rfl) Tryz.isAgg140 (hr.2.1.cell' 0 rfl)) ?_)
  have hmi : inR .i64 (ts.length : Int) := inR_i64.2 (by omega)
  have hp0 : codec_Dec_Int_p ⟨bq, (pre.length : Int), .nil⟩ fun d r => d = ⟨bq, ((pre.length + (encI (ts.length : Int)).length : Nat) : Int), .nil⟩ ∧ r = (ts.length : Int) :=
    DecInt_p (pre := pre) (post := ts.flatMap encT ++ post) hmi hb rfl rfl (by simp only; omega) ⟨rfl, rfl⟩
  refine sq (o_call 147 #[.pointer (some ⟨bd, 0, none⟩)] rfl (x_call Tryz.call147 (by kernel_rfl)) (codec_Dec_Int_w hX hD.mo hp0) ?_)
  rintro _ w1 ⟨d, r, ⟨rfl, rfl⟩, X1, F1, st1, rfl, mo, _⟩
  have apr : Ap [br] [bd] := fun x hx hm => by simp at hx hm; omega
  have ap3 : Ap [b3] [bd] := fun x hx hm => by simp at hx hm; omega
  have mem0 := hD.mem
  replace hX := hX.step st1
  replace hD := DI.of_ mo
  replace hr := OB.step hr st1 apr
  replace h3 := OB.step h3 st1 ap3
  replace h1 := h1.evo st1.evo (by simpa using n1)
  have e1 : Evo [bd, br, b3] w w1 := RB.mono st1.evo (Nat.le_refl _) (fun x hx => .inl (by simp at hx; simp [hx]))
  refine sq (o_pv (.int .i64 (ts.length : Int)) rfl (by kernel_rfl) ?_)
  refine nil_ ?_
  refine then_normal (K1 _ _ _ _ ?_)
  refine seq_ (fun _ K2 => ?_)
  refine reg_ ?_
  refine sq (o_pv (.pointer (some ⟨br, 0, none⟩)) rfl (by kernel_rfl) ?_)
  refine sq (o_pv (.pointer (some ⟨br, 0, none⟩)) rfl (by kernel_rfl) ?_)
  refine sq (o_pv (.pointer (some ⟨br, 0, none⟩)) rfl (by kernel_rfl) ?_)
  refine sq (o_pv (.pointer (some ⟨br, 1, none⟩)) rfl (by kernel_rfl) ?_)
  refine sq (o_pv (.bool false) rfl (x_load1 (by kernel_rfl) Tryz.isAgg4 (hr.2.1.cell' 1 rfl)) ?_)
  refine sq (o_pv (.bool false) rfl (by kernel_rfl) ?_)
  refine sq (o_pv (.int .i64 (ts.length : Int)) (by kernel_rfl) (by kernel_rfl) ?_)
  refine sq (o_pv (.bool false) (by kernel_rfl) (x_df (p := (ts.length : Int) < (0 : Int)) (by kernel_rfl) (by omega)) ?_)
  refine sq (o_pv (.bool false) rfl (by kernel_rfl) ?_)
  refine sq (o_pv (.pointer (some ⟨br, 0, none⟩)) rfl (by kernel_rfl) ?_)
  refine sq (o_pv (.pointer (some ⟨br, 1, none⟩)) rfl (by kernel_rfl) ?_)
  refine sq (o_stB (o := 1) (v := .bool false) [.pointer (some ⟨bd, 0, none⟩), .bool false] rfl hr (by kernel_rfl) (by kernel_rfl) Tryz.sizeOf4 (by kernel_rfl) (by kernel_rfl) (by kernel_rfl) ?_)
  intro w2 st2 hr2
  replace hX := hX.step st2
  replace hD := hD.step st2 (by simpa using Ne.symm nr)
  replace h3 := OB.step h3 st2 (fun x hx hm => by simp at hx hm; omega)
  replace h1 := h1.evo st2.evo (by simpa using n1r)
  have e2 : Evo [bd, br, b3] w w2 := Evo.then e1 st2.evo (fun x hx => .inl (by simp at hx; simp [hx]))
  clear hr
  refine nil_ ?_
  refine then_normal (K2 _ _ _ _ ?_)
  refine seq_ (fun _ K3 => ?_)
  refine reg_ ?_
  refine sq (o_pv (.int .i64 (0 : Int)) rfl (by kernel_rfl) ?_)
  refine nil_ ?_
  refine then_normal (K3 _ _ _ _ ?_)
  refine wp_block ?_
  refine loop_ 137434759200 (fun kq lq v => ∃ (i : Nat) (Xv : List Nat) (a : Option Addr) (n c : Nat), (lq = [(5, (.int .i64 (i : Int)))]) ∧ (kq = ts.length - i) ∧ i ≤ ts.length ∧ Evo [bd, br, b3] w v ∧ Old Xv v ∧
      DI a0 c0 Xv v bd bq ((pre.length + (encI (ts.length : Int)).length + ((ts.take i).flatMap encT).length : Nat) : Int) ∧ Blk v b1 [.pointer (some ⟨br, 0, none⟩)] 139 ∧ OB Gr Br Xv v br [.pointer (some ⟨bd, 0, none⟩), .bool false] 143 ∧ OB G3 B3 Xv v b3 [.slice a n c] 37 ∧
      OS rStr [] w.heap.size Xv v 9 a n c (ts.take i) ∧ Ap [bd, br, b1, b3] (blkL a) ∧ (i = 0 → a = none)) ts.length [(5, (.int .i64 (0 : Int)))] (vs_cons (by kernel_rfl) vs_nil) ⟨0, X1, none, 0, 0, rfl, rfl, Nat.zero_le _, e2, hX, by simpa using hD, h1, hr2, h3, OS.nil _ _ _ _, Ap.nil_r _, fun _ => rfl⟩ ?_
  rintro _ _ v g ⟨i, Xv, a, n, c, rfl, rfl, hi, e, hX, hD, h1, hr, h3, hO, na, hz⟩ Kl hA
  refine seq_ (fun _ K4 => ?_)
  refine seq_ (fun _ K5 => ?_)
  refine reg_ ?_
  refine sq (o_pv (.int .i64 (i : Int)) rfl (by kernel_rfl) ?_)
  refine sq (o_pv (.int .i64 (ts.length : Int)) rfl (by kernel_rfl) ?_)
  by_cases hlt : (i : Int) < (ts.length : Int)
  · refine sq (o_pv (.bool true) rfl (x_dt (p := (i : Int) < (ts.length : Int)) (by kernel_rfl) hlt) ?_)
    refine sq (o_pv (.bool true) rfl (by kernel_rfl) ?_)
    refine sq (o_pv (.pointer (some ⟨br, 0, none⟩)) (by kernel_rfl) (by kernel_rfl) ?_)
    refine sq (o_pv (.pointer (some ⟨br, 0, none⟩)) (by kernel_rfl) (by kernel_rfl) ?_)
    refine sq (o_pv (.pointer (some ⟨br, 0, none⟩)) (by kernel_rfl) (by kernel_rfl) ?_)
    refine sq (o_pv (.pointer (some ⟨bd, 0, none⟩)) (by kernel_rfl) (x_load1 (by kernel_rfl) Tryz.isAgg140 (hr.2.1.cell' 0 rfl)) ?_)
    refine sq (o_call 151 #[.pointer (some ⟨bd, 0, none⟩)] (by kernel_rfl) (x_call Tryz.call151 (by kernel_rfl)) (dErr_w hD.blk) ?_)
    rintro _ v ⟨rfl, rfl⟩
    refine sq (o_pv (.bool true) (by kernel_rfl) (x_nilnil_eq Tryz.underlying46 (by kernel_rfl) (by kernel_rfl)) ?_)
    refine sq (o_pv (.bool true) rfl (by kernel_rfl) ?_)
    refine nil_ ?_
    refine then_normal (K5 _ _ _ _ ?_)
    refine cond_t (by kernel_rfl) ?_
    refine wp_skip ?_
    refine then_normal (K4 _ _ _ _ ?_)
    refine seq_ (fun _ K6 => ?_)
    refine wp_block ?_
    refine reg_ ?_
    refine sq (o_pv (.func (.func 234) #[] #[.pointer (some ⟨b3, 0, none⟩), .pointer (some ⟨b1, 0, none⟩)]) rfl (by kernel_rfl) ?_)
    have hlt' : i < ts.length := by omega
    have hcut : bq = (pre ++ (encI (ts.length : Int) ++ (ts.take i).flatMap encT)) ++ (encT (lget ts (i : Int)) ++ ((ts.drop (i + 1)).flatMap encT ++ post)) := by
      rw [hb, flat_cut encT hlt']; simp only [List.append_assoc]
    have hp : codec_Dec_Text_p ⟨bq, ((pre.length + (encI (ts.length : Int)).length + ((ts.take i).flatMap encT).length : Nat) : Int), .nil⟩ fun d r => d = ⟨bq, ((pre.length + (encI (ts.length : Int)).length + ((ts.take (i + 1)).flatMap encT).length : Nat) : Int), .nil⟩ ∧ r = lget ts (i : Int) := by
      refine DecText_p hcut (by simp only [List.length_append]; rw [Nat.add_assoc]) rfl (by simp only; omega) ⟨?_, rfl⟩
      rw [flat_take encT hlt']
      simp only [List.length_append]
      congr 2
      omega
    refine sq (o_call 234 #[.pointer (some ⟨b3, 0, none⟩), .pointer (some ⟨b1, 0, none⟩)] rfl (x_callc (first := #[]) (cap := #[.pointer (some ⟨b3, 0, none⟩), .pointer (some ⟨b1, 0, none⟩)]) (by kernel_rfl) Tryz.call234 (by kernel_rfl)) (one_w hX hD h1 hr.2.1 h3 e.size hO n1 nr n3 (fun x hx => na x (by simp at hx; rcases hx with rfl | rfl <;> simp)) (by rw [List.length_take]; omega) hp) ?_)
    rintro _ v2 ⟨rfl, X2, a2, n2, c2, st, hD2, h32, hO2, nn⟩
    have o4 : Old [bd, br, b1, b3] v := fun x hx => by
      simp at hx
      rcases hx with rfl | rfl | rfl | rfl
      · exact hD.blk.lt
      · exact hr.2.1.lt
      · exact h1.lt
      · exact h3.2.1.lt
    have h12 := h1.evo st.evo (by simp only [List.mem_cons, not_or]; exact ⟨n1, n13, na b1 (by simp)⟩)
    have hr2 := OB.step hr st (fun x hx hm => by simp only [List.mem_singleton] at hx; subst hx; simp only [List.mem_cons] at hm; rcases hm with h | h | h; exact nr h; exact nr3 h; exact na _ (by simp) h)
    have e3 : Evo [bd, br, b3] w v2 := Evo.thenW e st.evo fun x hx => by
      simp only [List.mem_cons] at hx
      rcases hx with rfl | rfl | h
      · exact .inl (by simp)
      · exact .inl (by simp)
      · exact (hO.2.2 x h).elim (fun h => by cases h) .inr
    refine nil_ ?_
    refine blk_normal ?_
    refine then_normal (K6 _ _ _ _ ?_)
    refine reg_ ?_
    refine sq (o_pv (.int .i64 (i : Int)) rfl (by kernel_rfl) ?_)
    refine sq (o_pv (.int .i64 ((i + 1 : Nat) : Int)) rfl (x_add2 (k := .i64) (a := (i : Int)) (b := (1 : Int)) ((i + 1 : Nat) : Int) (by kernel_rfl) (by kernel_rfl) (by rw [show ((i : Int) + 1) = ((i + 1 : Nat) : Int) from by omega]; exact wrap_inR (inR_i64.2 (by omega)))) ?_)
    refine sq (o_pv (.int .i64 ((i + 1 : Nat) : Int)) rfl (by kernel_rfl) ?_)
    refine nil_ ?_
    refine hA _ _ _ ⟨ts.length - (i + 1), [(5, (.int .i64 ((i + 1 : Nat) : Int)))], by omega, fit_mk (AgB.mix _ _ _) (by kernel_rfl) (vs_cons (by kernel_rfl) vs_nil), ?_⟩
    exact ⟨i + 1, X2, a2, n2, c2, rfl, rfl, hlt', e3, hX.step st, hD2, h12, hr2, h32, by rw [take_lget hlt']; exact hO2, nn _ na o4, fun h => by omega⟩
  · refine sq (o_pv (.bool false) rfl (x_df (p := (i : Int) < (ts.length : Int)) (by kernel_rfl) hlt) ?_)
    refine sq (o_pv (.bool false) rfl (by kernel_rfl) ?_)
    refine sq (o_not (by kernel_rfl) ?_)
    refine sq (o_not (by kernel_rfl) ?_)
    refine sq (o_not (by kernel_rfl) ?_)
    refine sq (o_not (by kernel_rfl) ?_)
    refine sq (o_not (by kernel_rfl) ?_)
    refine sq (o_not (by kernel_rfl) ?_)
    refine sq (o_pv (.bool false) rfl (by kernel_rfl) ?_)
    refine nil_ ?_
    refine then_normal (K5 _ _ _ _ ?_)
    refine cond_f (by kernel_rfl) ?_
    refine wp_exit ?_
    refine then_exit ?_
    refine then_exit ?_
    refine blk_exit ?_
    have : i = ts.length := by omega
    subst this
    rw [List.take_length] at hO hD
    refine end_normal hQ (.tuple #[]) (by kernel_rfl) ?_
    exact ⟨rfl, Xv, a, n, c, e, hX, hD, hr, h3, hO, hz⟩

/-- A row of texts. -/
theorem texts_w {w : World} {bd br : Nat} {bq pre post : List Int} {ts : List ByteArray} (hd : Blk w bd [.slice a0 bq.length c0, .int .i64 (pre.length : Int), .nilIface] 213) (hs : Sl (rInt .u8) [bd, br] w a0 c0 bq)
    (hr : Blk w br [.pointer (some ⟨bd, 0, none⟩), .bool false] 143) (nr : br ≠ bd) (hb : bq = pre ++ (encI (ts.length : Int) ++ (ts.flatMap encT ++ post))) (hm : ts.length ≤ 1000) (hl : bq.length ≤ 1000000000) :
    Calls Tryz.prog 150 #[.pointer (some ⟨br, 0, none⟩)] w (Ret fun v w' => Evo [bd] w w' ∧ Blk w' bd [.slice a0 bq.length c0, .int .i64 ((pre.length + (encI (ts.length : Int)).length + (ts.flatMap encT).length : Nat) : Int), .nilIface] 213 ∧
      ∃ a c X', v = .slice a ts.length ts.length ∧ OS rStr [] w.heap.size X' w' 9 a ts.length c ts ∧ (ts.length = 0 → a = none)) := by
  have hX : Old [bd, br] w := fun x hx => by
    simp at hx
    rcases hx with rfl | rfl
    · exact hd.lt
    · exact hr.lt
  have hD : DI a0 c0 [bd, br] w bd bq (pre.length : Int) := ⟨by simp, hd, hs, inR_i64.2 (by have := congrArg List.length hb; simp only [List.length_append] at this; omega)⟩
  have hr0 : OB [br] w.heap.size [bd, br] w br [.pointer (some ⟨bd, 0, none⟩), .bool false] 143 := ⟨by simp, hr, fun x hx => .inl hx⟩
  refine enter_ Tryz.func150 rfl 9 [(0, (.pointer (some ⟨br, 0, none⟩)))] (by kernel_rfl) (fun Qe hQ => ?_)
  refine seq_ (fun _ K1 => ?_)
  refine reg_ ?_
  refine sq (o_newX [.pointer (some ⟨br, 0, none⟩)] 139 (X := [bd, br]) (B := w.heap.size) (Nat.le_refl _) rfl (by kernel_rfl) ?_)
  intro b1 w1 X1 s1 o1 p1
  have o2 : Old [bd, br] w := hX
  have n1d : b1 ≠ bd := fun h => p1 _ hX bd (by simp) (by simp [h])
  have n1r : b1 ≠ br := fun h => p1 _ hX br (by simp) (by simp [h])
  replace hX := hX.step s1
  replace hD := hD.step0 s1
  replace hr0 := OB.step0 hr0 s1
  refine sq (o_pv (.slice none 0 0) rfl (by kernel_rfl) ?_)
  refine nil_ ?_
  refine then_normal (K1 _ _ _ _ ?_)
  refine seq_ (fun _ K2 => ?_)
  refine reg_ ?_
  refine sq (o_newX [.slice none 0 0] 37 (X := X1) (B := w.heap.size) s1.evo.size rfl (by kernel_rfl) ?_)
  intro b3 w2 X2 s2 o3 p3
  have oo : Old [bd, br, b1] w1 := fun x hx => by
    simp at hx
    rcases hx with rfl | rfl | rfl
    · exact hD.blk.lt
    · exact hr0.2.1.lt
    · exact o1.2.1.lt
  have n3d : b3 ≠ bd := fun h => p3 _ oo bd (by simp) (by simp [h])
  have n3r : b3 ≠ br := fun h => p3 _ oo br (by simp) (by simp [h])
  have n31 : b3 ≠ b1 := fun h => p3 _ oo b1 (by simp) (by simp [h])
  replace hX := hX.step s2
  replace hD := hD.step0 s2
  replace hr0 := OB.step0 hr0 s2
  replace o1 := OB.step0 o1 s2
  refine nil_ ?_
  refine then_normal (K2 _ _ _ _ ?_)
  refine seq_ (fun _ K3 => ?_)
  refine reg_ ?_
  refine sq (o_pv (.pointer (some ⟨br, 0, none⟩)) rfl (x_load1 (by kernel_rfl) Tryz.isAgg139 (o1.2.1.cell' 0 rfl)) ?_)
  refine sq (o_pv (.func (.func 234) #[] #[.pointer (some ⟨b3, 0, none⟩), .pointer (some ⟨b1, 0, none⟩)]) rfl (by kernel_rfl) ?_)
  refine sq (o_call 143 #[.pointer (some ⟨br, 0, none⟩), .func (.func 234) #[] #[.pointer (some ⟨b3, 0, none⟩), .pointer (some ⟨b1, 0, none⟩)]] rfl (x_call Tryz.call143 (by kernel_rfl)) (many_w hX hD o1.2.1 hr0 o3 n1d nr n3d (Ne.symm n31) (Ne.symm n3r) n1r hb hm hl) ?_)
  rintro _ w3 ⟨rfl, X3, a, n, c, e3, hX3, hD3, hr3, h33, hO3, hz⟩
  refine nil_ ?_
  refine then_normal (K3 _ _ _ _ ?_)
  refine seq_ (fun _ K4 => ?_)
  refine reg_ ?_
  refine sq (o_pv (.slice a n c) rfl (x_load1 (by kernel_rfl) Tryz.isAgg37 (h33.2.1.cell' 0 rfl)) ?_)
  refine sq (o_call 127 #[.slice a n c] rfl (x_call Tryz.call127 (by kernel_rfl)) (clipS_w (by rw [hO3.1]; exact hO3.2.1.cap)) ?_)
  rintro _ _ ⟨rfl, rfl⟩
  refine sq (o_pv (.slice a n n) rfl (by kernel_rfl) ?_)
  refine nil_ ?_
  refine then_normal (K4 _ _ _ _ ?_)
  refine wp_ret ?_
  refine end_ret hQ (.slice a n n) (by kernel_rfl) ?_
  have hsz := Nat.le_trans s1.evo.size s2.evo.size
  have hn : n = ts.length := hO3.1
  subst hn
  have e2 : Evo [] w _ := Evo.then0 s1.evo s2.evo
  have ge3 : w.heap.size ≤ b3 := (o3.2.2 b3 (by simp)).elim (fun h => by cases h) id
  have e : Evo [bd, br] w _ := Evo.thenW (RB.mono e2 (Nat.le_refl _) (fun x hx => by cases hx)) e3 fun x hx => by
    simp at hx
    rcases hx with rfl | rfl | rfl
    · exact .inl (by simp)
    · exact .inl (by simp)
    · exact .inr ge3
  refine ⟨⟨e.os, e.tape, e.output, e.size, fun b hb hn => ?_⟩, hD3.blk, a, c, X3, rfl, ⟨hO3.1, hO3.2.1, fun x hx => (hO3.2.2 x hx).imp id (Nat.le_trans hsz)⟩, hz⟩
  by_cases h : b = br
  · subst h; exact hr3.2.1.trans hr.symm
  · exact e.keep b hb (by simp at hn ⊢; exact ⟨hn, h⟩)
end
end Go.Proofs.YtdnahdcjnahfkaaGreatDoor
set_option linter.unusedVariables false
set_option linter.unusedSimpArgs false
namespace Go.Proofs.YtdnahdcjnahfkaaGreatDoor.Ev
open Go Go.Proofs

/-! ### Texts that stand in a block of bytes -/
noncomputable def atsK (u : T AV) (n : Nat) : Nat → (List Nat → Bool) → Bool := @Nat.rec (fun _ => Nat → (List Nat → Bool) → Bool) (fun _ k => k []) (fun _ ih p k => getK (fun v => atom1K v fun a => forceN (Nat.succ p) fun p' => ih p' fun r => k (a :: r)) u p) n
section
variable {E : Env}
theorem atsK_some {u : T AV} : ∀ {n p : Nat} {k : List Nat → Bool}, atsK u n p k = true → ∃ s, k s = true ∧ s.length = n ∧ ∀ j m, s[j]? = some m → ∃ av, u.get (p + j) = some av ∧ ∀ ρ v, VR E ρ av v → v = .int .u8 (E.byte m).toNat
  | 0, _, _, h => ⟨[], h, rfl, fun j m hj => by cases hj⟩
  | n + 1, p, k, h => by
    change getK (fun v => atom1K v fun a => forceN (Nat.succ p) fun p' => atsK u n p' fun r => k (a :: r)) u p = true at h
    obtain ⟨v, hv, h⟩ := getK_some h
    obtain ⟨a, h, ha⟩ := atom1K_some (E := E) h
    rw [forceN_eq] at h
    obtain ⟨s, h, hl, hs⟩ := atsK_some (n := n) h
    refine ⟨a :: s, h, by simp [hl], fun j m hj => ?_⟩
    cases j with
    | zero => injection hj with hj; subst hj; exact ⟨v, hv, ha⟩
    | succ j =>
      obtain ⟨av, h1, h2⟩ := hs j m hj
      exact ⟨av, by rw [← h1]; congr 1; omega, h2⟩
/-- What is known of the bytes. -/
def RdB (E : Env) (ρ : Nat → Option Loc) (u : T AV) (N : Nat) (bq : List Int) : Prop := bq.length = N ∧ ∀ p av, p < N → u.get p = some av → ∃ x, bq[p]? = some x ∧ VR E ρ av (.int .u8 x)
theorem text_cut {ρ : Nat → Option Loc} {u : T AV} {N p m len : Nat} {bq : List Int} {s : List Nat} (hR : RdB E ρ u N bq) (hB : BytesAt u p (encI (m : Int))) (hlen : (encI (m : Int)).length = len) (hl : s.length = m)
    (hs : ∀ j x, s[j]? = some x → ∃ av, u.get (p + len + j) = some av ∧ ∀ ρ v, VR E ρ av v → v = .int .u8 (E.byte x).toNat) (hq : p + len + m ≤ N) : bq.drop p = encT (E.bytes s) ++ bq.drop (p + len + m) := by
  obtain ⟨hN, hR⟩ := hR
  have h1 : ∀ j x, (encI (m : Int))[j]? = some x → bq[p + j]? = some x := fun j x hj => by
    obtain ⟨y, rfl, _, hg⟩ := hB j x hj
    have := (List.getElem?_eq_some_iff.1 hj).1
    obtain ⟨z, g1, g2⟩ := hR (p + j) _ (by omega) hg
    simp only [VR] at g2
    injection g2 with _ g2; subst g2
    exact g1
  have h2 : ∀ j x, (bytesL (E.bytes s))[j]? = some x → bq[p + len + j]? = some x := fun j x hj => by
    rw [bytesL_bytes, List.getElem?_map] at hj
    cases e : s[j]? with
    | none => rw [e] at hj; cases hj
    | some y =>
      rw [e] at hj; injection hj with hj; subst hj
      have := (List.getElem?_eq_some_iff.1 e).1
      obtain ⟨av, g1, g2⟩ := hs j y e
      obtain ⟨z, g3, g4⟩ := hR (p + len + j) av (by omega) g1
      have := g2 ρ _ g4
      injection this with _ this; subst this
      exact g3
  have hsz : (E.bytes s).size = m := by rw [bytes_size, hl]
  have c1 := cut_of (bq := bq) h1
  have c2 := cut_of (bq := bq) h2
  have e1 : bq.drop p = encI (m : Int) ++ bq.drop (p + len) := by
    have := congrArg (List.drop p) c1
    rw [List.drop_append_of_le_length (by rw [List.length_take]; omega), List.drop_take, Nat.sub_self, List.take_zero, List.nil_append, hlen] at this
    exact this
  have e2 : bq.drop (p + len) = bytesL (E.bytes s) ++ bq.drop (p + len + m) := by
    have := congrArg (List.drop (p + len)) c2
    rw [List.drop_append_of_le_length (by rw [List.length_take]; omega), List.drop_take, Nat.sub_self, List.take_zero, List.nil_append, bytesL_len, hsz] at this
    exact this
  rw [e1, e2]
  unfold encT
  rw [hsz, List.append_assoc]
noncomputable def txtsK (u : T AV) (n : Nat) : Nat → (List AV → Nat → Bool) → Bool :=
  @Nat.rec (fun _ => Nat → (List AV → Nat → Bool) → Bool) (fun p k => k [] p) (fun _ ih p k => decK u p fun m len => forceN (Nat.add p len) fun p1 => forceN (Nat.add p1 m) fun p2 => atsK u m p1 fun s => ih p2 fun L q => k (.str s :: L) q) n
theorem txtsK_some {u : T AV} : ∀ {n p : Nat} {k : List AV → Nat → Bool}, txtsK u n p k = true → ∃ (S : List (List Nat)) (q : Nat), k (S.map AV.str) q = true ∧ S.length = n ∧ p ≤ q ∧ ∀ ρ N bq, RdB E ρ u N bq → q ≤ N → bq.drop p = (S.map E.bytes).flatMap encT ++ bq.drop q
  | 0, p, _, h => ⟨[], p, h, rfl, Nat.le_refl _, fun ρ N bq _ _ => rfl⟩
  | n + 1, p, k, h => by
    change decK u p (fun m len => forceN (Nat.add p len) fun p1 => forceN (Nat.add p1 m) fun p2 => atsK u m p1 fun s => txtsK u n p2 fun L q => k (.str s :: L) q) = true at h
    obtain ⟨m, len, h, _, hlen, hB⟩ := decK_some h
    rw [forceN_eq, forceN_eq] at h
    obtain ⟨s, h, hl, hs⟩ := atsK_some (E := E) h
    obtain ⟨S, q, h, h1, h2, h3⟩ := txtsK_some (n := n) h
    have h2 : p + len + m ≤ q := h2
    refine ⟨s :: S, q, h, by simp [h1], by omega, fun ρ N bq hR hq => ?_⟩
    rw [text_cut hR hB hlen hl hs (by omega)]
    have e : bq.drop (p + len + m) = (S.map E.bytes).flatMap encT ++ bq.drop q := h3 ρ N bq hR hq
    rw [e, List.map_cons, List.flatMap_cons, List.append_assoc]
end

/-! ### A new number for what lies there already -/
theorem new_num {E : Env} {ρ : Nat → Option Loc} {w w' : World} {h h1 h2 : T Blk} {nx m : Nat} {tr : T AV} {L : Loc} (s : Stp ρ h.get w nx ρ h1.get w' nx) (hI : Inv E ρ h.get w) (hI1 : Inv E ρ h1.get w') (hl : ∀ j n u, h1.get j = some (.live n u) → ∃ n' u', h.get j = some (.live n' u')) (hρ : ρ nx = none)
    (hu : Upd h1 nx (.live m tr) h2) (hb : w.heap.size ≤ L.b) (hB : BlkAt E (ρset ρ nx L) w' L m tr) : Stp ρ h.get w nx (ρset ρ nx L) h2.get w' (nx + 1) ∧ Inv E (ρset ρ nx L) h2.get w' := by
  have hext : Ext ρ (ρset ρ nx L) := ρset_ext hρ
  have rs : ρset ρ nx L nx = some L := by simp [ρset]
  have rn : ∀ k, k ≠ nx → ρset ρ nx L k = ρ k := fun k hk => by simp [ρset, hk]
  have e0 : ∀ k n u, h2.get k = some (.live n u) → (k = nx ∧ n = m ∧ u = tr) ∨ (k ≠ nx ∧ h1.get k = some (.live n u)) := fun k n u hk => by
    rw [hu] at hk
    split at hk
    · rename_i e; injection hk with hk; injection hk with a b; exact .inl ⟨e, a.symm, b.symm⟩
    · rename_i e; exact .inr ⟨e, hk⟩
  have lt : ∀ k n u M, h1.get k = some (.live n u) → ρ k = some M → M.b ≠ L.b := fun k n u M hk hM => by
    obtain ⟨n', u', hk'⟩ := hl k n u hk
    have := (hI.blk hk' hM).lt
    omega
  refine ⟨⟨Nat.le_succ _, fun j a b => by rwa [show j = nx from by omega], fun j hj => rn j (by omega), s.os, s.tape, s.output, s.size, s.keep, fun k n u M hk hM => ?_⟩, ⟨fun k n u hk => ?_, fun k k' n u n' u' hk1 hk2 hne M M' hM hM' => ?_⟩⟩
  · rcases e0 k n u hk with ⟨rfl, _, _⟩ | ⟨hn, hk⟩
    · rw [rs] at hM; injection hM with hM; subst hM; exact .inl hb
    · rw [rn k hn] at hM; exact s.own k n u M hk hM
  · rcases e0 k n u hk with ⟨rfl, rfl, rfl⟩ | ⟨hn, hk⟩
    · exact ⟨L, rs, hB⟩
    · obtain ⟨M, hM, hBk⟩ := hI1.at_ k n u hk
      exact ⟨M, hext _ _ hM, hBk.ext hext⟩
  · rcases e0 k n u hk1 with ⟨rfl, _, _⟩ | ⟨hn, hk1⟩
    · rcases e0 k' n' u' hk2 with ⟨rfl, _, _⟩ | ⟨hn', hk2⟩
      · exact absurd rfl hne
      · rw [rs] at hM; injection hM with hM; subst hM
        rw [rn k' hn'] at hM'
        exact fun e => lt _ _ _ _ hk2 hM' e.symm
    · rw [rn k hn] at hM
      rcases e0 k' n' u' hk2 with ⟨rfl, _, _⟩ | ⟨hn', hk2⟩
      · rw [rs] at hM'; injection hM' with hM'; subst hM'
        exact lt _ _ _ _ hk1 hM
      · rw [rn k' hn'] at hM'
        exact hI1.inj k k' _ _ _ _ hk1 hk2 hne M M' hM hM'
theorem flat_strs {X : List Nat} {w : World} : ∀ {ts : List ByteArray} {xs : List Value}, Flat rStr X w xs ts → xs = ts.map Value.string
  | [], xs, h => h
  | t :: ts, xs, h => by
    obtain ⟨cs, r, rfl, ⟨rfl, _⟩, h2⟩ := h
    rw [flat_strs h2]; rfl

theorem flat_any {k : IntKind} {X X' : List Nat} {w : World} : ∀ {L : List Int} {xs : List Value}, Flat (rInt k) X w xs L → Flat (rInt k) X' w xs L
  | [], _, h => h
  | _ :: _, _, h => by
    obtain ⟨cs, r, e, h1, h2⟩ := h
    exact ⟨cs, r, e, h1, flat_any h2⟩

/-! ### The contract -/
noncomputable def readerArgs (h : T Blk) (xs : List AV) (k : AV → Bool) : Bool :=
  l1K xs (fun x => ptrK x fun r o => ifK (Nat.beq o 0) (blkK h r fun n2 tr => ifK (Nat.beq n2 2) (tyPK tr 2 fun ty => ifK (Nat.beq ty 143) (getK (fun b => boolK b fun b => @Bool.rec (fun _ => Bool) (getK k tr 0) false b) tr 1) false) false) false) false
theorem readerArgs_some {h : T Blk} {xs : List AV} {k : AV → Bool} (e : readerArgs h xs k = true) : ∃ r tr q d, xs = [.ptr r 0] ∧ h.get r = some (.live 2 tr) ∧ tr.get 9 = some (.ptr 143 q) ∧ tr.get 0 = some d ∧ tr.get 1 = some (.bool false) ∧ k d = true := by
  unfold readerArgs at e
  rcases l1K_some e with ⟨x, rfl, e⟩ | e
  rotate_left
  · cases e
  obtain ⟨r, o, rfl, e⟩ := ptrK_some e
  obtain ⟨ho, e⟩ := ifK_and e
  have := beq_of ho; subst this
  obtain ⟨n2, tr, hr, e⟩ := blkK_some e
  obtain ⟨h2, e⟩ := ifK_and e
  have := beq_of h2; subst this
  obtain ⟨ty, q, hk, e⟩ := tyPK_some e
  obtain ⟨hty, e⟩ := ifK_and e
  have := beq_of hty; subst this
  obtain ⟨b, hb, e⟩ := getK_some e
  obtain ⟨b, rfl, e⟩ := boolK_some e
  cases b with
  | true => cases e
  | false =>
  obtain ⟨d, hd, e⟩ := getK_some (k := k) e
  exact ⟨r, tr, q, d, rfl, hr, hk, hd, hb, e⟩
/-- What comes of the texts. -/
noncomputable def txtsRes (m : Nat) (L : List AV) (h : T Blk) (nx : Nat) (k : KV) : Bool :=
  @List.rec AV (fun _ => Bool) (k .nils h nx) (fun _ _ _ => writeK L .l 0 fun tr => setK (.live m tr) 40 h nx fun h => forceN (Nat.succ nx) fun nx' => k (.sl nx 0 m m true 1) h nx') L
/-- Texts alone. -/
noncomputable def strsB (l : List AV) (k : Bool) : Bool := @List.rec AV (fun _ => Bool) k (fun v _ ih => strK v fun _ => ih) l
theorem strsB_some : ∀ {l : List AV} {k : Bool}, strsB l k = true → ∃ S : List (List Nat), l = S.map AV.str ∧ k = true
  | [], _, h => ⟨[], rfl, h⟩
  | v :: l, k, h => by
    replace h := strK_some (k := fun _ => strsB l k) h
    obtain ⟨s, rfl, h⟩ := h
    replace h := strsB_some h
    obtain ⟨S, rfl, h⟩ := h
    exact ⟨s :: S, rfl, h⟩
noncomputable def tupE (x : AV) (k : List AV → Bool) (e : Bool) : Bool :=
  @AV.casesOn (fun _ => Bool) x (fun _ => e) (fun _ _ => e) (fun _ _ => e) (fun _ _ => e) (fun _ => e) (fun _ _ => e) e (fun _ => e) (fun _ _ _ _ _ _ => e) e e (fun _ _ _ => e) e (fun _ _ => e) e (fun _ => e) (fun l => k l) e (fun _ _ => e)
theorem tupE_some {x : AV} {k : List AV → Bool} {e : Bool} (h : tupE x k e = true) : (∃ l, x = .tup l ∧ k l = true) ∨ e = true := by cases x <;> first | exact .inl ⟨_, rfl, h⟩ | exact .inr h
noncomputable def ptrE0 (x : AV) (k : Nat → Nat → Bool) (e : Bool) : Bool :=
  @AV.casesOn (fun _ => Bool) x (fun _ => e) (fun _ _ => e) (fun _ _ => e) (fun _ _ => e) (fun _ => e) (fun i o => k i o) e (fun _ => e) (fun _ _ _ _ _ _ => e) e e (fun _ _ _ => e) e (fun _ _ => e) e (fun _ => e) (fun _ => e) e (fun _ _ => e)
theorem ptrE0_some {x : AV} {k : Nat → Nat → Bool} {e : Bool} (h : ptrE0 x k e = true) : (∃ i o, x = .ptr i o ∧ k i o = true) ∨ e = true := by cases x <;> first | exact .inl ⟨_, _, rfl, h⟩ | exact .inr h
noncomputable def tup2E (x : AV) (k : AV → AV → Bool) (e : Bool) : Bool := tupE x (fun l => l2K l k e) e
theorem tup2E_some {x : AV} {k : AV → AV → Bool} {e : Bool} (h : tup2E x k e = true) : (∃ a b, x = .tup [a, b] ∧ k a b = true) ∨ e = true := by
  rcases tupE_some h with ⟨l, rfl, h⟩ | h
  · rcases l2K_some h with ⟨a, b, rfl, h⟩ | h
    · exact .inl ⟨a, b, rfl, h⟩
    · exact .inr h
  · exact .inr h
/-- The texts that stand from here on, if that is kept in mind. -/
noncomputable def findK (l : List AV) (p : Nat) (k : Nat → List AV → Bool) (e : Bool) : Bool :=
  @List.rec AV (fun _ => Bool) e (fun x _ ih => tup2E x (fun a b => ptrE0 a (fun p' q => @Bool.rec (fun _ => Bool) ih (aggE b (fun l => k q l) ih) (Nat.beq p' p)) ih) ih) l
theorem findK_some {p : Nat} {k : Nat → List AV → Bool} {e : Bool} : ∀ {l : List AV}, findK l p k e = true → (∃ q l', .tup [.ptr p q, .agg l'] ∈ l ∧ k q l' = true) ∨ e = true
  | [], h => .inr h
  | x :: l, h => by
    have go : findK l p k e = true → (∃ q l', .tup [.ptr p q, .agg l'] ∈ x :: l ∧ k q l' = true) ∨ e = true := fun h => by
      rcases findK_some h with ⟨q, l', h1, h2⟩ | h
      · exact .inl ⟨q, l', List.mem_cons_of_mem _ h1, h2⟩
      · exact .inr h
    change tup2E x (fun a b => ptrE0 a (fun p' q => @Bool.rec (fun _ => Bool) (findK l p k e) (aggE b (fun l => k q l) (findK l p k e)) (Nat.beq p' p)) (findK l p k e)) (findK l p k e) = true at h
    replace h := tup2E_some h
    rcases h with ⟨a, b, rfl, h⟩ | h
    · replace h := ptrE0_some h
      rcases h with ⟨p', q, rfl, h⟩ | h
      · cases hp : Nat.beq p' p with
        | false => rw [hp] at h; exact go h
        | true =>
          rw [hp] at h
          have := beq_of hp; subst this
          replace h := aggE_some h
          rcases h with ⟨l', rfl, h⟩ | h
          · exact .inl ⟨q, l', List.mem_cons_self, h⟩
          · exact go h
      · exact go h
    · exact go h
noncomputable def chunkK (ky : AV) (p : Nat) (k : Nat → List AV → Bool) (e : Bool) : Bool := ifcE ky (fun g y => ifK (Nat.beq g 5) (aggE y (fun l => findK l p k e) e) e) e
theorem chunkK_some {ky : AV} {p : Nat} {k : Nat → List AV → Bool} {e : Bool} (h : chunkK ky p k e = true) : (∃ l q l', ky = .ifc 5 (.agg l) ∧ .tup [.ptr p q, .agg l'] ∈ l ∧ k q l' = true) ∨ e = true := by
  unfold chunkK at h
  replace h := ifcE_some h
  rcases h with ⟨g, y, rfl, h⟩ | h
  · rw [ifK_eq] at h
    split at h
    · rename_i hg
      have := beq_of hg; subst this
      replace h := aggE_some h
      rcases h with ⟨l, rfl, h⟩ | h
      · replace h := findK_some h
        rcases h with ⟨q, l', h1, h2⟩ | h
        · exact .inl ⟨l, q, l', rfl, h1, h2⟩
        · exact .inr h
      · exact .inr h
    · exact .inr h
  · exact .inr h
noncomputable def gTexts : Orc := fun xs h nx k => readerArgs h xs fun d => decArgs 213 5 h [d] fun i t at_ u n N ky => decK u at_ fun m len => ifK (Nat.ble m 1000) (forceN (Nat.add at_ len) fun at1 => ifK (Nat.ble at1 n)
  (chunkK ky at1 (fun q l => lenK l 0 fun c => ifK (Nat.beq c m) (strsB l (decSet h t i q n fun h => txtsRes m l h nx k)) false) (txtsK u m at1 fun L at2 => decSet h t i at2 n fun h => txtsRes m L h nx k)) false) false
theorem texts_orc {E : Env} {F : Facts} : FnRel Tryz.prog E F 150 (.orc gTexts) := by
  refine .orc fun xs h nx k hk hfr => ?_
  unfold gTexts at hk
  replace hk := readerArgs_some hk
  obtain ⟨r, tr, qr, d, rfl, hr, hkr, hd, hbad, hk⟩ := hk
  replace hk := decArgs_some hk
  obtain ⟨i, t, at_, j, n, c, ex, N, u, ky, D, hky, hk⟩ := hk
  have hdi : d = .ptr i 0 := by have := D.xs_; injection this
  subst hdi
  replace hk := decK_some hk
  obtain ⟨m, len, hk, _, hlen, hB⟩ := hk
  replace hk := ifK_and hk
  obtain ⟨hm, hk⟩ := hk
  have hm := ble_of hm
  rw [forceN_eq] at hk
  replace hk := ifK_and hk
  obtain ⟨hatn, hk⟩ := hk
  have hatn : at_ + len ≤ n := ble_of hatn
  have key : ∃ (S : List (List Nat)) (at2 : Nat), decSet h t i at2 n (fun h => txtsRes m (S.map AV.str) h nx k) = true ∧ S.length = m ∧ (at2 ≤ n → ∀ {ρ w vs L a0 cc bq}, DecIn E ρ w i n at_ (.sl j 0 n c ex 1) u N 5 vs L a0 cc bq → at_ + len ≤ at2 ∧ bq.drop (at_ + len) = (S.map E.bytes).flatMap encT ++ bq.drop at2) := by
    rcases chunkK_some hk with ⟨l, q, l', rfl, hmem, hk⟩ | hk
    · rw [lenK_eq, Nat.zero_add] at hk
      obtain ⟨hc, hk⟩ := ifK_and hk
      have hc := beq_of hc
      replace hk := strsB_some hk
      obtain ⟨S, rfl, hk⟩ := hk
      refine ⟨S, q, hk, by rw [← hc, List.length_map], fun hq {ρ w vs L a0 cc bq} I => ?_⟩
      obtain ⟨e1, e2⟩ := I.ch l hky _ hmem _ _ _ rfl hq
      have e1 : at_ + len + ((S.map AV.str).flatMap (codeT E)).length = q := e1
      have hn6 := D.n6
      have hcode := code_eq (E := E) (S := S) fun s hs => by have := code_short (E := E) hs; omega
      rw [hcode] at e1 e2
      have e2 : ∀ (j : Nat) (b : Int), ((S.map E.bytes).flatMap encT)[j]? = some b → bq[at_ + len + j]? = some b := e2
      refine ⟨by omega, ?_⟩
      have c1 := cut_of (bq := bq) e2
      have hl := I.len
      have := congrArg (List.drop (at_ + len)) c1
      rw [List.drop_append_of_le_length (by rw [List.length_take]; omega), List.drop_take, Nat.sub_self, List.take_zero, List.nil_append, e1] at this
      exact this
    · obtain ⟨S, at2, hk, h1, h2, h3⟩ := txtsK_some (E := E) hk
      refine ⟨S, at2, hk, h1, fun hq {ρ w vs L a0 cc bq} I => ⟨h2, h3 ρ n bq ⟨I.len, I.rd⟩ hq⟩⟩
  clear hk
  obtain ⟨S, at2, hk, hSl, hS⟩ := key
  replace hk := decSet_some hk
  obtain ⟨hat2, t', h', ht, hu, hk⟩ := hk
  have hS := fun {ρ w vs L a0 cc bq} => hS hat2 (ρ := ρ) (w := w) (vs := vs) (L := L) (a0 := a0) (cc := cc) (bq := bq)
  have hf : FnHas Tryz.prog 150 := ⟨_, Tryz.func150, by kernel_rfl, by kernel_rfl⟩
  have hfr' : Fresh h' nx := hfr.set hu (hfr.lt D.hi)
  -- what happens in the world
  have hw : ∀ ρ w vs, Inv E ρ h.get w → VRs E ρ [AV.ptr r 0] vs → Calls Tryz.prog 150 vs.toArray w (Ret fun v w' => (∀ nx, Stp ρ h.get w nx ρ h'.get w' nx) ∧ Inv E ρ h'.get w' ∧ ∃ a c X', v = .slice a m m ∧ OS rStr [] w.heap.size X' w' 9 a m c (S.map E.bytes) ∧ (m = 0 → a = none)) := fun ρ w vs hI hvs => by
    obtain ⟨L0, hL0, _⟩ := hI.at_ _ _ _ D.hi
    obtain ⟨L, a0, cc, bq, I⟩ := dec_pre D (by omega) hI (vs := [.pointer (some ⟨L0.b, L0.o + 0, none⟩)]) (by simp only [VRs, VR]; exact ⟨_, [], ⟨_, hL0, rfl⟩, rfl, rfl⟩)
    have eL : L = L0 := by have := I.hL; rw [hL0] at this; injection this with this; exact this.symm
    subst eL
    obtain ⟨M, hM, hBr⟩ := hI.at_ _ _ _ hr
    obtain ⟨o1, _, ws, hl2, hBk, hcs⟩ := whole_pre hBr hkr
    obtain ⟨v0, g0, r0, _⟩ := hcs 0 _ (by omega) hd
    obtain ⟨v1, g1, r1, _⟩ := hcs 1 _ (by omega) hbad
    simp only [VR] at r0 r1
    obtain ⟨L', hL', rfl⟩ := r0
    rw [I.hL] at hL'; injection hL' with hL'; subst hL'
    subst r1
    have oL : L.o = 0 := by
      have := I.ar
      have hh := congrArg (fun a : Array Value => a[0]?) this
      simp only [List.getElem?_toArray, List.getElem?_cons_zero] at hh
      injection hh with hh; injection hh with hh; injection hh with hh; injection hh with _ hh
    have hws : ws = [.pointer (some ⟨L.b, 0, none⟩), .bool false] := by
      apply List.ext_getElem?
      intro q
      match q with
      | 0 => rw [g0, oL]; rfl
      | 1 => rw [g1]; rfl
      | q + 2 => rw [List.getElem?_eq_none (by omega), List.getElem?_eq_none (by simp)]
    subst hws
    have hri : r ≠ i := by
      rintro rfl
      have := D.hi
      rw [hr] at this; injection this with this; injection this with this _; cases this
    have nb : M.b ≠ L.b := hI.inj r i _ _ _ _ hr D.hi hri M L hM I.hL
    obtain ⟨v5, ob, hsl, _, he, _⟩ := o_codec_Dec_open I.mo
    have hv5 : v5 = .nilIface := by simp only [rErr] at he; injection he
    subst hv5
    obtain ⟨hle, hSd⟩ := hS I
    have hlm : (S.map E.bytes).length = m := by rw [List.length_map, hSl]
    have hpre : (bq.take at_).length = at_ := by rw [List.length_take, I.len]; omega
    have hcut : bq = bq.take at_ ++ (encI ((S.map E.bytes).length : Int) ++ ((S.map E.bytes).flatMap encT ++ bq.drop at2)) := by
      have c1 := cut_of (bq := bq) (dec_num I hB (by omega))
      rw [hlen] at c1
      rw [hlm, ← hSd]
      exact c1
    have hlen2 : at_ + len + ((S.map E.bytes).flatMap encT).length = at2 := by
      have := congrArg List.length hSd
      rw [List.length_drop, List.length_append, List.length_drop, I.len] at this
      have h3 : Nat.add at_ len = at_ + len := rfl
      omega
    have hvs' : vs.toArray = #[.pointer (some ⟨M.b, 0, none⟩)] := by
      simp only [VRs, VR] at hvs
      obtain ⟨_, _, ⟨M', hM', rfl⟩, rfl, rfl⟩ := hvs
      rw [hM] at hM'; injection hM' with hM'; subst hM'
      rw [o1]
    rw [hvs']
    have hn6 := D.n6
    refine Calls_ret (texts_w (a0 := a0) (c0 := cc) (pre := bq.take at_) (post := bq.drop at2) (ts := S.map E.bytes) (by rw [hpre]; exact ob.2.1) ?_ hBk nb hcut (by omega) (by rw [I.len]; omega)) ?_
    · obtain ⟨q1, q2, q3⟩ := hsl
      refine ⟨q1, q2, ?_⟩
      rcases q3 with q3 | ⟨b, o, xs, ha, hb1, hb2, hb3, hb4⟩
      · exact .inl q3
      · refine .inr ⟨b, o, xs, ha, ?_, hb2, hb3, flat_any hb4⟩
        have hsv := I.sl
        simp only [VR] at hsv
        obtain ⟨J, _, hJ, hsv, _⟩ := hsv
        injection hsv with hsv
        rw [ha] at hsv; injection hsv with hsv; injection hsv with hsv
        have hrj : r ≠ j := by
          rintro rfl
          have := D.hj
          rw [hr] at this; injection this with this; injection this with e1 e2; subst e1; subst e2
          have := D.by_
          rw [hkr] at this; rcases this with h | ⟨_, h⟩ <;> cases h
        have := hI.inj r j _ _ _ _ hr D.hj hrj M J hM hJ
        simp only [List.mem_cons, List.not_mem_nil, or_false, not_or]
        exact ⟨fun e => hb1 (by simp [e]), fun e => this (by rw [← hsv, e])⟩
    · rintro v w' ⟨e, hbd, a, c2, X', rfl, hO, hz⟩
      rw [hlm] at hO hz
      rw [hpre, hlm, hlen, hlen2] at hbd
      obtain ⟨s1, s2⟩ := whole_step (nx := 0) hI D.hi I.hL D.key.choose_spec e hbd rfl (t' := t') (fun q hq => by
        match q, hq with
        | 0, _ => exact ⟨_, _, by rw [ht, if_neg (by omega)]; exact D.c0, rfl, by rw [I.len]; exact I.sl, rfl⟩
        | 1, _ => exact ⟨_, _, by rw [ht, if_pos rfl], rfl, by simp only [VR], rfl⟩
        | 2, _ => exact ⟨_, _, by rw [ht, if_neg (by omega)]; exact D.c2, rfl, by simp only [VR], rfl⟩) (by rw [ht, if_neg (by omega)]) hu
      exact ⟨fun nx => ⟨Nat.le_refl _, fun j a b => by omega, fun _ _ => rfl, s1.os, s1.tape, s1.output, s1.size, s1.keep, s1.own⟩, s2, a, c2, X', by rw [hlm], hO, hz⟩
  cases S with
  | nil =>
    have m0 : m = 0 := hSl.symm
    refine ⟨.nils, h', nx, hk, hfr', Nat.le_refl _, .inl ⟨hf, fun ρ w vs _ hI hvs => ?_⟩⟩
    refine (hw ρ w vs hI hvs).mono ?_
    rintro e w' ⟨v, rfl, s1, s2, a, c2, X', rfl, hO, hz⟩
    exact ⟨_, rfl, ρ, s1 nx, s2, by rw [hz m0, m0]; simp only [VR]⟩
  | cons s S =>
    change writeK ((s :: S).map AV.str) .l 0 (fun tr => setK (.live m tr) 40 h' nx fun h => forceN (Nat.succ nx) fun nx' => k (.sl nx 0 m m true 1) h nx') = true at hk
    obtain ⟨tr', htr, hk⟩ := writeK_some hk
    obtain ⟨h2, hu2, hk⟩ := setK_some hk
    rw [forceN_eq] at hk
    refine ⟨_, h2, nx + 1, hk, fun q hq => by rw [hu2, if_neg (by omega)]; exact hfr' q (by omega), Nat.le_succ _, .inl ⟨hf, fun ρ w vs hfree hI hvs => ?_⟩⟩
    refine (hw ρ w vs hI hvs).mono ?_
    rintro e w' ⟨v, rfl, s1, s2, a, c2, X', rfl, hO, hz⟩
    obtain ⟨_, ⟨_, _, xs, ho, hx⟩, hwr⟩ := hO
    have hxs := flat_strs hx
    rcases ho.2 with ⟨g1, g2⟩ | ⟨g, cap, cur, hv, hbg, hg, hnc, hcm, hcs, htake⟩
    · rw [List.length_map, List.length_cons] at g2; omega
    · injection hv with e1 e2 e3
      subst e1; subst e3
      rw [List.length_map, hSl] at hnc htake
      have hρ : ρ nx = none := hfree nx (Nat.le_refl _) (Nat.lt_succ_self _)
      have hge : w.heap.size ≤ g := (hwr g (by simp [blkL])).elim (fun h => by cases h) id
      have hn1 : (rStr).n = 1 := rfl
      rw [hn1, Nat.mul_one] at hcs htake
      have hcell : ∀ q, q < m → ∃ av v, tr'.get q = some av ∧ cur[0 + q]? = some v ∧ VR E (ρset ρ nx ⟨g, 0, c2, 1⟩) av v ∧ v.oneCell' = true := fun q hq => by
        have h1 : (s :: S)[q]? = some ((s :: S)[q]'(by omega)) := List.getElem?_eq_getElem _
        refine ⟨.str ((s :: S)[q]'(by omega)), .string (E.bytes ((s :: S)[q]'(by omega))), ?_, ?_, by simp only [VR], rfl⟩
        · rw [htr, if_pos ⟨Nat.zero_le _, by rw [List.length_map]; omega⟩, Nat.sub_zero, List.getElem?_map, h1]; rfl
        · have h2 : (cur.toList.take m)[q]? = some (Value.string (E.bytes ((s :: S)[q]'(by omega)))) := by rw [htake, hxs, List.getElem?_map, List.getElem?_map, h1]; rfl
          rw [List.getElem?_take, if_pos hq, Array.getElem?_toList] at h2
          rw [Nat.zero_add]; exact h2
      obtain ⟨p1, p2⟩ := new_num (L := ⟨g, 0, c2, 1⟩) (s1 nx) hI s2 (fun q n' u' hq => by
        rw [hu] at hq
        split at hq
        · rename_i e; subst e; exact ⟨_, _, D.hi⟩
        · exact ⟨_, _, hq⟩) hρ hu2 hge ⟨cur, _, (0, 0), hg, fun q _ hq => by omega, hcs, hcell, TyAt.of (by rw [htr, if_neg (by rw [List.length_map]; omega), T.get_l])⟩
      refine ⟨_, rfl, _, p1, p2, ?_⟩
      simp only [VR]
      exact ⟨⟨g, 0, c2, 1⟩, m, by simp [ρset], rfl, Nat.le_refl _, fun _ => rfl, by show 0 + 0 + m * 1 ≤ c2; omega, fun h => absurd rfl h, by omega, fun h => by cases h⟩
end Go.Proofs.YtdnahdcjnahfkaaGreatDoor.Ev
