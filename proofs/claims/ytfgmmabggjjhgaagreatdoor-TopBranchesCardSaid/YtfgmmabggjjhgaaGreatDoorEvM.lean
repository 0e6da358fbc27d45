/- The evaluator: calls whose outcome is known already, from data that are laid in a fixed way. It speaks of any program; nothing of the claim's own program stands here. -/
import Derived.Test.YtfgmmabggjjhgaaGreatDoorEvGK
import Derived.Test.YtfgmmabggjjhgaaGreatDoorEvGI
namespace Go.Proofs.YtfgmmabggjjhgaaGreatDoor.Ev
open Go

/-! ### One value against another, but for the blocks' numbers -/
def IsFlat (x : AV) : Prop := ∀ (E : Env) (ρ ρ' : Nat → Option Loc) (v : Value), VR E ρ x v → VR E ρ' x v
mutual
inductive Rel (σ : Nat → Option Nat) : AV → AV → Prop where
  | flat {x : AV} (h : IsFlat x) : Rel σ x x
  | sl {j i n es : Nat} (h : σ j = some i) : Rel σ (.sl j 0 n n true es) (.sl i 0 n n true es)
  | ptr {j i o : Nat} (h : σ j = some i) : Rel σ (.ptr j o) (.ptr i o)
  | ifc {t : Nat} {x y : AV} (h : Rel σ x y) : Rel σ (.ifc t x) (.ifc t y)
  | agg {l m : List AV} (h : RelL σ l m) : Rel σ (.agg l) (.agg m)
  | tup {l m : List AV} (h : RelL σ l m) : Rel σ (.tup l) (.tup m)
inductive RelL (σ : Nat → Option Nat) : List AV → List AV → Prop where
  | nil : RelL σ [] []
  | cons {x y : AV} {l m : List AV} (h : Rel σ x y) (hs : RelL σ l m) : RelL σ (x :: l) (y :: m)
end
section
variable {E : Env} {ρ ρ0 : Nat → Option Loc} {σ σ' : Nat → Option Nat}
mutual
theorem Rel.mono (hs : ∀ j i, σ j = some i → σ' j = some i) : ∀ {x y : AV}, Rel σ x y → Rel σ' x y
  | _, _, .flat h => .flat h
  | _, _, .sl h => .sl (hs _ _ h)
  | _, _, .ptr h => .ptr (hs _ _ h)
  | _, _, .ifc h => .ifc (Rel.mono hs h)
  | _, _, .agg h => .agg (RelL.mono hs h)
  | _, _, .tup h => .tup (RelL.mono hs h)
theorem RelL.mono (hs : ∀ j i, σ j = some i → σ' j = some i) : ∀ {x y : List AV}, RelL σ x y → RelL σ' x y
  | _, _, .nil => .nil
  | _, _, .cons h k => .cons (Rel.mono hs h) (RelL.mono hs k)
end
mutual
theorem Rel.vr (hs : ∀ j i, σ j = some i → ρ0 j = ρ i) : ∀ {x y : AV} (_ : Rel σ x y) (v : Value), VR E ρ0 x v ↔ VR E ρ y v
  | _, _, .flat h, v => ⟨h E _ _ v, h E _ _ v⟩
  | _, _, .sl h, v => by simp only [VR]; rw [hs _ _ h]
  | _, _, .ptr h, v => by simp only [VR]; rw [hs _ _ h]
  | _, _, .ifc h, v => by
    simp only [VR]
    exact ⟨fun ⟨x', h1, h2⟩ => ⟨x', (Rel.vr hs h x').1 h1, h2⟩, fun ⟨x', h1, h2⟩ => ⟨x', (Rel.vr hs h x').2 h1, h2⟩⟩
  | _, _, .agg h, v => by
    simp only [VR]
    exact ⟨fun ⟨x', h1, h2⟩ => ⟨x', (RelL.vr hs h x').1 h1, h2⟩, fun ⟨x', h1, h2⟩ => ⟨x', (RelL.vr hs h x').2 h1, h2⟩⟩
  | _, _, .tup h, v => by
    simp only [VR]
    exact ⟨fun ⟨x', h1, h2⟩ => ⟨x', (RelL.vr hs h x').1 h1, h2⟩, fun ⟨x', h1, h2⟩ => ⟨x', (RelL.vr hs h x').2 h1, h2⟩⟩
theorem RelL.vr (hs : ∀ j i, σ j = some i → ρ0 j = ρ i) : ∀ {x y : List AV} (_ : RelL σ x y) (v : List Value), VRs E ρ0 x v ↔ VRs E ρ y v
  | _, _, .nil, v => by simp only [VRs]
  | _, _, .cons h k, v => by
    simp only [VRs]
    exact ⟨fun ⟨u, r, h1, h2, h3⟩ => ⟨u, r, (Rel.vr hs h u).1 h1, (RelL.vr hs k r).1 h2, h3⟩, fun ⟨u, r, h1, h2, h3⟩ => ⟨u, r, (Rel.vr hs h u).2 h1, (RelL.vr hs k r).2 h2, h3⟩⟩
end
mutual
/-- One way alone. -/
theorem Rel.to (hs : ∀ j i L, σ j = some i → ρ0 j = some L → ρ i = some L) : ∀ {x y : AV} (_ : Rel σ x y) (v : Value), VR E ρ0 x v → VR E ρ y v
  | _, _, .flat h, v => h E _ _ v
  | _, _, .sl h, v => by
    simp only [VR]
    rintro ⟨L, cc, h1, h2⟩
    exact ⟨L, cc, hs _ _ _ h h1, h2⟩
  | _, _, .ptr h, v => by
    simp only [VR]
    rintro ⟨L, h1, h2⟩
    exact ⟨L, hs _ _ _ h h1, h2⟩
  | _, _, .ifc h, v => by
    simp only [VR]
    exact fun ⟨x', h1, h2⟩ => ⟨x', Rel.to hs h x' h1, h2⟩
  | _, _, .agg h, v => by
    simp only [VR]
    exact fun ⟨x', h1, h2⟩ => ⟨x', RelL.to hs h x' h1, h2⟩
  | _, _, .tup h, v => by
    simp only [VR]
    exact fun ⟨x', h1, h2⟩ => ⟨x', RelL.to hs h x' h1, h2⟩
theorem RelL.to (hs : ∀ j i L, σ j = some i → ρ0 j = some L → ρ i = some L) : ∀ {x y : List AV} (_ : RelL σ x y) (v : List Value), VRs E ρ0 x v → VRs E ρ y v
  | _, _, .nil, v => by simp only [VRs]; exact id
  | _, _, .cons h k, v => by
    simp only [VRs]
    exact fun ⟨u, r, h1, h2, h3⟩ => ⟨u, r, Rel.to hs h u h1, RelL.to hs k r h2, h3⟩
end
theorem RelL.length : ∀ {x y : List AV}, RelL σ x y → x.length = y.length
  | _, _, .nil => rfl
  | _, _, .cons _ k => by simp [RelL.length k]
theorem RelL.get : ∀ {x y : List AV}, RelL σ x y → ∀ {k : Nat} {a : AV}, x[k]? = some a → ∃ b, y[k]? = some b ∧ Rel σ a b
  | _, _, .nil, k, a, h => by simp at h
  | _, _, .cons h0 k0, k, a, h => by
    cases k with
    | zero => simp at h; subst h; exact ⟨_, rfl, h0⟩
    | succ k => obtain ⟨b, h1, h2⟩ := RelL.get k0 (k := k) (by simpa using h); exact ⟨b, by simpa using h1, h2⟩
end
abbrev nums (is : List Nat) : Nat → Option Nat := fun j => is[j]?
theorem nums_mono {is is' : List Nat} (h : is <+: is') : ∀ j i, nums is j = some i → nums is' j = some i := fun j i hj => by
  obtain ⟨t, rfl⟩ := h
  have : j < is.length := (List.getElem?_eq_some_iff.1 hj).1
  show (is ++ t)[j]? = some i
  rw [List.getElem?_append_left this]; exact hj

/-! ### how it is found -/
abbrev IsK := List Nat → Nat → Bool
noncomputable def asgK (j i : Nat) (is : List Nat) (cnt : Nat) (k : IsK) : Bool :=
  @Bool.rec (fun _ => Bool) (ifK (Nat.beq j cnt) (appK is [i] fun is => forceN (Nat.succ cnt) fun cnt => k is cnt) false) (nthK is j fun i' => ifK (Nat.beq i i') (k is cnt) false) (Nat.blt j cnt)
noncomputable def slRel (j o n c : Nat) (ex : Bool) (es : Nat) (y : AV) (is : List Nat) (cnt : Nat) (k : IsK) : Bool :=
  slK y (fun i o' n' c' ex' es' => ifK (Nat.beq o 0) (ifK (Nat.beq o' 0) (ifK (Nat.beq n c) (ifK (Nat.beq n' c') (ifK (Nat.beq n n') (ifK (Nat.beq es es') (ifK ex (ifK ex' (asgK j i is cnt k) false) false) false) false) false) false) false) false) false false
noncomputable def ptrRel (j o : Nat) (y : AV) (is : List Nat) (cnt : Nat) (k : IsK) : Bool := ptrK y fun i o' => ifK (Nat.beq o o') (asgK j i is cnt k) false
noncomputable def rel0K (x y : AV) (is : List Nat) (cnt : Nat) (k : IsK) : Bool :=
  @AV.casesOn (fun _ => Bool) x (fun _ => flat1 x (av1Eq (k is cnt) x y)) (fun _ _ => flat1 x (av1Eq (k is cnt) x y)) (fun _ _ => flat1 x (av1Eq (k is cnt) x y)) (fun _ _ => flat1 x (av1Eq (k is cnt) x y)) (fun _ => flat1 x (av1Eq (k is cnt) x y)) (fun j o => ptrRel j o y is cnt k) (flat1 x (av1Eq (k is cnt) x y)) (fun _ => false)
    (fun j o n c ex es => slRel j o n c ex es y is cnt k) (flat1 x (av1Eq (k is cnt) x y)) (flat1 x (av1Eq (k is cnt) x y)) (fun _ _ _ => false) (flat1 x (av1Eq (k is cnt) x y)) (fun _ _ => false) (flat1 x (av1Eq (k is cnt) x y)) (fun _ => false) (fun _ => false) false (fun _ _ => false)
/-- Is it an interface's value? -/
noncomputable def ifcOr (x : AV) (k : Nat → AV → Bool) (e : Bool) : Bool :=
  @AV.casesOn (fun _ => Bool) x (fun _ => e) (fun _ _ => e) (fun _ _ => e) (fun _ _ => e) (fun _ => e) (fun _ _ => e) e (fun _ => e) (fun _ _ _ _ _ _ => e) e e (fun _ _ _ => e) e (fun t v => k t v) e (fun _ => e) (fun _ => e) e (fun _ _ => e)
noncomputable def aggOr (x : AV) (k : List AV → Bool) (e : Bool) : Bool :=
  @AV.casesOn (fun _ => Bool) x (fun _ => e) (fun _ _ => e) (fun _ _ => e) (fun _ _ => e) (fun _ => e) (fun _ _ => e) e (fun _ => e) (fun _ _ _ _ _ _ => e) e e (fun _ _ _ => e) e (fun _ _ => e) e (fun l => k l) (fun _ => e) e (fun _ _ => e)
noncomputable def tupOr (x : AV) (k : List AV → Bool) (e : Bool) : Bool :=
  @AV.casesOn (fun _ => Bool) x (fun _ => e) (fun _ _ => e) (fun _ _ => e) (fun _ _ => e) (fun _ => e) (fun _ _ => e) e (fun _ => e) (fun _ _ _ _ _ _ => e) e e (fun _ _ _ => e) e (fun _ _ => e) e (fun _ => e) (fun l => k l) e (fun _ _ => e)
theorem ifcOr_some {x : AV} {k : Nat → AV → Bool} {e : Bool} (h : ifcOr x k e = true) : (∃ t v, x = .ifc t v ∧ k t v = true) ∨ e = true := by cases x <;> first | exact .inl ⟨_, _, rfl, h⟩ | exact .inr h
theorem aggOr_some {x : AV} {k : List AV → Bool} {e : Bool} (h : aggOr x k e = true) : (∃ l, x = .agg l ∧ k l = true) ∨ e = true := by cases x <;> first | exact .inl ⟨_, rfl, h⟩ | exact .inr h
theorem tupOr_some {x : AV} {k : List AV → Bool} {e : Bool} (h : tupOr x k e = true) : (∃ l, x = .tup l ∧ k l = true) ∨ e = true := by cases x <;> first | exact .inl ⟨_, rfl, h⟩ | exact .inr h
abbrev RelK := AV → AV → List Nat → Nat → IsK → Bool
noncomputable def rel1K : RelK := fun x y is cnt k => ifcOr x (fun t a => ifcK y (fun t' b => ifK (Nat.beq t t') (rel0K a b is cnt k) false) false) (rel0K x y is cnt k)
noncomputable def listR (r : RelK) (l : List AV) : List AV → List Nat → Nat → IsK → Bool :=
  @List.rec AV (fun _ => List AV → List Nat → Nat → IsK → Bool) (fun m is cnt k => @List.rec AV (fun _ => Bool) (k is cnt) (fun _ _ _ => false) m) (fun x _ ih m is cnt k => @List.rec AV (fun _ => Bool) false (fun y ys _ => r x y is cnt fun is cnt => ih ys is cnt k) m) l
noncomputable def rel2K : RelK := fun x y is cnt k => aggOr x (fun l => aggK y fun m => listR rel1K l m is cnt k) (rel1K x y is cnt k)
noncomputable def rel3K : RelK := fun x y is cnt k => tupOr x (fun l => tupK y fun m => listR rel2K l m is cnt k) (rel2K x y is cnt k)
def RelOk (r : RelK) : Prop := ∀ x y is k, r x y is is.length k = true → ∃ is', k is' is'.length = true ∧ is <+: is' ∧ Rel (nums is') x y
theorem asgK_some {j i : Nat} {is : List Nat} {k : IsK} (h : asgK j i is is.length k = true) : ∃ is', k is' is'.length = true ∧ is <+: is' ∧ nums is' j = some i := by
  unfold asgK at h
  cases hb : Nat.blt j is.length with
  | true =>
    rw [hb] at h
    replace h := nthK_some h
    obtain ⟨i', h1, h⟩ := h
    replace h := ifK_and h
    obtain ⟨h2, h⟩ := h
    have := beq_of h2; subst this
    exact ⟨is, h, List.prefix_refl _, h1⟩
  | false =>
    rw [hb] at h
    replace h := ifK_and h
    obtain ⟨h2, h⟩ := h
    have := beq_of h2; subst this
    rw [appK_eq, forceN_eq] at h
    exact ⟨is ++ [i], by simpa using h, List.prefix_append _ _, by simp [nums]⟩
theorem flat_rel {x y : AV} {is : List Nat} {k : IsK} (h : flat1 x (av1Eq (k is is.length) x y) = true) : ∃ is', k is' is'.length = true ∧ is <+: is' ∧ Rel (nums is') x y := by
  replace h := flat1_some h
  obtain ⟨h, hf⟩ := h
  replace h := av1Eq_some h
  obtain ⟨rfl, h⟩ := h
  exact ⟨is, h, List.prefix_refl _, .flat hf⟩
theorem rel0_ok : RelOk rel0K := fun x y is k h => by
  cases x with
  | ptr j o =>
    change ptrRel j o y is is.length k = true at h
    unfold ptrRel at h
    replace h := ptrK_some h
    obtain ⟨i, o', rfl, h⟩ := h
    replace h := ifK_and h
    obtain ⟨h1, h⟩ := h
    have := beq_of h1; subst this
    obtain ⟨is', h2, h3, h4⟩ := asgK_some h
    exact ⟨is', h2, h3, .ptr h4⟩
  | sl j o n c ex es =>
    change slRel j o n c ex es y is is.length k = true at h
    unfold slRel at h
    replace h := slK_some h
    rcases h with ⟨i, o', n', c', ex', es', rfl, h⟩ | ⟨_, h⟩ | ⟨_, h⟩
    · replace h := ifK_and h
      obtain ⟨h1, h⟩ := h
      have := beq_of h1; subst this
      replace h := ifK_and h
      obtain ⟨h1, h⟩ := h
      have := beq_of h1; subst this
      replace h := ifK_and h
      obtain ⟨h1, h⟩ := h
      have := beq_of h1; subst this
      replace h := ifK_and h
      obtain ⟨h1, h⟩ := h
      have := beq_of h1; subst this
      replace h := ifK_and h
      obtain ⟨h1, h⟩ := h
      have := beq_of h1; subst this
      replace h := ifK_and h
      obtain ⟨h1, h⟩ := h
      have := beq_of h1; subst this
      replace h := ifK_and h
      obtain ⟨h1, h⟩ := h
      subst h1
      replace h := ifK_and h
      obtain ⟨h1, h⟩ := h
      subst h1
      obtain ⟨is', h2, h3, h4⟩ := asgK_some h
      exact ⟨is', h2, h3, .sl h4⟩
    · cases h
    · cases h
  | bool => exact flat_rel h
  | int => exact flat_rel h
  | sym => exact flat_rel h
  | opq => exact flat_rel h
  | str => exact flat_rel h
  | nilp => exact flat_rel h
  | nils => exact flat_rel h
  | empt => exact flat_rel h
  | nilf => exact flat_rel h
  | nili => exact flat_rel h
  | _ => cases h
theorem rel1_ok : RelOk rel1K := fun x y is k h => by
  unfold rel1K at h
  replace h := ifcOr_some h
  rcases h with ⟨t, a, rfl, h⟩ | h
  · replace h := ifcK_some h
    rcases h with ⟨t', b, rfl, h⟩ | ⟨_, h⟩
    · replace h := ifK_and h
      obtain ⟨h1, h⟩ := h
      have := beq_of h1; subst this
      obtain ⟨is', h2, h3, h4⟩ := rel0_ok a b is k h
      exact ⟨is', h2, h3, .ifc h4⟩
    · cases h
  · exact rel0_ok x y is k h
theorem listR_ok {r : RelK} (hr : RelOk r) : ∀ (l m : List AV) (is : List Nat) (k : IsK), listR r l m is is.length k = true → ∃ is', k is' is'.length = true ∧ is <+: is' ∧ RelL (nums is') l m
  | [], [], is, k, h => ⟨is, h, List.prefix_refl _, .nil⟩
  | [], _ :: _, _, _, h => by cases h
  | _ :: _, [], _, _, h => by cases h
  | x :: l, y :: m, is, k, h => by
    obtain ⟨is1, h1, p1, r1⟩ := hr x y is (fun is cnt => listR r l m is cnt k) h
    obtain ⟨is2, h2, p2, r2⟩ := listR_ok hr l m is1 k h1
    exact ⟨is2, h2, p1.trans p2, .cons (r1.mono (nums_mono p2)) r2⟩
theorem rel2_ok : RelOk rel2K := fun x y is k h => by
  unfold rel2K at h
  replace h := aggOr_some h
  rcases h with ⟨l, rfl, h⟩ | h
  · replace h := aggK_some h
    obtain ⟨m, rfl, h⟩ := h
    obtain ⟨is', h2, h3, h4⟩ := listR_ok rel1_ok l m is k h
    exact ⟨is', h2, h3, .agg h4⟩
  · exact rel1_ok x y is k h
theorem rel3_ok : RelOk rel3K := fun x y is k h => by
  unfold rel3K at h
  replace h := tupOr_some h
  rcases h with ⟨l, rfl, h⟩ | h
  · replace h := tupK_some h
    obtain ⟨m, rfl, h⟩ := h
    obtain ⟨is', h2, h3, h4⟩ := listR_ok rel2_ok l m is k h
    exact ⟨is', h2, h3, .tup h4⟩
  · exact rel2_ok x y is k h
/-- Blocks, one by one. -/
noncomputable def blocksK (h : T Blk) (bl : List (List AV)) : Nat → List Nat → Nat → IsK → Bool :=
  @List.rec (List AV) (fun _ => Nat → List Nat → Nat → IsK → Bool) (fun _ is cnt k => k is cnt)
    (fun cs _ ih b is cnt k => nthK is b fun i => blkK h i fun N t => lenK cs 0 fun n => ifK (Nat.beq N n) (forceN (Nat.add N 7) fun q => freeK t q (readK t N 0 fun cs' => listR rel1K cs cs' is cnt fun is cnt => forceN (Nat.succ b) fun b => ih b is cnt k)) false) bl
/-- Of the blocks that are known: how they go together. -/
def BlkRel (σ : Nat → Option Nat) (h : T Blk) (b : Nat) (cs : List AV) : Prop := ∃ i t cs', σ b = some i ∧ h.get i = some (.live cs.length t) ∧ cs'.length = cs.length ∧ (∀ q, q < cs.length → t.get q = cs'[q]?) ∧ RelL σ cs cs' ∧ t.get (cs.length + 7) = none
theorem BlkRel.mono {σ σ' : Nat → Option Nat} {h : T Blk} {b : Nat} {cs : List AV} (hs : ∀ j i, σ j = some i → σ' j = some i) (k : BlkRel σ h b cs) : BlkRel σ' h b cs := by
  obtain ⟨i, t, cs', h1, h2, h3, h4, h5, h6⟩ := k
  exact ⟨i, t, cs', hs _ _ h1, h2, h3, h4, h5.mono hs, h6⟩
theorem blocksK_some {h : T Blk} : ∀ (bl : List (List AV)) (b : Nat) (is : List Nat) (k : IsK), blocksK h bl b is is.length k = true → ∃ is', k is' is'.length = true ∧ is <+: is' ∧ ∀ q cs, bl[q]? = some cs → BlkRel (nums is') h (b + q) cs
  | [], b, is, k, e => ⟨is, e, List.prefix_refl _, fun q cs hq => by simp at hq⟩
  | cs :: bl, b, is, k, e => by
    replace e := nthK_some (k := fun i => blkK h i fun N t => lenK cs 0 fun n => ifK (Nat.beq N n) (forceN (Nat.add N 7) fun q => freeK t q (readK t N 0 fun cs' => listR rel1K cs cs' is is.length fun is cnt => forceN (Nat.succ b) fun b => blocksK h bl b is cnt k)) false) e
    obtain ⟨i, hi, e⟩ := e
    replace e := blkK_some e
    obtain ⟨N, t, hb, e⟩ := e
    rw [lenK_eq] at e
    replace e := ifK_and e
    obtain ⟨hN, e⟩ := e
    have hN := beq_of hN
    rw [Nat.zero_add] at hN
    subst hN
    rw [forceN_eq] at e
    obtain ⟨hfr, e⟩ := freeK_some e
    replace e := readK_some e
    obtain ⟨cs', hl, hg, e⟩ := e
    replace e := listR_ok rel1_ok cs cs' is _ e
    obtain ⟨is1, e, p1, r1⟩ := e
    rw [forceN_eq] at e
    replace e := blocksK_some bl (b + 1) is1 k e
    obtain ⟨is2, e, p2, r2⟩ := e
    refine ⟨is2, e, p1.trans p2, fun q cs0 hq => ?_⟩
    cases q with
    | zero =>
      simp at hq; subst hq
      exact ⟨i, t, cs', nums_mono (p1.trans p2) _ _ hi, hb, hl, fun q hq => by have := hg q hq; rwa [Nat.zero_add] at this, r1.mono (nums_mono p2), hfr⟩
    | succ q =>
      have := r2 q cs0 (by simpa using hq)
      rwa [show b + 1 + q = b + (q + 1) from by omega] at this
noncomputable def notInK (x : Nat) (k : Bool) (l : List Nat) : Bool := @List.rec Nat (fun _ => Bool) k (fun y _ ih => notK (Nat.beq x y) ih) l
noncomputable def nodupK (k : Bool) (l : List Nat) : Bool := @List.rec Nat (fun _ => Bool) k (fun x l ih => notInK x ih l) l
theorem notInK_some {x : Nat} {k : Bool} : ∀ {l : List Nat}, notInK x k l = true → k = true ∧ x ∉ l
  | [], h => ⟨h, by simp⟩
  | y :: l, h => by
    replace h := notK_some (b := Nat.beq x y) (k := notInK x k l) h
    obtain ⟨h1, h⟩ := h
    replace h := notInK_some h
    obtain ⟨h, h2⟩ := h
    exact ⟨h, by simp [bne_of h1, h2]⟩
theorem nodupK_some {k : Bool} : ∀ {l : List Nat}, nodupK k l = true → k = true ∧ l.Nodup
  | [], h => ⟨h, by simp⟩
  | x :: l, h => by
    replace h := notInK_some (k := nodupK k l) (l := l) h
    obtain ⟨h, h1⟩ := h
    replace h := nodupK_some h
    obtain ⟨h, h2⟩ := h
    exact ⟨h, by simp [h1, h2]⟩
noncomputable def matchK (xs ys : List AV) (bl : List (List AV)) (h : T Blk) (is0 : List Nat) (k : List Nat → Bool) : Bool :=
  lenK is0 0 fun c => listR rel3K xs ys is0 c fun is cnt => blocksK h bl 0 is cnt fun is cnt => lenK bl 0 fun nb => ifK (Nat.beq nb cnt) (nodupK (k is) is) false
theorem matchK_some {xs ys : List AV} {bl : List (List AV)} {h : T Blk} {is0 : List Nat} {k : List Nat → Bool} (e : matchK xs ys bl h is0 k = true) :
    ∃ is, k is = true ∧ is0 <+: is ∧ is.length = bl.length ∧ is.Nodup ∧ RelL (nums is) xs ys ∧ ∀ q cs, bl[q]? = some cs → BlkRel (nums is) h q cs := by
  unfold matchK at e
  rw [lenK_eq, Nat.zero_add] at e
  replace e := listR_ok rel3_ok xs ys is0 _ e
  obtain ⟨is1, e, p1, r1⟩ := e
  replace e := blocksK_some bl 0 is1 _ e
  obtain ⟨is2, e, p2, r2⟩ := e
  rw [lenK_eq] at e
  replace e := ifK_and e
  obtain ⟨hn, e⟩ := e
  have hn := beq_of hn
  replace e := nodupK_some e
  obtain ⟨e, hd⟩ := e
  exact ⟨is2, e, p1.trans p2, by omega, hd, r1.mono (nums_mono p2), fun q cs hq => by have := r2 q cs hq; rwa [Nat.zero_add] at this⟩

/-! ### Data that are laid -/
def BlkL (E : Env) (ρ : Nat → Option Loc) (w : World) (L : Loc) (cs : List AV) : Prop :=
  ∃ c e z, w.heap[L.b]? = some (.cells c e z) ∧ (∀ k, k < c.size + L.pl → ¬ (z.1 ≤ k ∧ k < z.2)) ∧ c.size = L.sz ∧ ∀ k a, cs[k]? = some a → ∃ v, c[L.o + k]? = some v ∧ VR E ρ a v ∧ v.oneCell' = true
structure LayIn (E : Env) (ρ : Nat → Option Loc) (w : World) (bl : List (List AV)) : Prop where
  at_ : ∀ q cs, bl[q]? = some cs → ∃ L, ρ q = some L ∧ BlkL E ρ w L cs
  inj : ∀ q q' L L', q < bl.length → q' < bl.length → q ≠ q' → ρ q = some L → ρ q' = some L' → L.b ≠ L'.b
theorem BlkL.lt {E : Env} {ρ : Nat → Option Loc} {w : World} {L : Loc} {cs : List AV} (h : BlkL E ρ w L cs) : L.b < w.heap.size := by
  obtain ⟨c, e, z, h1, _⟩ := h
  exact (Array.getElem?_eq_some_iff.1 h1).1
/-- A call, from data to data. -/
structure Ent where
  as : List AV
  bl : List (List AV)
  r : AV
  out : List (List AV)
def EntOk (P : Program) (E : Env) (f : Nat) (e : Ent) : Prop := ∀ ρ w vs, (∀ q, e.bl.length ≤ q → ρ q = none) → LayIn E ρ w e.bl → VRs E ρ e.as vs → Calls P f vs.toArray w (Ret fun v w' => ∃ ρ', (∀ q, q < e.bl.length → ρ' q = ρ q) ∧ (∀ q, (e.bl ++ e.out).length ≤ q → ρ' q = none) ∧ LayIn E ρ' w' (e.bl ++ e.out) ∧ VR E ρ' e.r v ∧
  w'.os = w.os ∧ w'.tape = w.tape ∧ w'.output = w.output ∧ w.heap.size ≤ w'.heap.size ∧ (∀ b, b < w.heap.size → (∀ q L, q < e.bl.length → ρ q = some L → L.b ≠ b) → w'.heap[b]? = w.heap[b]?) ∧ ∀ q L, e.bl.length ≤ q → q < (e.bl ++ e.out).length → ρ' q = some L → w.heap.size ≤ L.b)

/-! ### by the evaluator's run -/
noncomputable def layK (bl : List (List AV)) : T Blk → Nat → (T Blk → Nat → Bool) → Bool :=
  @List.rec (List AV) (fun _ => T Blk → Nat → (T Blk → Nat → Bool) → Bool) (fun h nx k => k h nx) (fun cs _ ih h nx k => mkK cs h nx fun h nx => ih h nx k) bl
noncomputable def idsK (n : Nat) : Nat → (List Nat → Bool) → Bool := @Nat.rec (fun _ => Nat → (List Nat → Bool) → Bool) (fun _ k => k []) (fun _ ih i k => forceN (Nat.succ i) fun j => ih j fun r => k (i :: r)) n
theorem idsK_some : ∀ {n i : Nat} {k : List Nat → Bool}, idsK n i k = true → ∃ is, k is = true ∧ is.length = n ∧ ∀ q, q < n → is[q]? = some (i + q)
  | 0, i, k, h => ⟨[], h, rfl, fun q hq => by omega⟩
  | n + 1, i, k, h => by
    change forceN (Nat.succ i) (fun j => idsK n j fun r => k (i :: r)) = true at h
    rw [forceN_eq] at h
    replace h := idsK_some h
    obtain ⟨is, h, h1, h2⟩ := h
    refine ⟨i :: is, h, by simp [h1], fun q hq => ?_⟩
    cases q with
    | zero => rfl
    | succ q => have := h2 q (by omega); rw [List.getElem?_cons_succ, this]; congr 1; omega
theorem layK_some : ∀ {bl : List (List AV)} {h : T Blk} {nx : Nat} {k : T Blk → Nat → Bool}, layK bl h nx k = true → Fresh h nx → ∃ h', k h' (nx + bl.length) = true ∧ Fresh h' (nx + bl.length) ∧ (∀ i, i < nx → h'.get i = h.get i) ∧ ∀ q cs, bl[q]? = some cs → ∃ t, h'.get (nx + q) = some (.live cs.length t) ∧ (∀ j, j < cs.length → t.get j = cs[j]?) ∧ t.get (cs.length + 7) = none
  | [], h, nx, k, e, hf => ⟨h, e, hf, fun _ _ => rfl, fun q cs hq => by simp at hq⟩
  | cs :: bl, h, nx, k, e, hf => by
    replace e := mkK_some (k := fun h nx => layK bl h nx k) e
    obtain ⟨t, h1, ht, hu, e⟩ := e
    obtain ⟨h2, e, f2, g2, r2⟩ := layK_some e (hf.new hu)
    have en : nx + 1 + bl.length = nx + (cs :: bl).length := by simp only [List.length_cons]; omega
    rw [en] at e f2
    refine ⟨h2, e, f2, fun i hi => by rw [g2 i (by omega), hu, if_neg (by omega)], fun q cs0 hq => ?_⟩
    cases q with
    | zero =>
      simp at hq; subst hq
      exact ⟨t, by rw [Nat.add_zero, g2 nx (by omega), hu, if_pos rfl], fun j hj => by rw [ht, if_pos hj], by rw [ht, if_neg (by omega)]⟩
    | succ q =>
      obtain ⟨t', h3, h4⟩ := r2 q cs0 (by simpa using hq)
      exact ⟨t', by rw [← h3]; congr 1; omega, h4⟩
noncomputable def entK (P : Program) (F : Facts) (fuel depth : Nat) (fns : List FnD) (orcs : List (Nat × FnE)) (mixs : List (Nat × (Orc → Orc))) (f : Nat) (e : Ent) : Bool :=
  layK e.bl .l 0 fun h nx => runMK P F fuel depth fns orcs mixs f e.as h nx fun r h' _ => appK e.bl e.out fun bo => lenK e.bl 0 fun nb => idsK nb 0 fun is0 => matchK [e.r] [r] bo h' is0 fun _ => true
section
variable {P : Program} {E : Env} {F : Facts}
theorem entK_ok (hF : F.Of E) (hm : P.follows .mixedOrders = true) {fuel depth : Nat} {fns : List FnD} {orcs : List (Nat × FnE)} {mixs : List (Nat × (Orc → Orc))} (hfns : ∀ d ∈ fns, d.Of P) (horcs : ∀ p ∈ orcs, FnRel P E F p.1 p.2) (hmix : ∀ p ∈ mixs, MixOk P E p) {f : Nat} (hf : FnHas P f) {e : Ent}
    (hk : entK P F fuel depth fns orcs mixs f e = true) : EntOk P E f e := by
  unfold entK at hk
  obtain ⟨h, hk, hfr, _, hbl⟩ := layK_some hk (fun i _ => T.get_l i)
  simp only [Nat.zero_add] at hk hfr hbl
  obtain ⟨r, h', nx', hk, _, _, hC⟩ := runMK_some (E := E) hF hm hfns horcs hmix hf hk hfr
  rw [appK_eq, lenK_eq, Nat.zero_add] at hk
  replace hk := idsK_some hk
  obtain ⟨is0, hk, hl0, hi0⟩ := hk
  obtain ⟨is, _, hp, hlen, hnd, hr, hB⟩ := matchK_some hk
  have hid : ∀ q, q < e.bl.length → is[q]? = some q := fun q hq => by
    have := hi0 q hq
    rw [Nat.zero_add] at this
    exact nums_mono hp q q this
  have hlive : ∀ i n t, h.get i = some (.live n t) → i < e.bl.length := fun i n t hi => hfr.lt hi
  intro ρ w vs hnone hL hvs
  have hI : Inv E ρ h.get w := by
    refine ⟨fun i n t hi => ?_, fun i j n t m u hi hj hne L M hL1 hM => hL.inj i j L M (hlive _ _ _ hi) (hlive _ _ _ hj) hne hL1 hM⟩
    have hlt := hlive i n t hi
    have hcs : e.bl[i]? = some e.bl[i] := by simp [hlt]
    obtain ⟨L, h1, c, el, z, h2, h3, h4, h5⟩ := hL.at_ i _ hcs
    obtain ⟨t', h6, h7, h9⟩ := hbl i _ hcs
    rw [hi] at h6; injection h6 with h6; injection h6 with h6 h8; subst h6; subst h8
    refine ⟨L, h1, c, el, z, h2, h3, h4, fun k hk => ?_, fun ty hty => by rw [h9] at hty; cases hty⟩
    have ha : e.bl[i][k]? = some e.bl[i][k] := by simp [hk]
    obtain ⟨v, g1, g2, g3⟩ := h5 k _ ha
    exact ⟨_, v, by rw [h7 k hk, ha], g1, g2, g3⟩
  refine (hC ρ w vs (fun i h1 _ => hnone i h1) hI hvs).mono ?_
  rintro x w' ⟨v, rfl, ρ1, s1, s2, s3⟩
  refine ⟨v, rfl, fun q => (is[q]?).bind ρ1, fun q hq => ?_, fun q hq => (by show (is[q]?).bind ρ1 = none; rw [List.getElem?_eq_none (by omega)]; rfl), ?_, ?_, s1.os, s1.tape, s1.output, s1.size, fun b hb hn => s1.keep b hb fun i n t L hi hL1 => hn i L (hlive _ _ _ hi) hL1, ?_⟩
  · simp only [hid q hq, Option.bind_some]
    exact s1.same q (.inl hq)
  · have hσ : ∀ j i, nums is j = some i → (is[j]?).bind ρ1 = ρ1 i := fun j i hj => by
      show (is[j]?).bind ρ1 = ρ1 i
      rw [show is[j]? = some i from hj]; rfl
    refine ⟨fun q cs hq => ?_, fun q q' L L' hq hq' hne h1 h2 => ?_⟩
    · obtain ⟨i, t, cs', g1, g2, g3, g4, g5, _⟩ := hB q cs hq
      obtain ⟨L, hL1, c, el, z, b1, b2, b3, b4, _⟩ := s2.at_ i _ t g2
      refine ⟨L, by rw [show is[q]? = some i from g1]; exact hL1, c, el, z, b1, b2, b3, fun k a ha => ?_⟩
      have hk : k < cs.length := (List.getElem?_eq_some_iff.1 ha).1
      obtain ⟨av, v, c1, c2, c3, c4⟩ := b4 k hk
      obtain ⟨b, d1, d2⟩ := g5.get ha
      rw [g4 k hk, d1] at c1
      injection c1 with c1; subst c1
      exact ⟨v, c2, (d2.vr hσ v).2 c3, c4⟩
    · have e1 : ∀ q, q < (e.bl ++ e.out).length → ∃ i n t, is[q]? = some i ∧ h'.get i = some (.live n t) := fun q hq => by
        obtain ⟨i, t, cs', g1, g2, _⟩ := hB q _ (List.getElem?_eq_getElem hq)
        exact ⟨i, _, t, g1, g2⟩
      obtain ⟨i, n, t, g1, g2⟩ := e1 q hq
      obtain ⟨i', n', t', g1', g2'⟩ := e1 q' hq'
      rw [g1] at h1; rw [g1'] at h2
      refine s2.inj i i' n t n' t' g2 g2' (fun ee => hne ?_) L L' h1 h2
      subst ee
      have hq1 : q < is.length := by omega
      exact (List.getElem?_inj hq1 hnd).1 (by rw [g1, g1'])
  · have hσ : ∀ j i, nums is j = some i → (is[j]?).bind ρ1 = ρ1 i := fun j i hj => by
      show (is[j]?).bind ρ1 = ρ1 i
      rw [show is[j]? = some i from hj]; rfl
    cases hr with
    | cons h0 _ => exact (h0.vr hσ v).2 s3
  · intro q L hq hq2 hL1
    obtain ⟨i, t, cs', g1, g2, _⟩ := hB q _ (List.getElem?_eq_getElem hq2)
    replace hL1 : (is[q]?).bind ρ1 = some L := hL1
    rw [show is[q]? = some i from g1] at hL1
    replace hL1 : ρ1 i = some L := hL1
    rcases s1.own i _ t L g2 hL1 with h1 | ⟨j, m, u, M, h1, h2, h3⟩
    · exact h1
    · exfalso
      have hj := hlive _ _ _ h1
      obtain ⟨i', t', cs'', g1', g2', _⟩ := hB j _ (List.getElem?_eq_getElem (by rw [List.length_append]; omega))
      have : i' = j := by have := hid j hj; rw [show is[j]? = some i' from g1'] at this; exact Option.some.inj this
      subst this
      have hne : i' ≠ i := fun ee => by
        subst ee
        have hq1 : q < is.length := by omega
        have := (List.getElem?_inj hq1 hnd).1 (by rw [show is[q]? = some i' from g1, show is[i']? = some i' from g1'] : is[q]? = is[i']?)
        omega
      exact s2.inj i' i _ _ _ _ g2' g2 hne M L (by rw [s1.same i' (.inl hj)]; exact h2) hL1 h3

/-! ### how it is used -/
noncomputable def numOf (is : List Nat) (nb nx j : Nat) (k : Nat → Bool) : Bool := @Bool.rec (fun _ => Bool) (forceN (Nat.add nx (Nat.sub j nb)) k) (nthK is j k) (Nat.blt j nb)
abbrev RenK := AV → (AV → Bool) → Bool
noncomputable def ren0K (is : List Nat) (nb nx : Nat) : RenK := fun x k =>
  @AV.casesOn (fun _ => Bool) x (fun _ => flat1 x (k x)) (fun _ _ => flat1 x (k x)) (fun _ _ => flat1 x (k x)) (fun _ _ => flat1 x (k x)) (fun _ => flat1 x (k x)) (fun j o => numOf is nb nx j fun i => k (.ptr i o)) (flat1 x (k x)) (fun _ => false)
    (fun j o n c ex es => ifK (Nat.beq o 0) (ifK (Nat.beq n c) (ifK ex (numOf is nb nx j fun i => k (.sl i 0 n n true es)) false) false) false) (flat1 x (k x)) (flat1 x (k x)) (fun _ _ _ => false) (flat1 x (k x)) (fun _ _ => false) (flat1 x (k x)) (fun _ => false) (fun _ => false) false (fun _ _ => false)
noncomputable def ren1K (is : List Nat) (nb nx : Nat) : RenK := fun x k => ifcOr x (fun t a => ren0K is nb nx a fun b => k (.ifc t b)) (ren0K is nb nx x k)
noncomputable def renL (r : RenK) (l : List AV) : (List AV → Bool) → Bool := @List.rec AV (fun _ => (List AV → Bool) → Bool) (fun k => k []) (fun x _ ih k => r x fun y => ih fun ys => k (y :: ys)) l
noncomputable def ren2K (is : List Nat) (nb nx : Nat) : RenK := fun x k => aggOr x (fun l => renL (ren1K is nb nx) l fun m => k (.agg m)) (ren1K is nb nx x k)
noncomputable def ren3K (is : List Nat) (nb nx : Nat) : RenK := fun x k => tupOr x (fun l => renL (ren2K is nb nx) l fun m => k (.tup m)) (ren2K is nb nx x k)
/-- The old numbers, and the new ones. -/
def numsOf (is : List Nat) (nb nx : Nat) : Nat → Option Nat := fun j => if j < nb then is[j]? else some (nx + (j - nb))
theorem numOf_some {is : List Nat} {nb nx j : Nat} {k : Nat → Bool} (h : numOf is nb nx j k = true) : ∃ i, k i = true ∧ numsOf is nb nx j = some i := by
  unfold numOf at h
  cases hb : Nat.blt j nb with
  | true =>
    rw [hb] at h
    replace h := nthK_some h
    obtain ⟨i, h1, h⟩ := h
    exact ⟨i, h, by unfold numsOf; rw [if_pos (blt_of hb)]; exact h1⟩
  | false =>
    rw [hb] at h
    rw [forceN_eq] at h
    have : ¬ j < nb := fun hl => by rw [← Nat.blt_eq] at hl; rw [hl] at hb; cases hb
    exact ⟨_, h, by unfold numsOf; rw [if_neg this]; rfl⟩
def RenOk (σ : Nat → Option Nat) (r : RenK) : Prop := ∀ x k, r x k = true → ∃ y, k y = true ∧ Rel σ x y
theorem flat_ren {σ : Nat → Option Nat} {x : AV} {k : AV → Bool} (h : flat1 x (k x) = true) : ∃ y, k y = true ∧ Rel σ x y := by
  replace h := flat1_some h
  obtain ⟨h, hf⟩ := h
  exact ⟨x, h, .flat hf⟩
theorem ren0_ok {is : List Nat} {nb nx : Nat} : RenOk (numsOf is nb nx) (ren0K is nb nx) := fun x k h => by
  cases x with
  | ptr j o =>
    replace h := numOf_some (k := fun i => k (.ptr i o)) h
    obtain ⟨i, h, h1⟩ := h
    exact ⟨_, h, .ptr h1⟩
  | sl j o n c ex es =>
    replace h := ifK_and (b := Nat.beq o 0) (t := ifK (Nat.beq n c) (ifK ex (numOf is nb nx j fun i => k (.sl i 0 n n true es)) false) false) h
    obtain ⟨h1, h⟩ := h
    have := beq_of h1; subst this
    replace h := ifK_and h
    obtain ⟨h1, h⟩ := h
    have := beq_of h1; subst this
    replace h := ifK_and h
    obtain ⟨h1, h⟩ := h
    subst h1
    replace h := numOf_some h
    obtain ⟨i, h, h1⟩ := h
    exact ⟨_, h, .sl h1⟩
  | bool => exact flat_ren h
  | int => exact flat_ren h
  | sym => exact flat_ren h
  | opq => exact flat_ren h
  | str => exact flat_ren h
  | nilp => exact flat_ren h
  | nils => exact flat_ren h
  | empt => exact flat_ren h
  | nilf => exact flat_ren h
  | nili => exact flat_ren h
  | _ => cases h
theorem ren1_ok {is : List Nat} {nb nx : Nat} : RenOk (numsOf is nb nx) (ren1K is nb nx) := fun x k h => by
  unfold ren1K at h
  replace h := ifcOr_some h
  rcases h with ⟨t, a, rfl, h⟩ | h
  · replace h := ren0_ok a _ h
    obtain ⟨b, h, h1⟩ := h
    exact ⟨_, h, .ifc h1⟩
  · exact ren0_ok x k h
theorem renL_ok {σ : Nat → Option Nat} {r : RenK} (hr : RenOk σ r) : ∀ (l : List AV) (k : List AV → Bool), renL r l k = true → ∃ m, k m = true ∧ RelL σ l m
  | [], k, h => ⟨[], h, .nil⟩
  | x :: l, k, h => by
    replace h := hr x (fun y => renL r l fun ys => k (y :: ys)) h
    obtain ⟨y, h, h1⟩ := h
    replace h := renL_ok hr l _ h
    obtain ⟨m, h, h2⟩ := h
    exact ⟨_, h, .cons h1 h2⟩
theorem ren2_ok {is : List Nat} {nb nx : Nat} : RenOk (numsOf is nb nx) (ren2K is nb nx) := fun x k h => by
  unfold ren2K at h
  replace h := aggOr_some h
  rcases h with ⟨l, rfl, h⟩ | h
  · replace h := renL_ok ren1_ok l _ h
    obtain ⟨m, h, h1⟩ := h
    exact ⟨_, h, .agg h1⟩
  · exact ren1_ok x k h
theorem ren3_ok {is : List Nat} {nb nx : Nat} : RenOk (numsOf is nb nx) (ren3K is nb nx) := fun x k h => by
  unfold ren3K at h
  replace h := tupOr_some h
  rcases h with ⟨l, rfl, h⟩ | h
  · replace h := renL_ok ren2_ok l _ h
    obtain ⟨m, h, h1⟩ := h
    exact ⟨_, h, .tup h1⟩
  · exact ren2_ok x k h
/-- The new blocks. -/
noncomputable def outsK (r : RenK) (out : List (List AV)) : T Blk → Nat → (T Blk → Nat → Bool) → Bool :=
  @List.rec (List AV) (fun _ => T Blk → Nat → (T Blk → Nat → Bool) → Bool) (fun h nx k => k h nx) (fun cs _ ih h nx k => renL r cs fun cs' => mkK cs' h nx fun h nx => ih h nx k) out
theorem outsK_some {σ : Nat → Option Nat} {r : RenK} (hr : RenOk σ r) : ∀ {out : List (List AV)} {h : T Blk} {nx : Nat} {k : T Blk → Nat → Bool}, outsK r out h nx k = true → Fresh h nx → ∃ h', k h' (nx + out.length) = true ∧ Fresh h' (nx + out.length) ∧ (∀ i, i < nx → h'.get i = h.get i) ∧
    ∀ q cs, out[q]? = some cs → ∃ t cs', h'.get (nx + q) = some (.live cs.length t) ∧ cs'.length = cs.length ∧ (∀ j, j < cs.length → t.get j = cs'[j]?) ∧ RelL σ cs cs' ∧ t.get (cs.length + 7) = none
  | [], h, nx, k, e, hf => ⟨h, e, hf, fun _ _ => rfl, fun q cs hq => by simp at hq⟩
  | cs :: out, h, nx, k, e, hf => by
    replace e := renL_ok hr cs (fun cs' => mkK cs' h nx fun h nx => outsK r out h nx k) e
    obtain ⟨cs', e, hrel⟩ := e
    replace e := mkK_some e
    obtain ⟨t, h1, ht, hu, e⟩ := e
    obtain ⟨h2, e, f2, g2, r2⟩ := outsK_some hr e (hf.new hu)
    have en : nx + 1 + out.length = nx + (cs :: out).length := by simp only [List.length_cons]; omega
    rw [en] at e f2
    have hl := hrel.length
    refine ⟨h2, e, f2, fun i hi => by rw [g2 i (by omega), hu, if_neg (by omega)], fun q cs0 hq => ?_⟩
    cases q with
    | zero =>
      simp at hq; subst hq
      exact ⟨t, cs', by rw [Nat.add_zero, g2 nx (by omega), hu, if_pos rfl, hl], hl.symm, fun j hj => by rw [ht, if_pos (by omega)], hrel, by rw [ht, if_neg (by omega)]⟩
    | succ q =>
      obtain ⟨t', cs'', h3, h4⟩ := r2 q cs0 (by simpa using hq)
      exact ⟨t', cs'', by rw [← h3]; congr 1; omega, h4⟩
noncomputable def memoGo (e : Ent) (is : List Nat) (h : T Blk) (nx : Nat) (k : KV) : Bool :=
  lenK e.bl 0 fun nb => outsK (ren1K is nb nx) e.out h nx fun h nx' => ren3K is nb nx e.r fun r => k r h nx'
/-- What is in the table is taken from there; else the code is run. -/
noncomputable def gMemo (tab : List Ent) (run : Orc) : Orc := fun xs h nx k =>
  @List.rec Ent (fun _ => Bool) (run xs h nx k) (fun e _ ih => @Bool.rec (fun _ => Bool) ih (matchK e.as xs e.bl h [] fun is => memoGo e is h nx k) (matchK e.as xs e.bl h [] fun _ => true)) tab
theorem memoGo_ok {f : Nat} (hf : FnHas P f) {e : Ent} (he : EntOk P E f e) {as : List AV} {h : T Blk} {nx : Nat} {is : List Nat} {k : KV} (hfr : Fresh h nx) (hlen : is.length = e.bl.length) (hnd : is.Nodup) (hr : RelL (nums is) e.as as) (hB : ∀ q cs, e.bl[q]? = some cs → BlkRel (nums is) h q cs) (hk : memoGo e is h nx k = true) :
    ∃ r h' nx', k r h' nx' = true ∧ Fresh h' nx' ∧ nx ≤ nx' ∧ CallR P E f as h.get nx r h'.get nx' := by
  unfold memoGo at hk
  rw [lenK_eq, Nat.zero_add] at hk
  obtain ⟨h', hk, hfr', hold, hnew⟩ := outsK_some (σ := numsOf is e.bl.length nx) ren1_ok hk hfr
  replace hk := ren3_ok _ _ hk
  obtain ⟨r, hk, hrr⟩ := hk
  refine ⟨r, h', _, hk, hfr', Nat.le_add_right _ _, .inl ⟨hf, fun ρ w vs hfree hI hvs => ?_⟩⟩
  have hislt : ∀ q, q < e.bl.length → ∃ i n t, is[q]? = some i ∧ h.get i = some (.live n t) ∧ i < nx := fun q hq => by
    obtain ⟨i, t, cs', g1, g2, _⟩ := hB q _ (List.getElem?_eq_getElem hq)
    exact ⟨i, _, t, g1, g2, hfr.lt g2⟩
  have hσ0 : ∀ j i, nums is j = some i → (is[j]?).bind ρ = ρ i := fun j i hj => by rw [show is[j]? = some i from hj]; rfl
  -- the data as they are laid
  have hL : LayIn E (fun q => (is[q]?).bind ρ) w e.bl := by
    refine ⟨fun q cs hq => ?_, fun q q' L L' hq hq' hne h1 h2 => ?_⟩
    · obtain ⟨i, t, cs', g1, g2, g3, g4, g5, _⟩ := hB q cs hq
      obtain ⟨L, hL1, c, el, z, b1, b2, b3, b4, _⟩ := hI.at_ i _ t g2
      refine ⟨L, by show (is[q]?).bind ρ = _; rw [show is[q]? = some i from g1]; exact hL1, c, el, z, b1, b2, b3, fun k a ha => ?_⟩
      have hk : k < cs.length := (List.getElem?_eq_some_iff.1 ha).1
      obtain ⟨av, v, c1, c2, c3, c4⟩ := b4 k hk
      obtain ⟨b, d1, d2⟩ := g5.get ha
      rw [g4 k hk, d1] at c1
      injection c1 with c1; subst c1
      exact ⟨v, c2, (d2.vr (ρ0 := fun q => (is[q]?).bind ρ) hσ0 v).2 c3, c4⟩
    · obtain ⟨i, n, t, g1, g2, _⟩ := hislt q hq
      obtain ⟨i', n', t', g1', g2', _⟩ := hislt q' hq'
      simp only [g1, g1', Option.bind_some] at h1 h2
      refine hI.inj i i' n t n' t' g2 g2' (fun ee => hne ?_) L L' h1 h2
      subst ee
      exact (List.getElem?_inj (by omega) hnd).1 (by rw [g1, g1'])
  refine (he _ w vs (fun q hq => by show (is[q]?).bind ρ = none; rw [List.getElem?_eq_none (by omega)]; rfl) hL ((hr.vr (ρ0 := fun q => (is[q]?).bind ρ) hσ0 vs).2 hvs)).mono ?_
  rintro x w' ⟨v, rfl, ρ1, hsame, hnone, hL1, hv, hos, htape, hout, hsize, hkeep, hfresh⟩
  -- where all lies now
  let ρ2 : Nat → Option Loc := fun i => if nx ≤ i ∧ i < nx + e.out.length then ρ1 (e.bl.length + (i - nx)) else ρ i
  have hext : Ext ρ ρ2 := fun i L hi => by
    show (if nx ≤ i ∧ i < nx + e.out.length then ρ1 (e.bl.length + (i - nx)) else ρ i) = some L
    rw [if_neg]; exact hi
    rintro ⟨a, b⟩
    rw [hfree i a b] at hi; cases hi
  have hold2 : ∀ i, i < nx → ρ2 i = ρ i := fun i hi => by
    show (if nx ≤ i ∧ i < nx + e.out.length then ρ1 (e.bl.length + (i - nx)) else ρ i) = ρ i
    rw [if_neg (by omega)]
  have hnew2 : ∀ q, q < e.out.length → ρ2 (nx + q) = ρ1 (e.bl.length + q) := fun q hq => by
    show (if nx ≤ nx + q ∧ nx + q < nx + e.out.length then ρ1 (e.bl.length + (nx + q - nx)) else ρ (nx + q)) = _
    rw [if_pos (by omega)]; congr 2; omega
  have hσ : ∀ j i L, numsOf is e.bl.length nx j = some i → ρ1 j = some L → ρ2 i = some L := fun j i L hji hjL => by
    have hj : j < (e.bl ++ e.out).length := by
      rcases Nat.lt_or_ge j (e.bl ++ e.out).length with h | h
      · exact h
      · rw [hnone j h] at hjL; cases hjL
    unfold numsOf at hji
    split at hji
    · rename_i hlt
      obtain ⟨i', n, t, g1, g2, g3⟩ := hislt j hlt
      rw [g1] at hji; injection hji with hji; subst hji
      rw [hold2 _ g3, ← hjL, hsame j hlt]
      show ρ i' = (is[j]?).bind ρ
      rw [g1]; rfl
    · rename_i hlt
      injection hji with hji; subst hji
      rw [List.length_append] at hj
      rw [hnew2 _ (by omega), ← hjL]; congr 1; omega
  -- a live block of now
  have hlive : ∀ i n t, h'.get i = some (.live n t) → (i < nx ∧ h.get i = some (.live n t)) ∨ ∃ q, q < e.out.length ∧ i = nx + q := fun i n t hi => by
    rcases Nat.lt_or_ge i nx with hlt | hge
    · rw [hold i hlt] at hi; exact .inl ⟨hlt, hi⟩
    · refine .inr ⟨i - nx, ?_, by omega⟩
      rcases Nat.lt_or_ge (i - nx) e.out.length with h1 | h1
      · exact h1
      · rw [hfr' i (by omega)] at hi; cases hi
  -- where an old block lies that was not handed over
  have hkept : ∀ i n t L, h.get i = some (.live n t) → i ∉ is → ρ i = some L → w'.heap[L.b]? = w.heap[L.b]? := fun i n t L hi hni hL2 => by
    refine hkeep L.b (hI.blk hi hL2).lt fun q M hq hM => ?_
    obtain ⟨i', n', t', g1, g2, _⟩ := hislt q hq
    simp only [g1, Option.bind_some] at hM
    exact hI.inj i' i n' t' n t g2 hi (fun e => by subst e; exact hni (List.mem_of_getElem? g1)) M L hM hL2
  have hmem : ∀ i, i ∈ is → ∃ q, q < e.bl.length ∧ is[q]? = some i := fun i hi => by
    obtain ⟨q, hq, e1⟩ := List.getElem_of_mem hi
    exact ⟨q, by omega, by rw [List.getElem?_eq_getElem hq, e1]⟩
  have hblk : ∀ i n t, h'.get i = some (.live n t) → ∃ L, ρ2 i = some L ∧ BlkAt E ρ2 w' L n t ∧ ((i < nx ∧ ρ i = some L) ∨ ∃ q, q < e.out.length ∧ i = nx + q ∧ ρ1 (e.bl.length + q) = some L ∧ w.heap.size ≤ L.b) := by
    intro i n t hi
    rcases hlive i n t hi with ⟨hlt, hi⟩ | ⟨q, hq, rfl⟩
    · obtain ⟨L, hL2, hB2⟩ := hI.at_ i n t hi
      refine ⟨L, hext _ _ hL2, ?_, .inl ⟨hlt, hL2⟩⟩
      by_cases hin : i ∈ is
      · obtain ⟨q, hq, g1⟩ := hmem i hin
        obtain ⟨i', t', cs', g1', g2, g3, g4, g5, g6⟩ := hB q _ (List.getElem?_eq_getElem hq)
        rw [show is[q]? = some i' from g1'] at g1
        injection g1 with g1; subst g1
        rw [hi] at g2; injection g2 with g2; injection g2 with e1 e2; subst e1; subst e2
        obtain ⟨M, hM, c, el, z, b1, b2, b3, b4⟩ := hL1.at_ q e.bl[q] (by rw [List.getElem?_append_left hq]; exact List.getElem?_eq_getElem hq)
        have hML : M = L := by
          have := hsame q hq
          rw [hM] at this
          have h2 : (is[q]?).bind ρ = some L := by rw [show is[q]? = some i' from g1']; exact hL2
          rw [h2] at this
          exact Option.some.inj this
        subst hML
        refine ⟨c, el, z, b1, b2, b3, fun k hk => ?_, fun ty hty => by rw [g6] at hty; cases hty⟩
        have ha : e.bl[q][k]? = some e.bl[q][k] := by simp [hk]
        obtain ⟨v', c1, c2, c3⟩ := b4 k _ ha
        obtain ⟨b, d1, d2⟩ := g5.get ha
        refine ⟨b, v', by rw [g4 k hk, d1], c1, ?_, c3⟩
        refine d2.to (σ := nums is) (ρ0 := ρ1) (fun j i L hji hjL => ?_) v' c2
        have hj : j < e.bl.length := by have := (List.getElem?_eq_some_iff.1 hji).1; omega
        exact hσ j i L (by unfold numsOf; rw [if_pos hj]; exact hji) hjL
      · exact (hB2.same (hkept i n t L hi hin hL2)).ext hext
    · obtain ⟨t', cs', g1, g2, g3, g4, g6⟩ := hnew q _ (List.getElem?_eq_getElem hq)
      rw [g1] at hi; injection hi with hi; injection hi with e1 e2; subst e1; subst e2
      obtain ⟨L, hL2, c, el, z, b1, b2, b3, b4⟩ := hL1.at_ (e.bl.length + q) e.out[q] (by rw [List.getElem?_append_right (by omega), Nat.add_sub_cancel_left]; exact List.getElem?_eq_getElem hq)
      refine ⟨L, by rw [hnew2 q hq]; exact hL2, ⟨c, el, z, b1, b2, b3, fun k hk => ?_, fun ty hty => by rw [g6] at hty; cases hty⟩, .inr ⟨q, hq, rfl, hL2, hfresh _ L (by omega) (by rw [List.length_append]; omega) hL2⟩⟩
      have ha : e.out[q][k]? = some e.out[q][k] := by simp [hk]
      obtain ⟨v', c1, c2, c3⟩ := b4 k _ ha
      obtain ⟨b, d1, d2⟩ := g4.get ha
      exact ⟨b, v', by rw [g3 k hk, d1], c1, d2.to hσ v' c2, c3⟩
  refine ⟨v, rfl, ρ2, ⟨Nat.le_add_right _ _, hfree, fun i hi => ?_, hos, htape, hout, hsize, fun b hb hn => hkeep b hb fun q L hq hL2 => ?_, fun i n t L hi hL2 => ?_⟩, ⟨fun i n t hi => ?_, fun i k n t n' t' hi hk hne L M hL2 hM => ?_⟩, hrr.to hσ v hv⟩
  · show (if nx ≤ i ∧ i < nx + e.out.length then ρ1 (e.bl.length + (i - nx)) else ρ i) = ρ i
    rw [if_neg (by omega)]
  · obtain ⟨i, n, t, g1, g2, _⟩ := hislt q hq
    simp only [g1, Option.bind_some] at hL2
    exact hn i n t L g2 hL2
  · obtain ⟨L', g1, _, g3⟩ := hblk i n t hi
    rw [hL2] at g1; injection g1 with g1; subst g1
    rcases g3 with ⟨hlt, h1⟩ | ⟨q, _, _, _, h4⟩
    · rw [hold i hlt] at hi
      exact .inr ⟨i, n, t, L, hi, h1, rfl⟩
    · exact .inl h4
  · obtain ⟨L, g1, g2, _⟩ := hblk i n t hi
    exact ⟨L, g1, g2⟩
  · obtain ⟨L', g1, _, g3⟩ := hblk i n t hi
    rw [hL2] at g1; injection g1 with g1; subst g1
    obtain ⟨M', k1, _, k3⟩ := hblk k n' t' hk
    rw [hM] at k1; injection k1 with k1; subst k1
    rcases g3 with ⟨hlt, h1⟩ | ⟨q, hq, hiq, h3, h4⟩
    · rw [hold i hlt] at hi
      rcases k3 with ⟨hlt', h1'⟩ | ⟨q', _, _, _, h4'⟩
      · rw [hold k hlt'] at hk
        exact hI.inj i k n t n' t' hi hk hne L M h1 h1'
      · have := (hI.blk hi h1).lt; omega
    · rcases k3 with ⟨hlt', h1'⟩ | ⟨q', hq', hkq, h3', _⟩
      · rw [hold k hlt'] at hk
        have := (hI.blk hk h1').lt; omega
      · refine hL1.inj (e.bl.length + q) (e.bl.length + q') L M (by rw [List.length_append]; omega) (by rw [List.length_append]; omega) (by omega) h3 h3'
theorem memo_ok {f : Nat} (hf : FnHas P f) : ∀ {tab : List Ent}, (∀ e ∈ tab, EntOk P E f e) → ∀ run, OrcOk P E f run → OrcOk P E f (gMemo tab run)
  | [], _, run, hrun => fun xs h nx k hk hfr => hrun xs h nx k hk hfr
  | e :: tab, ht, run, hrun => fun xs h nx k hk hfr => by
    change @Bool.rec (fun _ => Bool) (gMemo tab run xs h nx k) (matchK e.as xs e.bl h [] fun is => memoGo e is h nx k) (matchK e.as xs e.bl h [] fun _ => true) = true at hk
    cases hm : matchK e.as xs e.bl h [] fun _ => true with
    | false =>
      rw [hm] at hk
      exact memo_ok hf (fun x hx => ht x (List.mem_cons_of_mem _ hx)) run hrun xs h nx k hk hfr
    | true =>
      rw [hm] at hk
      replace hk := matchK_some hk
      obtain ⟨is, hk, _, hlen, hnd, hr, hB⟩ := hk
      exact memoGo_ok hf (ht e List.mem_cons_self) hfr hlen hnd hr hB hk
end
end Go.Proofs.YtfgmmabggjjhgaaGreatDoor.Ev
