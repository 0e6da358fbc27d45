/- The evaluator: copy and clear. It speaks of any program; nothing of the claim's own program stands here. -/
import Derived.Test.YtfgmmabggjjhgaaGreatDoorEvR
namespace Go.Proofs.YtfgmmabggjjhgaaGreatDoor.Ev
open Go

inductive EOp where
  | st (n : Nat) (x y : COpd)
  | app (by_ es el : Nat) (x y : COpd)
  | cpy (es : Nat) (x y : COpd)
  | clr (es : Nat) (zs : List AV) (x : COpd)
  | appz (by_ es : Nat) (zs : List AV) (x y : COpd)
  | ustr (et : Nat) (x y : COpd)
/-- What a statement without a value yields. -/
noncomputable def und : AV := .tup []
noncomputable def wrK (h : T Blk) (i p m : Nat) (cs : List AV) (k : T Blk → Bool) : Bool := blkK h i fun n t => ifK (Nat.ble (Nat.add p m) n) (writeK cs t p fun t => setK (.live n t) 40 h i k) false
noncomputable def mkK (cs : List AV) (h : T Blk) (nx : Nat) (k : T Blk → Nat → Bool) : Bool := writeK cs .l 0 fun t => lenK cs 0 fun n => setK (.live n t) 40 h nx fun h => forceN (Nat.succ nx) fun nx => k h nx
/-- Is nothing kept there? -/
noncomputable def freeK (t : T AV) (q : Nat) (k : Bool) : Bool := @Bool.rec (fun _ => Bool) k false (getK (fun _ => true) t q)
noncomputable def mkTK (ty : Nat) (cs : List AV) (h : T Blk) (nx : Nat) (k : T Blk → Nat → Bool) : Bool := writeK cs .l 0 fun t => lenK cs 0 fun n => forceN (Nat.add n 7) fun q => setK (.glob ty) 40 t q fun t => setK (.live n t) 40 h nx fun h => forceN (Nat.succ nx) fun nx => k h nx
noncomputable def mkFK (f : AF) (cs : List AV) (h : T Blk) (nx : Nat) (k : T Blk → Nat → Bool) : Bool := @AF.rec (fun _ => Bool) (mkK cs h nx k) (fun ty => mkTK ty cs h nx k) (fun _ _ _ _ => mkK cs h nx k) f
noncomputable def srcK (es : Nat) (h : T Blk) (b : AV) (k : List AV → Nat → Bool) : Bool :=
  @AV.casesOn (fun _ => Bool) b (fun _ => false) (fun _ _ => false) (fun _ _ => false) (fun _ _ => false) (fun s => ifK (Nat.beq es 1) (atomAVs s fun cs => lenK s 0 fun n => k cs n) false) (fun _ _ => false) false (fun _ => false)
    (fun i p n _ _ es' => ifK (Nat.beq es es') (blkK h i fun m t => forceN (Nat.mul n es) fun q => ifK (Nat.ble (Nat.add p q) m) (readK t q p fun l => k l n) false) false) (k [] 0) (k [] 0) (fun _ _ _ => false) false (fun _ _ => false) false (fun _ => false) (fun _ => false) false (fun _ _ => false)
noncomputable def eSt (n : Nat) (x y : COpd) (fr : T AV) (h : T Blk) (nx : Nat) (k : AV → T Blk → Nat → Bool) : Bool :=
  opd2 fr x y fun a b => ptrK a fun i p => cellsK b fun cs => ones1K cs (lenK cs 0 fun m => ifK (Nat.beq m n) (wrK h i p m cs fun h => k und h nx) false)
/-- The block's type is kept in mind, or nothing is. -/
noncomputable def nameK (b : Bool) (ty : Nat) (t : T AV) (q : Nat) (k : T AV → Bool) : Bool := @Bool.rec (fun _ => Bool) (freeK t q (k t)) (setK (.glob ty) 40 t q k) b
/-- Whether it is: of bytes alone; where the old block may go on, if its type is known. -/
noncomputable def growB (by_ el : Nat) (ex : Bool) (t : T AV) (n : Nat) (k : Bool → Bool) : Bool :=
  @Bool.rec (fun _ => Bool) (k false) (@Bool.rec (fun _ => Bool) (forceN (Nat.add n 7) fun q => @Bool.rec (fun _ => Bool) (k false) (k true) (getK (fun g => nameB g el true) t q)) (k true) ex) (Nat.beq by_ 1)
noncomputable def mkBK (by_ el : Nat) (cs : List AV) (h : T Blk) (nx : Nat) (k : T Blk → Nat → Bool) : Bool := @Bool.rec (fun _ => Bool) (mkK cs h nx k) (mkTK el cs h nx k) (Nat.beq by_ 1)
/-- What was appended to goes on under a new number; where its capacity is not known the old one is forgotten. -/
noncomputable def growK (b : Bool) (ty i n : Nat) (t : T AV) (h : T Blk) (nx : Nat) (k : T Blk → Nat → Bool) (ex : Bool) : Bool :=
  forceN (Nat.add n 7) fun q => nameK b ty t q fun t => (@Bool.rec (fun _ => Bool) (setK .dead 40 h i fun h => setK (.live n t) 40 h nx fun h => forceN (Nat.succ nx) fun nx => k h nx) (setK (.live n t) 40 h nx fun h => forceN (Nat.succ nx) fun nx => k h nx) ex)
noncomputable def eApp (by_ es el : Nat) (x y : COpd) (fr : T AV) (h : T Blk) (nx : Nat) (k : AV → T Blk → Nat → Bool) : Bool :=
  opd2 fr x y fun a b => srcK es h b fun cs m =>
    slK a (fun i p n c ex es' => ifK (Nat.beq es es') (forceN (Nat.add n m) fun need => forceN (Nat.add p (Nat.mul n es)) fun q =>
        @Bool.rec (fun _ => Bool)
          (ifK (Nat.ble (Nat.mul need by_) 140737488355328) (ifK (Nat.ble need 1000000) (blkK h i fun N t0 => ifK (Nat.ble q N) (@Bool.rec (fun _ => Bool) (readK t0 (Nat.mul n es) p fun old => appK old cs fun all => writeK all .l 0 fun t => lenK all 0 fun l => growK false el i l t h nx (k (.sl nx 0 need need false es)) ex)
            (growB by_ el ex t0 N fun b => writeK cs t0 q fun t => forceN (Nat.add q (Nat.mul m es)) fun l => growK b el i l t h nx (k (.sl nx 0 need need false es)) ex) (Nat.beq p 0)) false) false) false)
          (wrK h i q (Nat.mul m es) cs fun h => k (.sl i p need c ex es) h nx) (Nat.ble need c)) false)
      (@Nat.rec (fun _ => Bool) (k .nils h nx) (fun _ _ => ifK (Nat.ble (Nat.mul m by_) 140737488355328) (ifK (Nat.ble m 1000000) (mkBK by_ el cs h nx fun h nx' => k (.sl nx 0 m m false es) h nx') false) false) m)
      (@Nat.rec (fun _ => Bool) (k .empt h nx) (fun _ _ => false) m)
noncomputable def minK (a b : Nat) (k : Nat → Bool) : Bool := @Bool.rec (fun _ => Bool) (k b) (k a) (Nat.ble a b)
/-- The first n at most of what is copied. -/
noncomputable def srcRK (es n : Nat) (h : T Blk) (b : AV) (k : List AV → Nat → Bool) : Bool :=
  @AV.casesOn (fun _ => Bool) b (fun _ => false) (fun _ _ => false) (fun _ _ => false) (fun _ _ => false) (fun s => ifK (Nat.beq es 1) (atomAVs s fun cs => lenK s 0 fun m => minK m n fun r => takeK r cs fun cs => k cs r) false) (fun _ _ => false) false (fun _ => false)
    (fun i p m _ _ es' => ifK (Nat.beq es es') (blkK h i fun N t => minK m n fun r => forceN (Nat.mul r es) fun q => ifK (Nat.ble (Nat.add p q) N) (readK t q p fun l => k l r) false) false) (k [] 0) (k [] 0) (fun _ _ _ => false) false (fun _ _ => false) false (fun _ => false) (fun _ => false) false (fun _ _ => false)
/-- Written from a place on that is not behind what is known; more is known then. -/
noncomputable def wrxK (h : T Blk) (i p q : Nat) (cs : List AV) (k : T Blk → Bool) : Bool :=
  blkK h i fun n t => ifK (Nat.ble p n) (writeK cs t p fun t => forceN (Nat.add p q) fun pq => @Bool.rec (fun _ => Bool) (forceN (Nat.add pq 7) fun r => freeK t r (setK (.live pq t) 40 h i k)) (setK (.live n t) 40 h i k) (Nat.ble pq n)) false
noncomputable def eCpy (es : Nat) (x y : COpd) (fr : T AV) (h : T Blk) (nx : Nat) (k : AV → T Blk → Nat → Bool) : Bool :=
  opd2 fr x y fun a b => slK a (fun i p n c _ es' => ifK (Nat.beq es es') (ifK (Nat.ble n c) (srcRK es n h b fun cs r => forceN (Nat.mul r es) fun q => wrxK h i p q cs fun h => k (.int .i64 (Int.ofNat r)) h nx) false) false)
    (srcRK es 0 h b fun _ _ => k (.int .i64 0) h nx) false
noncomputable def eClr (es : Nat) (zs : List AV) (x : COpd) (fr : T AV) (h : T Blk) (nx : Nat) (k : AV → T Blk → Nat → Bool) : Bool :=
  opdK fr (fun a => slK a (fun i p n _ _ es' => ifK (Nat.beq es es') (repK zs n fun cs => wrK h i p (Nat.mul n es) cs fun h => k und h nx) false) (k und h nx) (k und h nx)) x
/-- So many zeros are appended to a slice that is full. -/
noncomputable def eAppz (by_ es : Nat) (zs : List AV) (x y : COpd) (fr : T AV) (h : T Blk) (nx : Nat) (k : AV → T Blk → Nat → Bool) : Bool :=
  opd2 fr x y fun a b => natK b fun m => slK a (fun i p n c ex es' => ifK (Nat.beq es es') (ifK ex (ifK (Nat.blt 0 m) (ifK (Nat.blt 0 es) (forceN (Nat.add n m) fun need => ifK (Nat.blt c need) (ifK (Nat.ble (Nat.mul need by_) 140737488355328) (ifK (Nat.ble need 1000000)
    (repK zs m fun cs => blkK h i fun N t => forceN (Nat.mul n es) fun ne => ifK (Nat.ble (Nat.add p ne) N) (readK t ne p fun old => appK old cs fun all => mkK all h nx fun h nx' => k (.sl nx 0 need need false es) h nx') false) false) false) false) false) false) false) false) false false
/-- Bytes are taken as a text: nobody writes them from there on. -/
noncomputable def eUstr (et : Nat) (x y : COpd) (fr : T AV) (h : T Blk) (nx : Nat) (k : AV → T Blk → Nat → Bool) : Bool :=
  opd2 fr x y fun a b => intK b fun q z => ifK (kindEq q .i64) (@Int.rec (fun _ => Bool) (fun n => @Nat.rec (fun _ => Bool) (nilB 3 a fun _ => k (.str []) h nx)
    (fun _ _ => ptrK a fun i p => ifK (Nat.beq p 0) (blkK h i fun N t => ifK (Nat.ble n N) (ifK (Nat.ble n 1000000) (tyK t N et (readK t n 0 fun l => atomsK l fun s => setK .dead 40 h i fun h => k (.str s) h nx)) false) false) false) n) (fun _ => false) z) false
noncomputable def effOp (p : EOp) : T AV → T Blk → Nat → (AV → T Blk → Nat → Bool) → Bool := @EOp.rec (fun _ => T AV → T Blk → Nat → (AV → T Blk → Nat → Bool) → Bool) eSt eApp eCpy eClr eAppz eUstr p

/-- The operation goes on to a world of which H' is known. -/
def OpT (P : Program) (E : Env) (o : Oper) (fr : T AV) (H : Heap) (nx : Nat) (r : AV) (H' : Heap) (nx' : Nat) : Prop :=
  ∀ ρ (a : Act) w (next : Act → World → Prop) (Q : Exit → Act → World → Prop), (∀ i, nx ≤ i → i < nx' → ρ i = none) → Holds E ρ fr a.eval o.op.operands.toList → Inv E ρ H w →
    (∀ ρ' v w', Stp ρ H w nx ρ' H' w' nx' → Inv E ρ' H' w' → VR E ρ' r v → next (a.put o.dst v) w') → o.wp P a w next Q
def EffOk (P : Program) (E : Env) (o : Oper) (p : EOp) : Prop :=
  ∀ fr h nx k, effOp p fr h nx k = true → Fresh h nx → ∃ r h' nx', k r h' nx' = true ∧ Fresh h' nx' ∧ nx ≤ nx' ∧ OpT P E o fr h.get nx r h'.get nx'

section
variable {P : Program} {E : Env} {F : Facts} {o : Oper}
theorem wp_value {a : Act} {w w' : World} {v : Value} {next : Act → World → Prop} {Q : Exit → Act → World → Prop} (h : (execOp a.eval o).run P w = .ok (.value v) w') (hn : next (a.put o.dst v) w') : o.wp P a w next Q := by
  unfold Oper.wp; rw [h]; exact hn
theorem wp_skip_ {a : Act} {w w' : World} {next : Act → World → Prop} {Q : Exit → Act → World → Prop} (h : (execOp a.eval o).run P w = .ok .skip w') (hn : next (a.put o.dst undef) w') : o.wp P a w next Q := by
  unfold Oper.wp; rw [h]; exact hn
theorem vr_und {ρ : Nat → Option Loc} : VR E ρ und undef := by unfold und; simp only [VR]; exact ⟨[], VRs.nil, rfl⟩
theorem Fresh.set {h h' : T Blk} {i nx : Nat} {b : Blk} (hf : Fresh h nx) (hu : Upd h i b h') (hi : i < nx) : Fresh h' nx := fun j hj => by rw [hu, if_neg (by omega)]; exact hf j hj
theorem Fresh.lt {h : T Blk} {i nx : Nat} {b : Blk} (hf : Fresh h nx) (hi : h.get i = some b) : i < nx := by
  rcases Nat.lt_or_ge i nx with h1 | h1
  · exact h1
  · rw [hf i h1] at hi; cases hi

theorem wrK_some {h : T Blk} {i p m : Nat} {cs : List AV} {k : T Blk → Bool} (e : wrK h i p m cs k = true) : ∃ n t t' h', h.get i = some (.live n t) ∧ p + m ≤ n ∧ (∀ j, t'.get j = if p ≤ j ∧ j < p + cs.length then cs[j - p]? else t.get j) ∧ Upd h i (.live n t') h' ∧ k h' = true := by
  replace e := blkK_some e
  obtain ⟨n, t, hb, e⟩ := e
  replace e := ifK_and e
  obtain ⟨hle, e⟩ := e
  replace e := writeK_some e
  obtain ⟨t', ht, e⟩ := e
  replace e := setK_some e
  obtain ⟨h', hu, e⟩ := e
  exact ⟨n, t, t', h', hb, ble_of hle, ht, hu, e⟩
theorem mkK_some {cs : List AV} {h : T Blk} {nx : Nat} {k : T Blk → Nat → Bool} (e : mkK cs h nx k = true) : ∃ t h', (∀ j, t.get j = if j < cs.length then cs[j]? else none) ∧ Upd h nx (.live cs.length t) h' ∧ k h' (nx + 1) = true := by
  change writeK cs .l 0 (fun t => lenK cs 0 fun n => setK (.live n t) 40 h nx fun h => forceN (Nat.succ nx) fun nx => k h nx) = true at e
  replace e := writeK_some e
  obtain ⟨t, ht, e⟩ := e
  rw [lenK_eq] at e
  replace e := setK_some e
  obtain ⟨h', hu, e⟩ := e
  rw [forceN_eq] at e
  refine ⟨t, h', fun j => ?_, by simpa using hu, e⟩
  rw [ht]
  by_cases hj : j < cs.length
  · rw [if_pos (by omega), if_pos hj]; simp
  · rw [if_neg (by omega), if_neg hj]; rfl
theorem freeK_some {t : T AV} {q : Nat} {k : Bool} (h : freeK t q k = true) : t.get q = none ∧ k = true := by
  unfold freeK at h
  rw [getK_eq] at h
  cases e : t.get q with
  | none => rw [e] at h; exact ⟨rfl, h⟩
  | some x => rw [e] at h; cases h
theorem nameK_some {b : Bool} {ty q : Nat} {t : T AV} {k : T AV → Bool} (h : nameK b ty t q k = true) : ∃ t', (∀ j, j ≠ q → t'.get j = t.get j) ∧ (∀ ty', t'.get q = some (.glob ty') → b = true ∧ ty' = ty) ∧ k t' = true := by
  cases b with
  | false =>
    replace h := freeK_some (t := t) (q := q) (k := k t) h
    obtain ⟨h1, h⟩ := h
    exact ⟨t, fun _ _ => rfl, fun ty' hty => (by rw [h1] at hty; cases hty), h⟩
  | true =>
    change setK (.glob ty) 40 t q k = true at h
    replace h := setK_some h
    obtain ⟨t', hu, h⟩ := h
    exact ⟨t', fun j hj => by rw [hu, if_neg hj], fun ty' hty => (by rw [hu, if_pos rfl] at hty; injection hty with hty; injection hty with hty; exact ⟨rfl, hty.symm⟩), h⟩
theorem growB_some {by_ el n : Nat} {ex : Bool} {t : T AV} {k : Bool → Bool} (h : growB by_ el ex t n k = true) : ∃ b, k b = true ∧ (b = true → ex = true ∨ t.get (n + 7) = some (.glob el)) := by
  unfold growB at h
  cases hb : Nat.beq by_ 1 with
  | false => rw [hb] at h; exact ⟨false, h, fun e => by cases e⟩
  | true =>
    rw [hb] at h
    cases ex with
    | true => exact ⟨true, h, fun _ => .inl rfl⟩
    | false =>
      change forceN (Nat.add n 7) (fun q => @Bool.rec (fun _ => Bool) (k false) (k true) (getK (fun g => nameB g el true) t q)) = true at h
      rw [forceN_eq] at h
      cases hg : getK (fun g => nameB g el true) t (Nat.add n 7) with
      | false => rw [hg] at h; exact ⟨false, h, fun e => by cases e⟩
      | true =>
        rw [hg] at h
        obtain ⟨g, hg, h2⟩ := getK_some hg
        obtain ⟨rfl, _⟩ := nameB_some h2
        exact ⟨true, h, fun _ => .inr hg⟩
theorem mkFK_some {f : AF} {cs : List AV} {h : T Blk} {nx : Nat} {k : T Blk → Nat → Bool} (e : mkFK f cs h nx k = true) :
    ∃ t h', (∀ j, j < cs.length → t.get j = cs[j]?) ∧ (∀ ty, t.get (cs.length + 7) = some (.glob ty) → afTy f = some ty) ∧ Upd h nx (.live cs.length t) h' ∧ k h' (nx + 1) = true := by
  have plain : mkK cs h nx k = true → ∃ t h', (∀ j, j < cs.length → t.get j = cs[j]?) ∧ (∀ ty, t.get (cs.length + 7) = some (.glob ty) → afTy f = some ty) ∧ Upd h nx (.live cs.length t) h' ∧ k h' (nx + 1) = true := fun e => by
    obtain ⟨t, h', ht, hu, e⟩ := mkK_some e
    exact ⟨t, h', fun j hj => by rw [ht, if_pos hj], fun ty hty => (by rw [ht, if_neg (by omega)] at hty; cases hty), hu, e⟩
  cases f with
  | ptr => exact plain e
  | sl n c ex es => exact plain e
  | pty ty =>
    change writeK cs .l 0 (fun t => lenK cs 0 fun n => forceN (Nat.add n 7) fun q => setK (.glob ty) 40 t q fun t => setK (.live n t) 40 h nx fun h => forceN (Nat.succ nx) fun nx => k h nx) = true at e
    replace e := writeK_some e
    obtain ⟨t, ht, e⟩ := e
    rw [lenK_eq, forceN_eq] at e
    replace e := setK_some e
    obtain ⟨t', hu', e⟩ := e
    replace e := setK_some e
    obtain ⟨h', hu, e⟩ := e
    rw [forceN_eq] at e
    simp only [Nat.zero_add, Nat.add_eq] at hu hu'
    refine ⟨t', h', fun j hj => ?_, fun ty' hty => ?_, hu, e⟩
    · rw [hu', if_neg (by omega), ht, if_pos (by omega)]; simp
    · rw [hu', if_pos rfl] at hty; injection hty with hty; injection hty with hty; rw [← hty]; rfl
theorem mkBK_some {by_ el : Nat} {cs : List AV} {h : T Blk} {nx : Nat} {k : T Blk → Nat → Bool} (e : mkBK by_ el cs h nx k = true) :
    ∃ t h', (∀ j, j < cs.length → t.get j = cs[j]?) ∧ (∀ ty, t.get (cs.length + 7) = some (.glob ty) → ty = el) ∧ Upd h nx (.live cs.length t) h' ∧ k h' (nx + 1) = true := by
  unfold mkBK at e
  cases hb : Nat.beq by_ 1 with
  | false =>
    rw [hb] at e
    obtain ⟨t, h', h1, h2, h3, h4⟩ := mkFK_some (f := .ptr) e
    exact ⟨t, h', h1, fun ty hty => (by have := h2 ty hty; cases this), h3, h4⟩
  | true =>
    rw [hb] at e
    obtain ⟨t, h', h1, h2, h3, h4⟩ := mkFK_some (f := .pty el) e
    exact ⟨t, h', h1, fun ty hty => (by have := h2 ty hty; injection this with this; exact this.symm), h3, h4⟩
/-- Cells are written where they are known. -/
theorem write_step {ρ : Nat → Option Loc} {h h' : T Blk} {i p n nx : Nat} {t t' : T AV} {cs : List AV} {vs : List Value} {w : World} {L : Loc} (hI : Inv E ρ h.get w) (hb : h.get i = some (.live n t)) (hL : ρ i = some L) (hv : VRs E ρ cs vs) (h1 : ∀ u ∈ vs, u.oneCell' = true)
    (hfit : p + cs.length ≤ n) (ht : ∀ j, t'.get j = if p ≤ j ∧ j < p + cs.length then cs[j - p]? else t.get j) (hu : Upd h i (.live n t') h') :
    Stp ρ h.get w nx ρ h'.get (w.setCells L.b (L.o + p) vs) nx ∧ Inv E ρ h'.get (w.setCells L.b (L.o + p) vs) := by
  have e1 : ∀ j, j ≠ i → h'.get j = h.get j := fun j hj => by rw [hu, if_neg hj]
  have e2 : h'.get i = some (.live n t') := by rw [hu, if_pos rfl]
  exact ⟨Stp.write hb hL e1 e2, Inv.write hI hb hL hv h1 hfit ht e1 e2⟩
theorem run_store_blk {ρ : Nat → Option Loc} {w : World} {L : Loc} {n p : Nat} {t : T AV} {vs : List Value} (h : BlkAt E ρ w L n t) (hfit : p + vs.length ≤ n) (h1 : ∀ u ∈ vs, u.oneCell' = true) :
    (storeCells ⟨L.b, L.o + p, none⟩ vs).run P w = .ok () (w.setCells L.b (L.o + p) vs) := by
  have := run_storeCells_cells (P := P) L.b (L.o + p) vs 0 w (fun j hj => h.there (by have := h.bound (j := p + j) (by omega); omega)) (fun j hj => h.thaw (by have := h.bound (j := p + j) (by omega); omega)) h1
  simpa using this
theorem cellsK_of {a : AV} {k : List AV → Bool} (h : cellsK a k = true) : ∃ cs, k cs = true ∧ ∀ ρ v, VR E ρ a v → VRs E ρ cs v.cells.toList := by
  replace h := cellsK_some h
  rcases h with ⟨l, rfl, h⟩ | ⟨h0, h⟩
  · exact ⟨l, h, fun ρ v hv => by simp only [VR] at hv; obtain ⟨vs, hvs, rfl⟩ := hv; simpa [Value.cells] using hvs⟩
  · refine ⟨[a], h, fun ρ v hv => ?_⟩
    have ho := one1_of hv h0
    have : v.cells = #[v] := by cases v <;> first | rfl | cases ho
    rw [this]
    exact VRs.cons hv VRs.nil
theorem st_ok {t : Nat} {it : TypeInfo} {x y : Operand} {c d : COpd} (ho : o.op = .store t x y) (hi : P.info? t = some it) (hx : OpdOk E x c) (hy : OpdOk E y d) : EffOk P E o (.st it.size c d) := fun fr h nx k hk hf => by
  obtain ⟨a, b, h1, h2⟩ := opd2_some hx hy (k := fun a b => ptrK a fun i p => cellsK b fun cs => ones1K cs (lenK cs 0 fun m => ifK (Nat.beq m it.size) (wrK h i p m cs fun h => k und h nx) false)) hk
  replace h1 := ptrK_some h1
  obtain ⟨i, p, rfl, h1⟩ := h1
  obtain ⟨cs, h1, hcs⟩ := cellsK_of (E := E) h1
  obtain ⟨h1, hone⟩ := ones1K_some h1
  rw [lenK_eq] at h1
  replace h1 := ifK_and h1
  obtain ⟨hn, h1⟩ := h1
  have hn := beq_of hn
  simp only [Nat.zero_add] at hn h1
  replace h1 := wrK_some h1
  obtain ⟨n, tr, tr', h', hb, hfit, ht, hu, h1⟩ := h1
  refine ⟨und, h', nx, h1, hf.set hu (hf.lt hb), Nat.le_refl _, fun ρ A w next Q _ hh hI hnext => ?_⟩
  rw [ho] at hh
  obtain ⟨hv, hw⟩ := h2 ρ A.eval (Ev.act A) (hh.sub (by simp [Op.operands]))
  simp only [VR] at hv
  obtain ⟨L, hL, hv⟩ := hv
  have hvs := hcs ρ _ hw
  have h1c := ones_of hvs hone
  have hlen := hvs.length
  obtain ⟨s1, s2⟩ := write_step (nx := nx) hI hb hL hvs h1c hfit ht hu
  have hst := run_store_blk (P := P) (hI.blk hb hL) (p := p) (vs := (A.eval y).cells.toList) (by omega) h1c
  refine wp_skip_ (w' := w.setCells L.b (L.o + p) (A.eval y).cells.toList) ?_ (hnext ρ undef _ s1 s2 vr_und)
  have hsz : (A.eval y).cells.size = it.size := by rw [← Array.length_toList]; omega
  simp [execOp, ho, Instr.storeAt, Instr.sureAddr, hv, storeVar, run_sizeOf hi, hsz, hst]

/-! ### append -/
/-- What is appended, or copied: its cells, how many elements. -/
def SrcT (P : Program) (E : Env) (es : Nat) (H : Heap) (b : AV) (cs : List AV) (m : Nat) : Prop :=
  ∀ ρ w v, Inv E ρ H w → VR E ρ b v → ∃ vs, VRs E ρ cs vs ∧ (∀ u ∈ vs, u.oneCell' = true) ∧ vs.length = m * es ∧ (∀ w', (Builtin.lenOf v).run P w' = .ok m w') ∧
    ∀ w' r, w'.heap = w.heap → r ≤ m → (Builtin.firstCells es r v).run P w' = .ok (vs.take (r * es)).toArray w'
theorem srcK_some {es : Nat} {h : T Blk} {b : AV} {k : List AV → Nat → Bool} (e : srcK es h b k = true) : ∃ cs m, k cs m = true ∧ SrcT P E es h.get b cs m := by
  have em : k [] 0 = true → (∀ ρ v, VR E ρ b v → ∃ a c, v = .slice a 0 c) → ∃ cs m, k cs m = true ∧ SrcT P E es h.get b cs m := fun e hb =>
    ⟨[], 0, e, fun ρ w v hI hv => by
      obtain ⟨a, c, rfl⟩ := hb ρ v hv
      refine ⟨[], VRs.nil, fun _ h => (by cases h), by simp, fun w' => by simp [Builtin.lenOf], fun w' r _ hr => ?_⟩
      have : r = 0 := by omega
      subst this
      cases a <;> simp [Builtin.firstCells, loadCells, loadCellsFrom]⟩
  cases b with
  | nils => exact em e fun ρ v hv => by simp only [VR] at hv; exact ⟨_, _, hv⟩
  | empt => exact em e fun ρ v hv => by simp only [VR] at hv; exact hv
  | str s =>
    replace e := ifK_and (t := atomAVs s fun cs => lenK s 0 fun n => k cs n) e
    obtain ⟨h1, e⟩ := e
    have := beq_of h1; subst this
    obtain ⟨cs, e, hc⟩ := atomAVs_some (E := E) e
    rw [lenK_eq] at e
    refine ⟨_, _, e, fun ρ w v hI hv => ?_⟩
    simp only [VR] at hv
    subst hv
    refine ⟨_, hc ρ, fun u hu => by obtain ⟨m, _, rfl⟩ := List.mem_map.1 hu; rfl, by simp, fun w' => by simp [Builtin.lenOf, bytes_size], fun w' r _ hr => ?_⟩
    simp only [Nat.zero_add] at hr
    have : ((E.bytes s).extract 0 r).data.map (fun b => Value.int .u8 b.toNat) = ((s.map fun m => Value.int .u8 (E.byte m).toNat).take (r * 1)).toArray := by
      unfold Env.bytes
      rw [ByteArray.extract_mk]
      apply Array.ext'
      simp [List.map_take, Function.comp_def]
    simp only [Builtin.firstCells, Sem.run_pure, this]
  | sl i p n c ex es' =>
    replace e := ifK_and (t := blkK h i fun m t => forceN (Nat.mul n es) fun q => ifK (Nat.ble (Nat.add p q) m) (readK t q p fun l => k l n) false) e
    obtain ⟨h1, e⟩ := e
    have := beq_of h1; subst this
    replace e := blkK_some e
    obtain ⟨m, t, hb, e⟩ := e
    rw [forceN_eq] at e
    replace e := ifK_and e
    obtain ⟨hle, e⟩ := e
    replace e := readK_some e
    obtain ⟨l, hl, hg, e⟩ := e
    have hle := ble_of hle
    refine ⟨l, n, e, fun ρ w v hI hv => ?_⟩
    simp only [VR] at hv
    obtain ⟨L, cc, hL, rfl, _⟩ := hv
    obtain ⟨vs, g1, g2, g3⟩ := (hI.blk hb hL).row hle hl hg
    have hlen : vs.length = n * es := by rw [g1.length, hl]; rfl
    refine ⟨vs, g1, g2, hlen, fun w' => by simp [Builtin.lenOf], fun w' r hw hr => ?_⟩
    have hle2 : r * es ≤ n * es := Nat.mul_le_mul_right _ hr
    have hrun := run_loadCells (P := P) (w := w') L.b (L.o + p) (vs.take (r * es)) (fun j hj => by
      simp only [List.length_take] at hj
      rw [World.cell?_of_block (w := w) (by rw [hw]), g3 j (by omega), List.getElem?_take, if_pos (by omega)])
    have e2 : (vs.take (r * es)).length = r * es := by simp; omega
    rw [e2] at hrun
    simp [Builtin.firstCells, hrun]
  | _ => cases e

/-- What is copied: its first cells. -/
def SrcRT (P : Program) (E : Env) (es n : Nat) (H : Heap) (b : AV) (cs : List AV) (r : Nat) : Prop :=
  ∀ ρ w v, Inv E ρ H w → VR E ρ b v → ∃ vs m, VRs E ρ cs vs ∧ (∀ u ∈ vs, u.oneCell' = true) ∧ vs.length = r * es ∧ (∀ w', (Builtin.lenOf v).run P w' = .ok m w') ∧ r = Nat.min m n ∧
    ∀ w', w'.heap = w.heap → (Builtin.firstCells es r v).run P w' = .ok vs.toArray w'
theorem minK_some {a b : Nat} {k : Nat → Bool} (h : minK a b k = true) : k (Nat.min a b) = true := by
  unfold minK at h
  cases hb : Nat.ble a b with
  | true => rw [hb] at h; show k (min a b) = true; rw [Nat.min_def, if_pos (ble_of hb)]; exact h
  | false =>
    rw [hb] at h
    have : ¬ (a ≤ b) := fun hh => by rw [← Nat.ble_eq] at hh; rw [hh] at hb; cases hb
    show k (min a b) = true
    rw [Nat.min_def, if_neg this]; exact h
theorem srcRK_some {es n : Nat} {h : T Blk} {b : AV} {k : List AV → Nat → Bool} (e : srcRK es n h b k = true) : ∃ cs r, k cs r = true ∧ r ≤ n ∧ SrcRT P E es n h.get b cs r := by
  have em : k [] 0 = true → (∀ ρ v, VR E ρ b v → ∃ a c, v = .slice a 0 c) → ∃ cs r, k cs r = true ∧ r ≤ n ∧ SrcRT P E es n h.get b cs r := fun e hb =>
    ⟨[], 0, e, Nat.zero_le _, fun ρ w v hI hv => by
      obtain ⟨a, c, rfl⟩ := hb ρ v hv
      refine ⟨[], 0, VRs.nil, fun _ h => (by cases h), by simp, fun w' => by simp [Builtin.lenOf], (Nat.min_eq_left (Nat.zero_le _)).symm, fun w' _ => ?_⟩
      cases a <;> simp [Builtin.firstCells, loadCells, loadCellsFrom]⟩
  cases b with
  | nils => exact em e fun ρ v hv => by simp only [VR] at hv; exact ⟨_, _, hv⟩
  | empt => exact em e fun ρ v hv => by simp only [VR] at hv; exact hv
  | str s =>
    replace e := ifK_and (t := atomAVs s fun cs => lenK s 0 fun m => minK m n fun r => takeK r cs fun cs => k cs r) e
    obtain ⟨h1, e⟩ := e
    have := beq_of h1; subst this
    obtain ⟨cs, e, hc⟩ := atomAVs_some (E := E) e
    rw [lenK_eq] at e
    replace e := minK_some e
    replace e := takeK_some e
    obtain ⟨hr, e⟩ := e
    simp only [Nat.zero_add] at e hr
    refine ⟨_, _, e, Nat.min_le_right _ _, fun ρ w v hI hv => ?_⟩
    simp only [VR] at hv
    subst hv
    have hm := Nat.min_le_left s.length n
    refine ⟨_, s.length, (hc ρ).take _, fun u hu => by obtain ⟨m, _, rfl⟩ := List.mem_map.1 (List.mem_of_mem_take hu); rfl, by simp only [List.length_take, List.length_map]; show min (min s.length n) s.length = min s.length n * 1; omega, fun w' => by simp [Builtin.lenOf, bytes_size], rfl, fun w' _ => ?_⟩
    have : ((E.bytes s).extract 0 (Nat.min s.length n)).data.map (fun b => Value.int .u8 b.toNat) = ((s.map fun m => Value.int .u8 (E.byte m).toNat).take (Nat.min s.length n)).toArray := by
      unfold Env.bytes
      rw [ByteArray.extract_mk]
      apply Array.ext'
      simp [List.map_take, Function.comp_def]
    simp only [Builtin.firstCells, Sem.run_pure, this]
  | sl i p m c ex es' =>
    replace e := ifK_and (t := blkK h i fun N t => minK m n fun r => forceN (Nat.mul r es) fun q => ifK (Nat.ble (Nat.add p q) N) (readK t q p fun l => k l r) false) e
    obtain ⟨h1, e⟩ := e
    have := beq_of h1; subst this
    replace e := blkK_some e
    obtain ⟨N, t, hb, e⟩ := e
    replace e := minK_some e
    rw [forceN_eq] at e
    replace e := ifK_and e
    obtain ⟨hle, e⟩ := e
    replace e := readK_some e
    obtain ⟨l, hl, hg, e⟩ := e
    have hle := ble_of hle
    refine ⟨l, _, e, Nat.min_le_right _ _, fun ρ w v hI hv => ?_⟩
    simp only [VR] at hv
    obtain ⟨L, cc, hL, rfl, _⟩ := hv
    obtain ⟨vs, g1, g2, g3⟩ := (hI.blk hb hL).row hle hl hg
    have hlen : vs.length = Nat.min m n * es := by rw [g1.length, hl]; rfl
    refine ⟨vs, m, g1, g2, hlen, fun w' => by simp [Builtin.lenOf], rfl, fun w' hw => ?_⟩
    have hrun := run_loadCells (P := P) (w := w') L.b (L.o + p) vs (fun j hj => by
      rw [World.cell?_of_block (w := w) (by rw [hw]), g3 j hj])
    rw [hlen] at hrun
    simp [Builtin.firstCells, hrun]
  | _ => cases e
theorem wrxK_some {h : T Blk} {i p q : Nat} {cs : List AV} {k : T Blk → Bool} (e : wrxK h i p q cs k = true) : ∃ n n' t t' h', h.get i = some (.live n t) ∧ p ≤ n ∧ n' ≤ max n (p + q) ∧ ((n' = n ∧ p + q ≤ n) ∨ t'.get (n' + 7) = none) ∧ (∀ j, t'.get j = if p ≤ j ∧ j < p + cs.length then cs[j - p]? else t.get j) ∧ Upd h i (.live n' t') h' ∧ k h' = true := by
  replace e := blkK_some e
  obtain ⟨n, t, hb, e⟩ := e
  replace e := ifK_and e
  obtain ⟨hle, e⟩ := e
  replace e := writeK_some e
  obtain ⟨t', ht, e⟩ := e
  rw [forceN_eq] at e
  cases hq : Nat.ble (Nat.add p q) n with
  | true =>
    rw [hq] at e
    replace e := setK_some e
    obtain ⟨h', hu, e⟩ := e
    exact ⟨n, n, t, t', h', hb, ble_of hle, Nat.le_max_left _ _, .inl ⟨rfl, ble_of hq⟩, ht, hu, e⟩
  | false =>
    rw [hq] at e
    change forceN (Nat.add (Nat.add p q) 7) (fun r => freeK t' r (setK (.live (Nat.add p q) t') 40 h i k)) = true at e
    rw [forceN_eq] at e
    obtain ⟨hfr, e⟩ := freeK_some e
    replace e := setK_some e
    obtain ⟨h', hu, e⟩ := e
    exact ⟨n, p + q, t, t', h', hb, ble_of hle, Nat.le_max_right _ _, .inr hfr, ht, hu, e⟩
/-- Cells are written from a known place on; perhaps more is known then. -/
theorem writex_step {ρ : Nat → Option Loc} {h h' : T Blk} {i p n n' nx : Nat} {t t' : T AV} {cs : List AV} {vs : List Value} {w : World} {L : Loc} (hI : Inv E ρ h.get w) (hb : h.get i = some (.live n t)) (hL : ρ i = some L) (hv : VRs E ρ cs vs) (h1 : ∀ u ∈ vs, u.oneCell' = true)
    (hp : p ≤ n) (hroom : L.o + p + cs.length ≤ L.sz) (hn' : n' ≤ max n (p + cs.length)) (hfr : (n' = n ∧ p + cs.length ≤ n) ∨ t'.get (n' + 7) = none) (ht : ∀ j, t'.get j = if p ≤ j ∧ j < p + cs.length then cs[j - p]? else t.get j) (hu : Upd h i (.live n' t') h') :
    Stp ρ h.get w nx ρ h'.get (w.setCells L.b (L.o + p) vs) nx ∧ Inv E ρ h'.get (w.setCells L.b (L.o + p) vs) := by
  have e1 : ∀ j, j ≠ i → h'.get j = h.get j := fun j hj => by rw [hu, if_neg hj]
  have e2 : h'.get i = some (.live n' t') := by rw [hu, if_pos rfl]
  refine ⟨⟨Nat.le_refl _, fun j a b => by omega, fun _ _ => rfl, (setCells_rest w _ _ vs).1, (setCells_rest w _ _ vs).2.1, (setCells_rest w _ _ vs).2.2.1, Nat.le_of_eq (setCells_rest w _ _ vs).2.2.2.symm, fun b _ hn => setCells_other _ _ _ _ fun e => hn i n t L hb hL e.symm, fun j m u M hj hM => ?_⟩, ⟨fun j m u hj => ?_, fun j k m u m' u' hj hk hne => ?_⟩⟩
  · by_cases e : j = i
    · subst e; exact .inr ⟨j, n, t, M, hb, hM, rfl⟩
    · rw [e1 j e] at hj; exact .inr ⟨j, m, u, M, hj, hM, rfl⟩
  · by_cases e : j = i
    · subst e
      rw [e2] at hj; injection hj with hj; injection hj with g1 g2; subst g1; subst g2
      obtain ⟨c, el, z, b1, b2, b3, b4, b5⟩ := hI.blk hb hL
      obtain ⟨c', d1, d2, d3⟩ := setCells_at w L.b (L.o + p) vs b1
      have hlen := hv.length
      refine ⟨L, hL, c', el, z, d1, by rw [d2]; exact b2, by rw [d2]; exact b3, fun k hk => ?_, fun ty hty => by
        rcases hfr with ⟨rfl, hfr⟩ | hfr
        · rw [ht, if_neg (by omega)] at hty; exact b5 ty hty
        · rw [hfr] at hty; cases hty⟩
      by_cases e3 : p ≤ k ∧ k < p + cs.length
      · have hlt : k - p < cs.length := by omega
        have hx : cs[k - p]? = some cs[k - p] := by simp [hlt]
        obtain ⟨u', hu1, hu2⟩ := hv.get hx
        refine ⟨cs[k - p], u', by rw [ht, if_pos e3]; exact hx, ?_, hu2, h1 u' (List.mem_of_getElem? hu1)⟩
        rw [d3 _ (by omega), if_pos (by omega), show L.o + k - (L.o + p) = k - p from by omega]; exact hu1
      · obtain ⟨av, v, a1, a2, a3, a4⟩ := b4 k (by omega)
        have hks := (Array.getElem?_eq_some_iff.1 a2).1
        refine ⟨av, v, by rw [ht, if_neg e3]; exact a1, ?_, a3, a4⟩
        rw [d3 _ hks, if_neg (by omega)]; exact a2
    · rw [e1 j e] at hj
      obtain ⟨M, hM, hB⟩ := hI.at_ j m u hj
      exact ⟨M, hM, hB.same (setCells_other _ _ _ _ (hI.inj j i m u n t hj hb e M L hM hL))⟩
  · have a1 : ∀ j m u, h'.get j = some (.live m u) → ∃ m u, h.get j = some (.live m u) := fun j m u hj => by
      by_cases e : j = i
      · subst e; exact ⟨n, t, hb⟩
      · exact ⟨m, u, by rwa [e1 j e] at hj⟩
    obtain ⟨_, _, hj⟩ := a1 _ _ _ hj
    obtain ⟨_, _, hk⟩ := a1 _ _ _ hk
    exact hI.inj j k _ _ _ _ hj hk hne
theorem run_append_in {t u ty el : Nat} {du : TypeDesc} {i : TypeInfo} {b p n cap m : Nat} {x : Value} {vs : List Value} {w : World} (ht : P.underlying t = some (.slice el)) (hu : P.underlying u = some du) (hnu : du = .string ∨ ∃ e, du = .slice e) (hi : P.info? el = some i)
    (hl : ∀ w', (Builtin.lenOf x).run P w' = .ok m w') (hf : (Builtin.firstCells i.size m x).run P w = .ok vs.toArray w) (hroom : n + m ≤ cap) (hst : (storeCells ⟨b, p + n * i.size, none⟩ vs).run P w = .ok () (w.setCells b (p + n * i.size) vs)) :
    (Builtin.append_ #[t, u] ty #[.slice (some ⟨b, p, none⟩) n cap, x]).run P w = .ok (.slice (some ⟨b, p, none⟩) (n + m) cap) (w.setCells b (p + n * i.size) vs) := by
  rcases hnu with rfl | ⟨e', rfl⟩ <;> simp [Builtin.append_, run_underlying ht, run_underlying hu, sizeOf, typeInfo, hi, hl, hroom, hf, add_lit, hst]
theorem run_append_new {t u ty el : Nat} {du : TypeDesc} {i : TypeInfo} {z : Value} {base : Option Addr} {n cap m : Nat} {x : Value} {olds news : List Value} {w : World} (ht : P.underlying t = some (.slice el)) (hu : P.underlying u = some du) (hnu : du = .string ∨ ∃ e, du = .slice e) (hi : P.info? el = some i) (hz : i.zero = some z)
    (hl : ∀ w', (Builtin.lenOf x).run P w' = .ok m w') (hf : (Builtin.firstCells i.size m x).run P w.drew = .ok news.toArray w.drew) (ho : (Builtin.firstCells i.size n (.slice base n cap)).run P w.drew = .ok olds.toArray w.drew)
    (hg : cap < n + m) (h63 : n + m ≤ 1000000) (hb : (n + m) * i.bytes ≤ 140737488355328) :
    (Builtin.append_ #[t, u] ty #[.slice base n cap, x]).run P w = .ok (.slice (some ⟨w.heap.size, 0, none⟩) (n + m) (grownCap w (n + m) cap el))
      (w.drew.alloc (.cells (olds.toArray ++ (news.toArray ++ Builtin.zeroCells z.cells (grownCap w (n + m) cap el - (n + m)))) el)) := by
  have hn : ¬ (n + m ≤ cap) := by omega
  have h63' : ¬ (9223372036854775807 < ((n : Int) + (m : Int))) := by omega
  have hfit := growslice_fits hg hb
  have h48' : ¬ (281474976710656 < Builtin.nextslicecap (n + m) cap * i.bytes) := by omega
  rcases hnu with rfl | ⟨e', rfl⟩ <;> simp [Builtin.append_, run_underlying ht, run_underlying hu, sizeOf, typeInfo, zeroValue, hi, hz, hl, hn, h63', h48', Question.forced, hf, ho, newRow, grownCap]

/-- A new block at a number that is free. -/
theorem new_step {ρ : Nat → Option Loc} {h h' : T Blk} {nx : Nat} {t : T AV} {cs : List AV} {vs : List Value} {w w' : World} {c : Array Value} {el : Nat} {z : Nat × Nat} {pl : Nat} (hI : Inv E ρ h.get w) (hp : Pushed w w' (.cells c el z)) (hz : ∀ k, k < c.size + pl → ¬ (z.1 ≤ k ∧ k < z.2)) (hnx : ρ nx = none)
    (hv : VRs E ρ cs vs) (h1 : ∀ u ∈ vs, u.oneCell' = true) (hc : ∀ j, j < vs.length → c[j]? = vs[j]?) (ht : ∀ j, j < cs.length → t.get j = cs[j]?) (hT : ∀ ty, t.get (cs.length + 7) = some (.glob ty) → el = ty) (hu : Upd h nx (.live cs.length t) h') :
    Stp ρ h.get w nx (ρset ρ nx ⟨w.heap.size, 0, c.size, pl⟩) h'.get w' (nx + 1) ∧ Inv E (ρset ρ nx ⟨w.heap.size, 0, c.size, pl⟩) h'.get w' := by
  have e1 : ∀ j, j ≠ nx → h'.get j = h.get j := fun j hj => by rw [hu, if_neg hj]
  have e2 : h'.get nx = some (.live cs.length t) := by rw [hu, if_pos rfl]
  refine ⟨Stp.push hp hnx e1 e2, Inv.push hI hp hz hnx e1 e2 (fun j hj => ?_) hT⟩
  have hx : cs[j]? = some cs[j] := by simp [hj]
  obtain ⟨u, hu1, hu2⟩ := hv.get hx
  refine ⟨cs[j], u, by rw [ht j hj, hx], ?_, hu2, h1 u (List.mem_of_getElem? hu1)⟩
  rw [hc j (by rw [hv.length]; exact hj)]; exact hu1
theorem Fresh.new {h h' : T Blk} {nx : Nat} {b : Blk} (hf : Fresh h nx) (hu : Upd h nx b h') : Fresh h' (nx + 1) := fun j hj => by rw [hu, if_neg (by omega)]; exact hf j (by omega)
theorem Pushed.drew {w : World} {o : Obj} : Pushed w (w.drew.alloc o) o := ⟨rfl, rfl, rfl, rfl⟩
/-- One block is forgotten. -/
theorem kill_step {ρ : Nat → Option Loc} {h h' : T Blk} {i nx : Nat} {w : World} (hI : Inv E ρ h.get w) (hu : Upd h i .dead h') : Stp ρ h.get w nx ρ h'.get w nx ∧ Inv E ρ h'.get w := by
  have hl : Less h'.get h.get := fun j n t hj => by
    by_cases e : j = i
    · subst e; rw [hu, if_pos rfl] at hj; cases hj
    · rwa [hu, if_neg e] at hj
  exact ⟨⟨Nat.le_refl _, fun i h1 h2 => by omega, fun _ _ => rfl, rfl, rfl, rfl, Nat.le_refl _, fun _ _ _ => rfl, fun j n t L hj hL => .inr ⟨j, n, t, L, hl _ _ _ hj, hL, rfl⟩⟩, hI.less hl⟩
/-- A slice whose capacity is not known has room: its block goes on under a new number. -/
theorem move_step {ρ : Nat → Option Loc} {h h1 h2 : T Blk} {i nx p q n : Nat} {t t' : T AV} {old cs : List AV} {ov vs : List Value} {w : World} {L : Loc} (hI : Inv E ρ h.get w) (hb : h.get i = some (.live n t)) (hL : ρ i = some L) (hf : Fresh h nx) (hnx : ρ nx = none)
    (hold : p + old.length ≤ n) (hog : ∀ j, j < old.length → t.get (p + j) = old[j]?) (hq : q = p + old.length) (hroom : L.o + q + cs.length ≤ L.sz) (_hov : VRs E ρ old ov) (hv : VRs E ρ cs vs) (h1c : ∀ u ∈ vs, u.oneCell' = true)
    (ht : ∀ j, j < (old ++ cs).length → t'.get j = (old ++ cs)[j]?) (hT : ∀ ty, t'.get ((old ++ cs).length + 7) = some (.glob ty) → t.get (n + 7) = some (.glob ty) ∧ p = 0) (hu1 : Upd h i .dead h1) (hu2 : Upd h1 nx (.live (old ++ cs).length t') h2) :
    Stp ρ h.get w nx (ρset ρ nx ⟨L.b, L.o + p, L.sz, L.pl⟩) h2.get (w.setCells L.b (L.o + q) vs) (nx + 1) ∧ Inv E (ρset ρ nx ⟨L.b, L.o + p, L.sz, L.pl⟩) h2.get (w.setCells L.b (L.o + q) vs) := by
  have hin : i ≠ nx := fun e => by subst e; rw [hf i (Nat.le_refl _)] at hb; cases hb
  have g2 : ∀ j m u, h2.get j = some (.live m u) → (j = nx ∧ m = (old ++ cs).length ∧ u = t') ∨ (j ≠ nx ∧ j ≠ i ∧ h.get j = some (.live m u)) := fun j m u hj => by
    by_cases e : j = nx
    · subst e; rw [hu2, if_pos rfl] at hj; injection hj with hj; injection hj with a b; exact .inl ⟨rfl, a.symm, b.symm⟩
    · rw [hu2, if_neg e, hu1] at hj
      by_cases e2 : j = i
      · subst e2; rw [if_pos rfl] at hj; cases hj
      · rw [if_neg e2] at hj; exact .inr ⟨e, e2, hj⟩
  have hext : Ext ρ (ρset ρ nx ⟨L.b, L.o + p, L.sz, L.pl⟩) := ρset_ext hnx
  have sc := setCells_rest w L.b (L.o + q) vs
  have hblk := hI.blk hb hL
  refine ⟨⟨Nat.le_succ _, fun j a b => by rwa [show j = nx from by omega], fun j hj => by unfold ρset; rw [if_neg (by omega)], sc.1, sc.2.1, sc.2.2.1, Nat.le_of_eq sc.2.2.2.symm, fun b _ hn => setCells_other _ _ _ _ fun e => hn i n t L hb hL e.symm, fun j m u M hj hM => ?_⟩, ⟨fun j m u hj => ?_, fun j k m u m' u' hj hk hne M M' hM hM' => ?_⟩⟩
  · rcases g2 j m u hj with ⟨rfl, _, _⟩ | ⟨e1, e2, hj⟩
    · simp only [ρset, if_pos] at hM; injection hM with hM; subst hM
      exact .inr ⟨i, n, t, L, hb, hL, rfl⟩
    · simp only [ρset, if_neg e1] at hM
      exact .inr ⟨j, m, u, M, hj, hM, rfl⟩
  · rcases g2 j m u hj with ⟨rfl, rfl, rfl⟩ | ⟨e1, e2, hj⟩
    · refine ⟨⟨L.b, L.o + p, L.sz, L.pl⟩, by simp [ρset], ?_⟩
      obtain ⟨c, el, z, b1, b2, b3, b4, b5⟩ := hblk
      obtain ⟨c', d1, d2, d3⟩ := setCells_at w L.b (L.o + q) vs b1
      have hlen := hv.length
      refine ⟨c', el, z, d1, by rw [d2]; exact b2, by rw [d2]; exact b3, fun k hk => ?_, fun ty hty => by
        obtain ⟨g1, g2⟩ := hT ty hty
        obtain ⟨g3, g4⟩ := b5 ty g1
        exact ⟨g3, by show L.o + p = 0; omega⟩⟩
      rw [List.length_append] at hk
      by_cases hk1 : k < old.length
      · obtain ⟨av, v, a1, a2, a3, a4⟩ := b4 (p + k) (by omega)
        refine ⟨av, v, ?_, ?_, a3.ext hext, a4⟩
        · rw [ht k (by rw [List.length_append]; omega), List.getElem?_append_left hk1, ← hog k hk1]; exact a1
        · rw [← Nat.add_assoc] at a2
          have := (Array.getElem?_eq_some_iff.1 a2).1
          rw [d3 _ this, if_neg (by omega)]; exact a2
      · have hlt : k - old.length < cs.length := by omega
        have hx : cs[k - old.length]? = some cs[k - old.length] := by simp [hlt]
        obtain ⟨u', hu1', hu2'⟩ := hv.get hx
        refine ⟨cs[k - old.length], u', ?_, ?_, hu2'.ext hext, h1c u' (List.mem_of_getElem? hu1')⟩
        · rw [ht k (by rw [List.length_append]; omega), List.getElem?_append_right (by omega), hx]
        · show c'[L.o + p + k]? = _
          rw [d3 _ (by omega), if_pos (by omega), show L.o + p + k - (L.o + q) = k - old.length from by omega]; exact hu1'
    · obtain ⟨M, hM, hB⟩ := hI.at_ j m u hj
      exact ⟨M, hext _ _ hM, (hB.ext hext).same (setCells_other _ _ _ _ (hI.inj j i m u n t hj hb e2 M L hM hL))⟩
  · rcases g2 j m u hj with ⟨rfl, _, _⟩ | ⟨e1, e2, hj⟩
    · have hk0 : k ≠ j := fun e => hne e.symm
      rcases g2 k m' u' hk with ⟨rfl, _, _⟩ | ⟨f1, f2, hk⟩
      · exact absurd rfl hne
      · simp only [ρset, if_pos] at hM; injection hM with hM; subst hM
        simp only [ρset, if_neg f1] at hM'
        exact hI.inj i k n t m' u' hb hk (fun e => f2 e.symm) L M' hL hM'
    · simp only [ρset, if_neg e1] at hM
      rcases g2 k m' u' hk with ⟨rfl, _, _⟩ | ⟨f1, f2, hk⟩
      · simp only [ρset, if_pos] at hM'; injection hM' with hM'; subst hM'
        exact hI.inj j i m u n t hj hb e2 M L hM hL
      · simp only [ρset, if_neg f1] at hM'
        exact hI.inj j k m u m' u' hj hk hne M M' hM hM'
/-! ### Bytes taken as a text -/
theorem freeze_other (w : World) (a : Addr) (n : Nat) {b : Nat} (hb : b ≠ a.block) : (w.freeze a n).heap[b]? = w.heap[b]? := by
  unfold World.freeze
  split
  · rfl
  · simp [Array.getElem?_modify, Ne.symm hb]
theorem freeze_rest (w : World) (a : Addr) (n : Nat) : (w.freeze a n).os = w.os ∧ (w.freeze a n).tape = w.tape ∧ (w.freeze a n).output = w.output ∧ (w.freeze a n).heap.size = w.heap.size := by
  unfold World.freeze
  split
  · exact ⟨rfl, rfl, rfl, rfl⟩
  · exact ⟨rfl, rfl, rfl, by simp⟩
theorem freeze_step {ρ : Nat → Option Loc} {h h' : T Blk} {i n nx N : Nat} {t : T AV} {w : World} {L : Loc} (hI : Inv E ρ h.get w) (hb : h.get i = some (.live N t)) (hL : ρ i = some L) (hu : Upd h i .dead h') :
    Stp ρ h.get w nx ρ h'.get (w.freeze ⟨L.b, 0, none⟩ n) nx ∧ Inv E ρ h'.get (w.freeze ⟨L.b, 0, none⟩ n) := by
  have hr := freeze_rest w ⟨L.b, 0, none⟩ n
  have hl : ∀ j m u, h'.get j = some (.live m u) → j ≠ i ∧ h.get j = some (.live m u) := fun j m u hj => by
    by_cases e : j = i
    · subst e; rw [hu, if_pos rfl] at hj; cases hj
    · exact ⟨e, by rwa [hu, if_neg e] at hj⟩
  refine ⟨⟨Nat.le_refl _, fun j a b => by omega, fun _ _ => rfl, hr.1, hr.2.1, hr.2.2.1, Nat.le_of_eq hr.2.2.2.symm, fun b _ hn => freeze_other _ _ _ fun e => hn i N t L hb hL e.symm, fun j m u M hj hM => .inr ⟨j, m, u, M, (hl j m u hj).2, hM, rfl⟩⟩, ⟨fun j m u hj => ?_, fun j k m u m' u' hj hk hne => hI.inj j k m u m' u' (hl j m u hj).2 (hl k m' u' hk).2 hne⟩⟩
  obtain ⟨e, hj⟩ := hl j m u hj
  obtain ⟨M, hM, hB⟩ := hI.at_ j m u hj
  exact ⟨M, hM, hB.same (freeze_other _ _ _ (hI.inj j i m u N t hj hb e M L hM hL))⟩
theorem ustr_ok {t ti et : Nat} {x y : Operand} {c d : COpd} (ho : o.op = .call ⟨.builtin .unsafeString, #[x, y], #[t, ti]⟩) (ht : P.underlying t = some (.pointer et)) (hc : P.cellsOf et = 1) (hx : OpdOk E x c) (hy : OpdOk E y d) : EffOk P E o (.ustr et c d) := fun fr h nx k hk hf => by
  obtain ⟨a, b, h1, h2⟩ := opd2_some hx hy hk
  replace h1 := intK_some h1
  obtain ⟨q, z, rfl, h1⟩ := h1
  replace h1 := ifK_and h1
  obtain ⟨hq, h1⟩ := h1
  have := kindEq_of hq; subst this
  cases z with
  | negSucc n => cases h1
  | ofNat n =>
    have run : ∀ (e : Operand → Value) (w : World) (v : Value) (w' : World), (Builtin.unsafeString_ #[t, ti] o.type #[e x, e y]).run P w = .ok v w' → (execOp e o).run P w = .ok (.value v) w' := fun e w v w' hr => by
      rw [run_builtin ho]
      simp [builtin, hr]
    cases n with
    | zero =>
      change (nilB 3 a fun _ => k (.str []) h nx) = true at h1
      have hp : k (.str []) h nx = true ∧ ∀ ρ v, VR E ρ a v → ∃ p, v = .pointer p := by
        rcases nilB3_some h1 with ⟨rfl, h1⟩ | ⟨⟨i, p, rfl⟩, h1⟩
        · exact ⟨h1, fun ρ v hv => by simp only [VR] at hv; exact ⟨_, hv⟩⟩
        · exact ⟨h1, fun ρ v hv => by simp only [VR] at hv; obtain ⟨_, _, hv⟩ := hv; exact ⟨_, hv⟩⟩
      obtain ⟨h1, hp⟩ := hp
      refine ⟨_, h, nx, h1, hf, Nat.le_refl _, fun ρ A w next Q _ hh hI hnext => ?_⟩
      rw [ho] at hh
      obtain ⟨hv, hw⟩ := h2 ρ A.eval (Ev.act A) (hh.sub (by simp [Op.operands, Call.operands]))
      obtain ⟨p, hv⟩ := hp ρ _ hv
      simp only [VR] at hw
      have hr := Lib.run_unsafeString_none (P := P) w t ti o.type p
      refine wp_value (run A.eval w (.string .empty) w (by rw [hv, hw]; exact hr)) (hnext ρ _ w Stp.rfl' hI ?_)
      simp only [VR]; rfl
    | succ n =>
      change (ptrK a fun i p => ifK (Nat.beq p 0) (blkK h i fun N t => ifK (Nat.ble (n + 1) N) (ifK (Nat.ble (n + 1) 1000000) (tyK t N et (readK t (n + 1) 0 fun l => atomsK l fun s => setK .dead 40 h i fun h => k (.str s) h nx)) false) false) false) = true at h1
      replace h1 := ptrK_some h1
      obtain ⟨i, p, rfl, h1⟩ := h1
      replace h1 := ifK_and h1
      obtain ⟨hp, h1⟩ := h1
      have := beq_of hp; subst this
      replace h1 := blkK_some h1
      obtain ⟨N, tr, hb, h1⟩ := h1
      replace h1 := ifK_and h1
      obtain ⟨hN, h1⟩ := h1
      replace h1 := ifK_and h1
      obtain ⟨hM, h1⟩ := h1
      replace h1 := tyK_some h1
      obtain ⟨hty, h1⟩ := h1
      replace h1 := readK_some h1
      obtain ⟨l, hl, hg, h1⟩ := h1
      obtain ⟨s, h1, hs⟩ := atomsK_some (E := E) h1
      replace h1 := setK_some h1
      obtain ⟨h', hu, h1⟩ := h1
      have hN := ble_of hN
      have hM := ble_of hM
      refine ⟨_, h', nx, h1, hf.set hu (hf.lt hb), Nat.le_refl _, fun ρ A w next Q _ hh hI hnext => ?_⟩
      rw [ho] at hh
      obtain ⟨hv, hw⟩ := h2 ρ A.eval (Ev.act A) (hh.sub (by simp [Op.operands, Call.operands]))
      simp only [VR] at hv hw
      obtain ⟨L, hL, hv⟩ := hv
      have hB := hI.blk hb hL
      obtain ⟨vs, g1, _, g3⟩ := hB.row (p := 0) (m := n + 1) (by omega) hl hg
      have hbd := hB.bound (j := n) (by omega)
      obtain ⟨cs, el, zz, b1, _, b3, _, b5⟩ := hB
      obtain ⟨rfl, hLo⟩ := b5 et hty
      have hvs := hs ρ vs g1
      have hlen : vs.length = n + 1 := by rw [g1.length, hl]
      have hsl : s.length = n + 1 := by rw [← hlen, hvs]; simp
      have hsh : w.shape? L.b = some (el, cs.size) := by unfold World.shape?; rw [b1]
      obtain ⟨s1, s2⟩ := freeze_step (n := n + 1) (nx := nx) hI hb hL hu
      have hr := Lib.run_unsafeString_row (P := P) w t ti o.type el ht hc L.b cs.size hsh (s.map E.byte) (fun e => absurd (congrArg List.length e) (by rw [List.length_map, hsl]; simp)) (by simp only [List.length_map]; omega) (by simp only [List.length_map]; omega) (fun j x hj => by
        have hjl : j < s.length := by have := (List.getElem?_eq_some_iff.1 hj).1; simpa using this
        have := g3 j (by omega)
        rw [hLo, Nat.add_zero, Nat.zero_add, hvs] at this
        have e1 : (⟨L.b, 0, none⟩ : Addr).add j = ⟨L.b, j, none⟩ := by rw [add_lit, Nat.zero_add]
        rw [e1, this, List.getElem?_map]
        rw [List.getElem?_map] at hj
        cases hk : s[j]? with
        | none => rw [hk] at hj; cases hj
        | some y => rw [hk] at hj; injection hj with hj; subst hj; rfl)
      rw [List.length_map, hsl] at hr
      refine wp_value (run A.eval w (.string (E.bytes s)) (w.freeze ⟨L.b, 0, none⟩ (n + 1)) (by rw [hv, hw, hLo]; exact hr)) (hnext ρ _ _ s1 s2 ?_)
      simp only [VR]
end
end Go.Proofs.YtfgmmabggjjhgaaGreatDoor.Ev
namespace Go.Proofs.YtfgmmabggjjhgaaGreatDoor.Ev
open Go

section
variable {P : Program} {E : Env} {F : Facts} {o : Oper}
theorem run_app {e : Operand → Value} {x y : Operand} {t u : TypeId} {v : Value} {w w' : World} (ho : o.op = .call ⟨.builtin .append, #[x, y], #[t, u]⟩) (h : (Builtin.append_ #[t, u] o.type #[e x, e y]).run P w = .ok v w') : (execOp e o).run P w = .ok (.value v) w' := by
  rw [run_builtin ho]
  simp [builtin, h]
theorem run_append_none {t u ty el : Nat} {du : TypeDesc} {i : TypeInfo} {a : Option Addr} {c : Nat} {x : Value} {w : World} (ht : P.underlying t = some (.slice el)) (hu : P.underlying u = some du) (hnu : du = .string ∨ ∃ e, du = .slice e) (hi : P.info? el = some i)
    (hl : ∀ w', (Builtin.lenOf x).run P w' = .ok 0 w') (hf : (Builtin.firstCells i.size 0 x).run P w = .ok #[] w) : (Builtin.append_ #[t, u] ty #[.slice a 0 c, x]).run P w = .ok (.slice a 0 c) w := by
  rcases hnu with rfl | ⟨e', rfl⟩ <;> cases a <;> simp [Builtin.append_, run_underlying ht, run_underlying hu, sizeOf, typeInfo, hi, hl, hf, storeCells]
theorem zeroCells_size (z : Array Value) (n : Nat) : (Builtin.zeroCells z n).size = n * z.size := by simp [Builtin.zeroCells]
theorem get_app {xs ys : List Value} {zs : Array Value} {j : Nat} (h : j < (xs ++ ys).length) : (xs.toArray ++ (ys.toArray ++ zs))[j]? = (xs ++ ys)[j]? := by
  rw [← Array.append_assoc, Array.getElem?_append_left (by simpa using h)]
  simp
theorem app_ok {t u el : Nat} {du : TypeDesc} {ie : TypeInfo} {z : Value} {x y : Operand} {c d : COpd} (ho : o.op = .call ⟨.builtin .append, #[x, y], #[t, u]⟩) (ht : P.underlying t = some (.slice el)) (hu : P.underlying u = some du) (hnu : du = .string ∨ ∃ e, du = .slice e)
    (hi : P.info? el = some ie) (hz : ie.zero = some z) (hsz : z.cells.size = ie.size) (hx : OpdOk E x c) (hy : OpdOk E y d) : EffOk P E o (.app ie.bytes ie.size el c d) := fun fr h nx k hk hf => by
  obtain ⟨a, b, h1, h2⟩ := opd2_some hx hy hk
  replace h1 := srcK_some (P := P) (E := E) h1
  obtain ⟨cs, m, h1, hsrc⟩ := h1
  -- a new block of these cells
  have fresh : ∀ (all : List AV) (base : Option Addr) (n need : Nat) (h0 : T Blk) (t' : T AV) (h' : T Blk), need = n + m → need * ie.bytes ≤ 140737488355328 → need ≤ 1000000 → (∀ j, j < all.length → t'.get j = all[j]?) → (∀ ty, t'.get (all.length + 7) = some (.glob ty) → ty = el) → Upd h0 nx (.live all.length t') h' →
      ∀ ρ (A : Act) w (cap : Nat) (olds news : List Value) (_ : Ev A.eval), Inv E ρ h0.get w → ρ nx = none → VRs E ρ all (olds ++ news) → (∀ v ∈ olds ++ news, v.oneCell' = true) → (olds ++ news).length = need * ie.size → A.eval x = .slice base n cap → cap < need →
      (∀ w', (Builtin.lenOf (A.eval y)).run P w' = .ok m w') → (Builtin.firstCells ie.size m (A.eval y)).run P w.drew = .ok news.toArray w.drew → (Builtin.firstCells ie.size n (.slice base n cap)).run P w.drew = .ok olds.toArray w.drew →
      ∃ v w' ρ', (execOp A.eval o).run P w = .ok (.value v) w' ∧ Stp ρ h0.get w nx ρ' h'.get w' (nx + 1) ∧ Inv E ρ' h'.get w' ∧ VR E ρ' (.sl nx 0 need need false ie.size) v := by
    intro all base n need h0 t' h' hneed b1 b2 htr hT hup ρ A w cap olds news he hI hnx hall hone hlen hv hcap hl hfn hfo
    subst hneed
    have hrun := run_append_new (P := P) (ty := o.type) (base := base) ht hu hnu hi hz hl hfn hfo hcap b2 b1
    have hp : Pushed w _ _ := Pushed.drew (w := w) (o := .cells (olds.toArray ++ (news.toArray ++ Builtin.zeroCells z.cells (grownCap w (n + m) cap el - (n + m)))) el)
    obtain ⟨s1, s2⟩ := new_step (pl := 1) hI hp (fun k _ hk => by omega) hnx hall hone (fun j hj => get_app hj) htr (fun ty hty => (hT ty hty).symm) hup
    rw [← hv] at hrun
    refine ⟨_, _, _, run_app ho hrun, s1, s2, ?_⟩
    have hge := grownCap_ge w (n + m) cap el
    simp only [VR]
    refine ⟨⟨w.heap.size, 0, _, 1⟩, grownCap w (n + m) cap el, if_pos rfl, rfl, hge, fun h => (by cases h), ?_, fun _ => rfl, grownCap_le_maxLen w (n + m) cap el (by unfold maxLen; omega)⟩
    show 0 + 0 + grownCap w (n + m) cap el * ie.size ≤ _
    simp only [Array.size_append, List.size_toArray, zeroCells_size, hsz]
    rw [List.length_append] at hlen
    have e1 : grownCap w (n + m) cap el = (n + m) + (grownCap w (n + m) cap el - (n + m)) := by omega
    have e2 : grownCap w (n + m) cap el * ie.size = (n + m) * ie.size + (grownCap w (n + m) cap el - (n + m)) * ie.size := by rw [← Nat.add_mul, ← e1]
    omega
  replace h1 := slK_some h1
  rcases h1 with ⟨i, p, n, c0, ex, es', rfl, h1⟩ | ⟨rfl, h1⟩ | ⟨rfl, h1⟩
  · replace h1 := ifK_and h1
    obtain ⟨hes, h1⟩ := h1
    have := beq_of hes; subst this
    rw [forceN_eq, forceN_eq] at h1
    cases hroom : Nat.ble (Nat.add n m) c0 with
    | true =>
      rw [hroom] at h1
      replace h1 := wrK_some h1
      obtain ⟨N, tr, tr', h', hb, hfit, htr, hup, h1⟩ := h1
      have hroom := ble_of hroom
      simp only [Nat.add_eq, Nat.mul_eq] at *
      refine ⟨_, h', nx, h1, hf.set hup (hf.lt hb), Nat.le_refl _, fun ρ A w next Q _ hh hI hnext => ?_⟩
      rw [ho] at hh
      obtain ⟨hv, hw⟩ := h2 ρ A.eval (Ev.act A) (hh.sub (by simp [Op.operands, Call.operands]))
      obtain ⟨vs, g1, g2, g3, g4, g5⟩ := hsrc ρ w _ hI hw
      simp only [VR] at hv
      obtain ⟨L, cap, hL, hv, v1, v2, v3, v4⟩ := hv
      have hcl : cs.length = m * ie.size := by rw [← g1.length, g3]
      obtain ⟨s1, s2⟩ := write_step (nx := nx) hI hb hL g1 g2 (by rw [hcl]; exact hfit) htr hup
      have hst := run_store_blk (P := P) (hI.blk hb hL) (p := p + n * ie.size) (vs := vs) (by rw [g3]; exact hfit) g2
      have hfc := g5 w m rfl (Nat.le_refl _)
      rw [List.take_of_length_le (by omega)] at hfc
      rw [← Nat.add_assoc] at hst s1 s2
      have hrun := run_append_in (P := P) (ty := o.type) (b := L.b) (p := L.o + p) (n := n) (cap := cap) ht hu hnu hi g4 hfc (by omega) hst
      rw [← hv] at hrun
      refine wp_value (run_app ho hrun) (hnext ρ _ _ s1 s2 ?_)
      simp only [VR]
      exact ⟨L, cap, hL, rfl, v1, v2, v3, v4⟩
    | false =>
      rw [hroom] at h1
      have hroom : ¬ (n + m ≤ c0) := fun hh => by
        have : Nat.ble (Nat.add n m) c0 = true := by rw [Nat.ble_eq]; exact hh
        rw [this] at hroom; cases hroom
      replace h1 := ifK_and h1
      obtain ⟨b1, h1⟩ := h1
      replace h1 := ifK_and h1
      obtain ⟨b2, h1⟩ := h1
      replace h1 := blkK_some h1
      obtain ⟨N, tr, hb, h1⟩ := h1
      replace h1 := ifK_and h1
      obtain ⟨hle, h1⟩ := h1
      have b1 := ble_of b1
      have b2 := ble_of b2
      have hle := ble_of hle
      have grow : ∀ (b : Bool) (old : List AV) (K : Nat) (t' : T AV), (b = true → ex = true ∨ (tr.get (N + 7) = some (.glob el) ∧ p = 0)) → old.length = n * ie.size → (cs.length = m * ie.size → K = (old ++ cs).length) → (∀ ρ w, Inv E ρ h.get w → (∀ j, j < old.length → tr.get (p + j) = old[j]?) ∧ ∀ j, j < (old ++ cs).length → t'.get j = (old ++ cs)[j]?) →
          growK b el i K t' h nx (k (.sl nx 0 (Nat.add n m) (Nat.add n m) false ie.size)) ex = true → ∃ r h' nx', k r h' nx' = true ∧ Fresh h' nx' ∧ nx ≤ nx' ∧ OpT P E o fr h.get nx r h'.get nx' := by
        intro b old K t1 hkeep hol hK hsp1 h1
        simp only [Nat.add_eq, Nat.mul_eq] at *
        -- what is old
        have olds : ∀ ρ w, Inv E ρ h.get w → ∀ L, ρ i = some L → ∀ cap, ∃ ov, VRs E ρ old ov ∧ (∀ v ∈ ov, v.oneCell' = true) ∧ ov.length = n * ie.size ∧ ∀ w', w'.heap = w.heap → (Builtin.firstCells ie.size n (.slice (some ⟨L.b, L.o + p, none⟩) n cap)).run P w' = .ok ov.toArray w' := by
          intro ρ w hI L hL cap
          obtain ⟨ov, g1, g2, g3⟩ := (hI.blk hb hL).row hle hol (fun j hj => (hsp1 ρ w hI).1 j (by omega))
          have hlen : ov.length = n * ie.size := by rw [g1.length, hol]
          refine ⟨ov, g1, g2, hlen, fun w' hw => ?_⟩
          have hrun := run_loadCells (P := P) (w := w') L.b (L.o + p) ov (fun j hj => by rw [World.cell?_of_block (w := w) (by rw [hw]), g3 j hj])
          rw [hlen] at hrun
          simp [Builtin.firstCells, hrun]
        unfold growK at h1
        rw [forceN_eq] at h1
        obtain ⟨t', htsame, hT, h1⟩ := nameK_some h1
        simp only [Nat.add_eq] at hT htsame
        have hsp : cs.length = m * ie.size → ∀ ρ w, Inv E ρ h.get w → (∀ j, j < old.length → tr.get (p + j) = old[j]?) ∧ ∀ j, j < (old ++ cs).length → t'.get j = (old ++ cs)[j]? := fun hcl ρ w hI =>
          ⟨(hsp1 ρ w hI).1, fun j hj => by rw [htsame j (by rw [hK hcl]; omega)]; exact (hsp1 ρ w hI).2 j hj⟩
        cases ex with
        | true =>
          replace h1 := setK_some h1
          obtain ⟨h', hup, h1⟩ := h1
          rw [forceN_eq] at h1
          refine ⟨_, h', nx + 1, h1, hf.new hup, Nat.le_succ _, fun ρ A w next Q hfree hh hI hnext => ?_⟩
          rw [ho] at hh
          obtain ⟨hv, hw⟩ := h2 ρ A.eval (Ev.act A) (hh.sub (by simp [Op.operands, Call.operands]))
          obtain ⟨vs, g1, g2, g3, g4, g5⟩ := hsrc ρ w _ hI hw
          have hcl : cs.length = m * ie.size := by rw [← g1.length, g3]
          rw [hK hcl] at hup hT
          simp only [VR] at hv
          obtain ⟨L, cap, hL, hv, v1, v2, v3, v4⟩ := hv
          have := v2 trivial
          subst this
          obtain ⟨ov, o1, o2, o3, o4⟩ := olds ρ w hI L hL cap
          have hfc := g5 w.drew m rfl (Nat.le_refl _)
          rw [List.take_of_length_le (by omega)] at hfc
          obtain ⟨v, w', ρ', q1, q2, q3, q4⟩ := fresh (old ++ cs) _ n (n + m) h t' h' rfl b1 b2 (hsp hcl ρ w hI).2 (fun ty hty => (hT ty hty).2) hup ρ A w cap ov vs (Ev.act A) hI (hfree nx (Nat.le_refl _) (Nat.lt_succ_self _)) (o1.append g1)
            (fun v hv => by rcases List.mem_append.1 hv with h | h; exact o2 v h; exact g2 v h) (by rw [List.length_append, o3, g3, Nat.add_mul]) hv (by omega) g4 hfc (o4 w.drew rfl)
          exact wp_value q1 (hnext ρ' v w' q2 q3 q4)
        | false =>
          replace h1 := setK_some h1
          obtain ⟨h0, hk0, h1⟩ := h1
          replace h1 := setK_some h1
          obtain ⟨h', hup, h1⟩ := h1
          rw [forceN_eq] at h1
          have hf0 : Fresh h0 nx := hf.set hk0 (hf.lt hb)
          refine ⟨_, h', nx + 1, h1, hf0.new hup, Nat.le_succ _, fun ρ A w next Q hfree hh hI hnext => ?_⟩
          rw [ho] at hh
          obtain ⟨hv, hw⟩ := h2 ρ A.eval (Ev.act A) (hh.sub (by simp [Op.operands, Call.operands]))
          obtain ⟨vs, g1, g2, g3, g4, g5⟩ := hsrc ρ w _ hI hw
          simp only [VR] at hv
          obtain ⟨L, cap, hL, hv, v1, v2, v3, v4⟩ := hv
          have hnx := hfree nx (Nat.le_refl _) (Nat.lt_succ_self _)
          have hcl : cs.length = m * ie.size := by rw [← g1.length, g3]
          rw [hK hcl] at hup hT
          by_cases hc : n + m ≤ cap
          · have hmul := Nat.mul_le_mul_right ie.size hc
            rw [Nat.add_mul] at hmul
            obtain ⟨ov, o1, o2, o3, o4⟩ := olds ρ w hI L hL cap
            obtain ⟨s1, s2⟩ := move_step (p := p) (q := p + n * ie.size) hI hb hL hf hnx (by rw [hol]; exact hle) (hsp hcl ρ w hI).1 (by rw [hol]) (by rw [hcl]; omega) o1 g1 g2 (hsp hcl ρ w hI).2 (fun ty hty => by
              obtain ⟨e1, e2⟩ := hT ty hty
              rcases hkeep e1 with e3 | ⟨e3, e4⟩
              · cases e3
              · rw [e2]; exact ⟨e3, e4⟩) hk0 hup
            have hfc := g5 w m rfl (Nat.le_refl _)
            rw [List.take_of_length_le (by omega)] at hfc
            have hst : (storeCells ⟨L.b, L.o + p + n * ie.size, none⟩ vs).run P w = .ok () (w.setCells L.b (L.o + p + n * ie.size) vs) := by
              have := run_storeCells_cells (P := P) L.b (L.o + p + n * ie.size) vs 0 w (fun j hj => (hI.blk hb hL).there (by omega)) (fun j hj => (hI.blk hb hL).thaw (by omega)) g2
              simpa using this
            have hrun := run_append_in (P := P) (ty := o.type) (b := L.b) (p := L.o + p) (n := n) (cap := cap) ht hu hnu hi g4 hfc hc hst
            rw [← hv] at hrun
            rw [← Nat.add_assoc] at s1 s2
            refine wp_value (run_app ho hrun) (hnext _ _ _ s1 s2 ?_)
            simp only [VR]
            exact ⟨⟨L.b, L.o + p, L.sz, L.pl⟩, cap, if_pos rfl, rfl, hc, fun h => (by cases h), by show L.o + p + 0 + cap * ie.size ≤ L.sz; omega, v4⟩
          · obtain ⟨ov, o1, o2, o3, o4⟩ := olds ρ w hI L hL cap
            obtain ⟨k1, k2⟩ := kill_step (nx := nx) hI hk0
            have hfc := g5 w.drew m rfl (Nat.le_refl _)
            rw [List.take_of_length_le (by omega)] at hfc
            obtain ⟨v, w', ρ', q1, q2, q3, q4⟩ := fresh (old ++ cs) _ n (n + m) h0 t' h' rfl b1 b2 (hsp hcl ρ w hI).2 (fun ty hty => (hT ty hty).2) hup ρ A w cap ov vs (Ev.act A) k2 hnx (o1.append g1)
              (fun v hv => by rcases List.mem_append.1 hv with h | h; exact o2 v h; exact g2 v h) (by rw [List.length_append, o3, g3, Nat.add_mul]) hv (by omega) g4 hfc (o4 w.drew rfl)
            exact wp_value q1 (hnext ρ' v w' (k1.trans q2) q3 q4)
      cases hp0 : Nat.beq p 0 with
      | false =>
        rw [hp0] at h1
        replace h1 := readK_some h1
        obtain ⟨old, hol, hog, h1⟩ := h1
        rw [appK_eq] at h1
        replace h1 := writeK_some h1
        obtain ⟨t', ht', h1⟩ := h1
        rw [lenK_eq] at h1
        refine grow false old _ t' (fun e => by cases e) hol (fun _ => Nat.zero_add _) (fun ρ w _ => ⟨fun j hj => hog j (by omega), fun j hj => ?_⟩) h1
        rw [ht', if_pos ⟨Nat.zero_le _, by omega⟩, Nat.sub_zero]
      | true =>
        rw [hp0] at h1
        have := beq_of hp0; subst this
        obtain ⟨b, h1, hkeep⟩ := growB_some h1
        replace h1 := writeK_some h1
        obtain ⟨t', ht', h1⟩ := h1
        rw [forceN_eq] at h1
        simp only [Nat.add_eq, Nat.mul_eq, Nat.zero_add] at ht' h1 hle
        refine grow b ((List.range (n * ie.size)).map fun j => (tr.get j).getD .nilp) _ t' (fun e => (hkeep e).imp id fun e => ⟨e, rfl⟩) (by simp) (fun hc => by simp [hc]) (fun ρ w hI => ?_) h1
        have hk : ∀ j, j < n * ie.size → tr.get (0 + j) = ((List.range (n * ie.size)).map fun j => (tr.get j).getD .nilp)[j]? := fun j hj => by
          obtain ⟨L, hL, c, e, z, _, _, _, q4, _⟩ := hI.at_ i N tr hb
          obtain ⟨av, v, q5, _⟩ := q4 j (by omega)
          simp [hj, q5]
        refine ⟨fun j hj => hk j (by simpa using hj), fun j hj => ?_⟩
        rw [ht']
        by_cases hjn : j < n * ie.size
        · rw [if_neg (by omega), List.getElem?_append_left (by simpa using hjn), ← hk j hjn, Nat.zero_add]
        · rw [List.length_append] at hj
          simp only [List.length_map, List.length_range] at hj
          rw [if_pos (by omega), List.getElem?_append_right (by simp; omega)]
          simp
  · cases m with
    | zero =>
      refine ⟨_, h, nx, h1, hf, Nat.le_refl _, fun ρ A w next Q _ hh hI hnext => ?_⟩
      rw [ho] at hh
      obtain ⟨hv, hw⟩ := h2 ρ A.eval (Ev.act A) (hh.sub (by simp [Op.operands, Call.operands]))
      obtain ⟨vs, g1, g2, g3, g4, g5⟩ := hsrc ρ w _ hI hw
      simp only [VR] at hv
      have hfc := g5 w 0 rfl (Nat.le_refl _)
      simp only [Nat.zero_mul, List.take_zero] at hfc
      have hrun := run_append_none (P := P) (ty := o.type) (a := none) (c := 0) ht hu hnu hi g4 hfc
      rw [← hv] at hrun
      refine wp_value (run_app ho hrun) (hnext ρ _ _ Stp.rfl' hI ?_)
      simp only [VR]
      exact hv
    | succ m' =>
      replace h1 := ifK_and h1
      obtain ⟨b1, h1⟩ := h1
      replace h1 := ifK_and h1
      obtain ⟨b2, h1⟩ := h1
      replace h1 := mkBK_some h1
      obtain ⟨t', h', htr, hTy, hup, h1⟩ := h1
      have b1 := ble_of b1
      have b2 := ble_of b2
      simp only [Nat.mul_eq] at b1
      refine ⟨_, h', nx + 1, h1, hf.new hup, Nat.le_succ _, fun ρ A w next Q hfree hh hI hnext => ?_⟩
      rw [ho] at hh
      obtain ⟨hv, hw⟩ := h2 ρ A.eval (Ev.act A) (hh.sub (by simp [Op.operands, Call.operands]))
      obtain ⟨vs, g1, g2, g3, g4, g5⟩ := hsrc ρ w _ hI hw
      simp only [VR] at hv
      have hfc := g5 w.drew (m' + 1) rfl (Nat.le_refl _)
      rw [List.take_of_length_le (by omega)] at hfc
      obtain ⟨v, w', ρ', q1, q2, q3, q4⟩ := fresh cs none 0 (m' + 1) h t' h' (by omega) b1 b2 htr hTy hup ρ A w 0 [] vs (Ev.act A) hI (hfree nx (Nat.le_refl _) (Nat.lt_succ_self _)) (by simpa using g1)
        (fun v hv => g2 v (by simpa using hv)) (by simpa using g3) hv (by omega) g4 hfc (by simp [Builtin.firstCells])
      exact wp_value q1 (hnext ρ' v w' q2 q3 q4)
  · cases m with
    | zero =>
      refine ⟨_, h, nx, h1, hf, Nat.le_refl _, fun ρ A w next Q _ hh hI hnext => ?_⟩
      rw [ho] at hh
      obtain ⟨hv, hw⟩ := h2 ρ A.eval (Ev.act A) (hh.sub (by simp [Op.operands, Call.operands]))
      obtain ⟨vs, g1, g2, g3, g4, g5⟩ := hsrc ρ w _ hI hw
      simp only [VR] at hv
      obtain ⟨ad, cap, hv⟩ := hv
      have hfc := g5 w 0 rfl (Nat.le_refl _)
      simp only [Nat.zero_mul, List.take_zero] at hfc
      have hrun := run_append_none (P := P) (ty := o.type) (a := ad) (c := cap) ht hu hnu hi g4 hfc
      rw [← hv] at hrun
      refine wp_value (run_app ho hrun) (hnext ρ _ _ Stp.rfl' hI ?_)
      simp only [VR]
      exact ⟨_, _, hv⟩
    | succ m' => cases h1
theorem run_appendz_new {t u ty el : Nat} {q kq : IntKind} {i : TypeInfo} {z : Value} {base : Option Addr} {n cap m : Nat} {olds : List Value} {w : World} (ht : P.underlying t = some (.slice el)) (hu : P.underlying u = some (.int kq)) (hi : P.info? el = some i) (hz : i.zero = some z) (hm : 0 < m) (hs : 0 < i.size)
    (ho : (Builtin.firstCells i.size n (.slice base n cap)).run P w.drew = .ok olds.toArray w.drew) (hg : cap < n + m) (h63 : n + m ≤ 1000000) (hb : (n + m) * i.bytes ≤ 140737488355328) :
    (Builtin.append_ #[t, u] ty #[.slice base n cap, .int q (m : Int)]).run P w = .ok (.slice (some ⟨w.heap.size, 0, none⟩) (n + m) (grownCap w (n + m) cap el))
      (w.drew.alloc (.cells (olds.toArray ++ (Builtin.zeroCells z.cells m ++ Builtin.zeroCells z.cells (grownCap w (n + m) cap el - (n + m)))) el)) := by
  have hn : ¬ (n + m ≤ cap) := by omega
  have hw : IntKind.i64.wrap (m : Int) = m := by rw [IntKind.wrap_i64]; omega
  have h63' : ¬ (9223372036854775807 < ((n : Int) + (m : Int))) := by omega
  have hfit := growslice_fits hg hb
  have h48' : ¬ (281474976710656 < Builtin.nextslicecap (n + m) cap * i.bytes) := by omega
  have hle : m * i.bytes ≤ (n + m) * i.bytes := Nat.mul_le_mul_right _ (by omega)
  have h48i : ¬ (281474976710656 < (m : Int) * (i.bytes : Int)) := by
    rw [← Int.natCast_mul]
    omega
  have hneg : ¬ ((m : Int) < 0) := by omega
  have hns : ¬ (m * i.size = 0) := Nat.mul_ne_zero (by omega) (by omega)
  simp [Builtin.append_, run_underlying ht, run_underlying hu, sizeOf, typeInfo, zeroValue, hi, hz, asInt, asIntOf, hw, hn, hneg, hns, h63', h48', h48i, Question.forced, ho, newRow, grownCap]
theorem appz_ok {t u el : Nat} {kq : IntKind} {ie : TypeInfo} {z : Value} {zs : List AV} {x y : Operand} {c d : COpd} (ho : o.op = .call ⟨.builtin .append, #[x, y], #[t, u]⟩) (ht : P.underlying t = some (.slice el)) (hu : P.underlying u = some (.int kq))
    (hi : P.info? el = some ie) (hz : ie.zero = some z) (hsz : z.cells.size = ie.size) (hzs : ∀ ρ, VRs E ρ zs z.cells.toList) (h1c : ∀ u ∈ z.cells.toList, u.oneCell' = true) (hx : OpdOk E x c) (hy : OpdOk E y d) : EffOk P E o (.appz ie.bytes ie.size zs c d) := fun fr h nx k hk hf => by
  obtain ⟨a, b, h1, h2⟩ := opd2_some hx hy hk
  replace h1 := natK_some (E := E) h1
  obtain ⟨m, h1, hm⟩ := h1
  replace h1 := slK_some h1
  rcases h1 with ⟨i, p, n, c0, ex, es', rfl, h1⟩ | ⟨_, h1⟩ | ⟨_, h1⟩
  rotate_left
  · cases h1
  · cases h1
  replace h1 := ifK_and h1
  obtain ⟨hes, h1⟩ := h1
  have := beq_of hes; subst this
  replace h1 := ifK_and h1
  obtain ⟨hex, h1⟩ := h1
  subst hex
  replace h1 := ifK_and h1
  obtain ⟨hm0, h1⟩ := h1
  have hm0 := blt_of hm0
  replace h1 := ifK_and h1
  obtain ⟨hpos, h1⟩ := h1
  have hpos := blt_of hpos
  rw [forceN_eq] at h1
  replace h1 := ifK_and h1
  obtain ⟨hcap, h1⟩ := h1
  have hcap := blt_of hcap
  replace h1 := ifK_and h1
  obtain ⟨b1, h1⟩ := h1
  have b1 := ble_of b1
  replace h1 := ifK_and h1
  obtain ⟨b2, h1⟩ := h1
  have b2 := ble_of b2
  have h1 := repK_some h1
  replace h1 := blkK_some h1
  obtain ⟨N, tr, hb, h1⟩ := h1
  rw [forceN_eq] at h1
  replace h1 := ifK_and h1
  obtain ⟨hle, h1⟩ := h1
  have hle := ble_of hle
  replace h1 := readK_some h1
  obtain ⟨old, hol, hog, h1⟩ := h1
  rw [appK_eq] at h1
  replace h1 := mkK_some h1
  obtain ⟨t', h', htr, hup, h1⟩ := h1
  simp only [Nat.add_eq, Nat.mul_eq] at *
  refine ⟨_, h', nx + 1, h1, hf.new hup, Nat.le_succ _, fun ρ A w next Q hfree hh hI hnext => ?_⟩
  rw [ho] at hh
  obtain ⟨hv, hw⟩ := h2 ρ A.eval (Ev.act A) (hh.sub (by simp [Op.operands, Call.operands]))
  obtain ⟨q, hq⟩ := hm ρ _ hw
  simp only [VR] at hv
  obtain ⟨L, cap, hL, hv, v1, v2, v3, v4⟩ := hv
  have := v2 trivial
  subst this
  have hnx := hfree nx (Nat.le_refl _) (Nat.lt_succ_self _)
  obtain ⟨ov, o1, o2, o3⟩ := (hI.blk hb hL).row hle hol hog
  have hlen : ov.length = n * ie.size := by rw [o1.length, hol]
  have hold : (Builtin.firstCells ie.size n (.slice (some ⟨L.b, L.o + p, none⟩) n cap)).run P w.drew = .ok ov.toArray w.drew := by
    have hrun := run_loadCells (P := P) (w := w.drew) L.b (L.o + p) ov (fun j hj => by rw [World.cell?_of_block (w := w) (by rfl), o3 j hj])
    rw [hlen] at hrun
    simp [Builtin.firstCells, hrun]
  have hzc : (Builtin.zeroCells z.cells m).toList = (List.replicate m z.cells.toList).flatten := madeCells_rep z.cells (by omega) m
  have hrun := run_appendz_new (P := P) (ty := o.type) (base := some ⟨L.b, L.o + p, none⟩) (q := q) ht hu hi hz hm0 hpos hold hcap b2 b1
  have hp : Pushed w _ _ := Pushed.drew (w := w) (o := .cells (ov.toArray ++ (Builtin.zeroCells z.cells m ++ Builtin.zeroCells z.cells (grownCap w (n + m) cap el - (n + m)))) el)
  have hzl : (List.replicate m z.cells.toList).flatten.length = m * ie.size := by simp [hsz]
  have hzv := (hzs ρ).rep m
  obtain ⟨s1, s2⟩ := new_step (pl := 1) hI hp (fun k _ hk => by omega) hnx (o1.append hzv)
    (fun v hv => by
      rcases List.mem_append.1 hv with h | h
      · exact o2 v h
      · obtain ⟨r, hr, h⟩ := List.mem_flatten.1 h
        rw [(List.mem_replicate.1 hr).2] at h
        exact h1c v h)
    (fun j hj => by
      have e : Builtin.zeroCells z.cells m = (List.replicate m z.cells.toList).flatten.toArray := by apply Array.ext'; rw [hzc]
      rw [e]
      exact get_app hj) (fun j hj => by rw [htr, if_pos hj]) (fun ty hty => by rw [htr, if_neg (by omega)] at hty; cases hty) hup
  rw [← hv, ← hq] at hrun
  refine wp_value (run_app ho hrun) (hnext _ _ _ s1 s2 ?_)
  have hge := grownCap_ge w (n + m) cap el
  simp only [VR]
  refine ⟨⟨w.heap.size, 0, _, 1⟩, grownCap w (n + m) cap el, if_pos rfl, rfl, hge, fun h => (by cases h), ?_, fun _ => rfl, grownCap_le_maxLen w (n + m) cap el (by unfold maxLen; omega)⟩
  show 0 + 0 + grownCap w (n + m) cap el * ie.size ≤ _
  simp only [Array.size_append, List.size_toArray, zeroCells_size, hsz]
  have e1 : grownCap w (n + m) cap el = (n + m) + (grownCap w (n + m) cap el - (n + m)) := by omega
  have e2 : grownCap w (n + m) cap el * ie.size = n * ie.size + m * ie.size + (grownCap w (n + m) cap el - (n + m)) * ie.size := by rw [← Nat.add_mul, ← Nat.add_mul, ← e1]
  omega
end
end Go.Proofs.YtfgmmabggjjhgaaGreatDoor.Ev
set_option linter.unusedVariables false
set_option linter.unusedSimpArgs false
namespace Go.Proofs.YtfgmmabggjjhgaaGreatDoor.Ev
open Go

section
variable {P : Program} {E : Env} {F : Facts} {o : Oper}
theorem cpy_ok {t u el : Nat} {ie : TypeInfo} {x y : Operand} {c d : COpd} (ho : o.op = .call ⟨.builtin .copy, #[x, y], #[t, u]⟩) (ht : P.underlying t = some (.slice el)) (hi : P.info? el = some ie) (hx : OpdOk E x c) (hy : OpdOk E y d) : EffOk P E o (.cpy ie.size c d) := fun fr h nx k hk hf => by
  obtain ⟨a, b, h1, h2⟩ := opd2_some hx hy hk
  replace h1 := slK_some h1
  rcases h1 with ⟨i, p, n, c0, ex, es', rfl, h1⟩ | ⟨rfl, h1⟩ | ⟨_, h1⟩
  · replace h1 := ifK_and h1
    obtain ⟨hes, h1⟩ := h1
    have := beq_of hes; subst this
    replace h1 := ifK_and h1
    obtain ⟨hnc, h1⟩ := h1
    have hnc := ble_of hnc
    replace h1 := srcRK_some (P := P) (E := E) h1
    obtain ⟨cs, r, h1, hr, hsrc⟩ := h1
    rw [forceN_eq] at h1
    replace h1 := wrxK_some h1
    obtain ⟨N, N', tr, tr', h', hb, hpn, hn', hfr, htr, hup, h1⟩ := h1
    simp only [Nat.mul_eq] at *
    refine ⟨_, h', nx, h1, hf.set hup (hf.lt hb), Nat.le_refl _, fun ρ A w next Q _ hh hI hnext => ?_⟩
    rw [ho] at hh
    obtain ⟨hv, hw⟩ := h2 ρ A.eval (Ev.act A) (hh.sub (by simp [Op.operands, Call.operands]))
    obtain ⟨vs, m, g1, g2, g3, g4, g6, g5⟩ := hsrc ρ w _ hI hw
    simp only [VR] at hv
    obtain ⟨L, cap, hL, hv, v1, v2, v3, v4⟩ := hv
    have hfc := g5 w rfl
    have hcl : cs.length = r * ie.size := by rw [← g1.length, g3]
    have hle : r * ie.size ≤ cap * ie.size := Nat.mul_le_mul_right _ (by omega)
    obtain ⟨s1, s2⟩ := writex_step (nx := nx) hI hb hL g1 g2 hpn (by omega) (by rw [hcl]; exact hn') (by rw [hcl]; exact hfr) htr hup
    have hst : (storeCells ⟨L.b, L.o + p, none⟩ vs).run P w = .ok () (w.setCells L.b (L.o + p) vs) := by
      have := run_storeCells_cells (P := P) L.b (L.o + p) vs 0 w (fun j hj => (hI.blk hb hL).there (by omega)) (fun j hj => (hI.blk hb hL).thaw (by omega)) g2
      simpa using this
    refine wp_value (v := .int .i64 (Int.ofNat r)) (w' := w.setCells L.b (L.o + p) vs) ?_ (hnext ρ _ _ s1 s2 (by simp only [VR]))
    rw [run_builtin ho]
    simp only [builtin, List.map_toArray, List.map_cons, List.map_nil, hv]
    have hcp : (Builtin.copy_ #[t, u] o.type #[.slice (some ⟨L.b, L.o + p, none⟩) n cap, A.eval y]).run P w = .ok (.int .i64 (Int.ofNat r)) (w.setCells L.b (L.o + p) vs) := by
      subst g6
      simp [Builtin.copy_, run_underlying ht, g4, run_sizeOf hi, hfc, hst, goInt]
    simp [hcp]
  · replace h1 := srcRK_some (P := P) (E := E) h1
    obtain ⟨cs, r, h1, hr, hsrc⟩ := h1
    refine ⟨_, h, nx, h1, hf, Nat.le_refl _, fun ρ A w next Q _ hh hI hnext => ?_⟩
    rw [ho] at hh
    obtain ⟨hv, hw⟩ := h2 ρ A.eval (Ev.act A) (hh.sub (by simp [Op.operands, Call.operands]))
    obtain ⟨vs, m, g1, g2, g3, g4, g6, g5⟩ := hsrc ρ w _ hI hw
    simp only [VR] at hv
    have hr0 : r = 0 := by omega
    subst hr0
    have hfc := g5 w rfl
    have hvs : vs = [] := by cases vs with | nil => rfl | cons _ _ => simp at g3
    subst hvs
    refine wp_value (v := .int .i64 0) (w' := w) ?_ (hnext ρ _ _ Stp.rfl' hI (by simp only [VR]))
    rw [run_builtin ho]
    simp only [builtin, List.map_toArray, List.map_cons, List.map_nil, hv]
    have hcp : (Builtin.copy_ #[t, u] o.type #[.slice none 0 0, A.eval y]).run P w = .ok (.int .i64 0) w := by
      have : Nat.min m 0 = 0 := Nat.min_eq_right (Nat.zero_le _)
      simp [Builtin.copy_, run_underlying ht, g4, run_sizeOf hi, this, hfc, goInt]
    simp [hcp]
  · cases h1
theorem clr_ok {t el : Nat} {ie : TypeInfo} {z : Value} {x : Operand} {zs : List AV} {c : COpd} (ho : o.op = .call ⟨.builtin .clear, #[x], #[t]⟩) (ht : P.underlying t = some (.slice el)) (hi : P.info? el = some ie) (hz : ie.zero = some z) (hsz : z.cells.size = ie.size) (hpos : 0 < ie.size) (hzs : ∀ ρ, VRs E ρ zs z.cells.toList)
    (h1c : ∀ u ∈ z.cells.toList, u.oneCell' = true) (hx : OpdOk E x c) : EffOk P E o (.clr ie.size zs c) := fun fr h nx k hk hf => by
  obtain ⟨a, h1, h2⟩ := hx fr _ hk
  have none_ : k und h nx = true → (∀ ρ v, VR E ρ a v → ∃ b cc, v = .slice b 0 cc) → ∃ r h' nx', k r h' nx' = true ∧ Fresh h' nx' ∧ nx ≤ nx' ∧ OpT P E o fr h.get nx r h'.get nx' := fun h1 hv =>
    ⟨_, h, nx, h1, hf, Nat.le_refl _, fun ρ A w next Q _ hh hI hnext => by
      rw [ho] at hh
      obtain ⟨b, cc, hv⟩ := hv ρ _ (h2 ρ A.eval (Ev.act A) (hh.sub (by simp [Op.operands, Call.operands])))
      refine wp_value (v := undef) (w' := w) ?_ (hnext ρ _ _ Stp.rfl' hI vr_und)
      rw [run_builtin ho]
      simp only [builtin, List.map_toArray, List.map_cons, List.map_nil, hv]
      have hcp : (Builtin.clear_ #[t] o.type #[.slice b 0 cc]).run P w = .ok undef w := by
        cases b <;> simp [Builtin.clear_, run_underlying ht, undef]
      simp [hcp]⟩
  replace h1 := slK_some h1
  rcases h1 with ⟨i, p, n, c0, ex, es', rfl, h1⟩ | ⟨rfl, h1⟩ | ⟨rfl, h1⟩
  · replace h1 := ifK_and h1
    obtain ⟨hes, h1⟩ := h1
    have := beq_of hes; subst this
    replace h1 := repK_some h1
    replace h1 := wrK_some h1
    obtain ⟨N, tr, tr', h', hb, hfit, htr, hup, h1⟩ := h1
    simp only [Nat.mul_eq] at *
    refine ⟨_, h', nx, h1, hf.set hup (hf.lt hb), Nat.le_refl _, fun ρ A w next Q _ hh hI hnext => ?_⟩
    rw [ho] at hh
    have hv := h2 ρ A.eval (Ev.act A) (hh.sub (by simp [Op.operands, Call.operands]))
    simp only [VR] at hv
    obtain ⟨L, cap, hL, hv, v1, v2, v3⟩ := hv
    have g1 := (hzs ρ).rep n
    have g2 : ∀ u ∈ (List.replicate n z.cells.toList).flatten, u.oneCell' = true := fun u hu => by
      replace hu := List.mem_flatten.1 hu
      obtain ⟨r, hr, hu⟩ := hu
      rw [(List.mem_replicate.1 hr).2] at hu
      exact h1c u hu
    have hlen : (List.replicate n z.cells.toList).flatten.length = n * ie.size := by simp [hsz]
    obtain ⟨s1, s2⟩ := write_step (nx := nx) hI hb hL g1 g2 (by rw [← g1.length, hlen]; exact hfit) htr hup
    have hst := run_store_blk (P := P) (hI.blk hb hL) (p := p) (vs := (List.replicate n z.cells.toList).flatten) (by rw [hlen]; exact hfit) g2
    refine wp_value (v := undef) (w' := w.setCells L.b (L.o + p) (List.replicate n z.cells.toList).flatten) ?_ (hnext ρ _ _ s1 s2 vr_und)
    rw [run_builtin ho]
    simp only [builtin, List.map_toArray, List.map_cons, List.map_nil, hv]
    have hzc : (Builtin.zeroCells z.cells n).toList = (List.replicate n z.cells.toList).flatten := madeCells_rep z.cells (by omega) n
    have hcp : (Builtin.clear_ #[t] o.type #[.slice (some ⟨L.b, L.o + p, none⟩) n cap]).run P w = .ok undef (w.setCells L.b (L.o + p) (List.replicate n z.cells.toList).flatten) := by
      cases n with
      | zero => simp [Builtin.clear_, run_underlying ht, undef, World.setCells]
      | succ n => simp [Builtin.clear_, run_underlying ht, undef, zeroValue, typeInfo, hi, hz, hzc, hst]
    simp [hcp]
  · exact none_ h1 fun ρ v hv => by simp only [VR] at hv; exact ⟨_, _, hv⟩
  · exact none_ h1 fun ρ v hv => by simp only [VR] at hv; exact hv
end
end Go.Proofs.YtfgmmabggjjhgaaGreatDoor.Ev
