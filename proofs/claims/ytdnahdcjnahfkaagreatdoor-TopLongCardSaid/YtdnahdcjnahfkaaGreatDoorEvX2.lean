/- The evaluator: rows of operations, code and calls do what the model says. It speaks of any program; nothing of the claim's own program stands here. -/
import Derived.Test.YtdnahdcjnahfkaaGreatDoorEvR
namespace Go.Proofs.YtdnahdcjnahfkaaGreatDoor.Ev
open Go

inductive EOp where
  | st (n : Nat) (x y : COpd)
  | app (by_ es el : Nat) (x y : COpd)
  | cpy (es : Nat) (x y : COpd)
  | clr (es : Nat) (zs : List AV) (x : COpd)
  | appz (by_ es : Nat) (zs : List AV) (x y : COpd)
  | ustr (et : Nat) (x y : COpd)
/-- What a statement without a value yields. -/
noncomputable def und : AV := .tup []
/-- Bytes, all of them. -/
noncomputable def bytesB (cs : List AV) (k : Bool) : Bool := @List.rec AV (fun _ => Bool) k (fun v _ ih => atom1K v fun _ => ih) cs
noncomputable def globB (x : AV) : Bool :=
  @AV.casesOn (fun _ => Bool) x (fun _ => false) (fun _ _ => false) (fun _ _ => false) (fun _ _ => false) (fun _ => false) (fun _ _ => false) false (fun _ => true) (fun _ _ _ _ _ _ => false) false false (fun _ _ _ => false) false (fun _ _ => false) false (fun _ => false) (fun _ => false) false (fun _ _ => false)
noncomputable def tyB (x : AV) : Bool :=
  @AV.casesOn (fun _ => Bool) x (fun _ => false) (fun _ _ => false) (fun _ _ => false) (fun _ _ => false) (fun _ => false) (fun _ _ => false) false (fun _ => true) (fun _ _ _ _ _ _ => false) false false (fun _ _ _ => false) false (fun _ _ => true) false (fun _ => false) (fun _ => false) false (fun _ _ => false)
/-- Into a block of bytes go bytes alone, and nothing where texts stand in it. -/
noncomputable def okTyK (t : T AV) (n : Nat) (cs : List AV) (k : Bool) : Bool := forceN (Nat.add n 7) fun q => @Bool.rec (fun _ => Bool) k (bytesB cs (getK (fun x => ifK (globB x) k false) t q)) (getK tyB t q)
/-- What is written there may be. -/
def ByOk (E : Env) (t : T AV) (n : Nat) (cs : List AV) : Prop := (∀ ty, t.get (n + 7) = some (.glob ty) → ∀ ρ vs, VRs E ρ cs vs → ∀ v ∈ vs, IsByte v) ∧ ∀ ty x, t.get (n + 7) ≠ some (.ifc ty x)
noncomputable def wrK (h : T Blk) (i p m : Nat) (cs : List AV) (k : T Blk → Bool) : Bool := blkK h i fun n t => ifK (Nat.ble (Nat.add p m) n) (okTyK t n cs (writeK cs t p fun t => setK (.live n t) 40 h i k)) false
noncomputable def mkK (cs : List AV) (h : T Blk) (nx : Nat) (k : T Blk → Nat → Bool) : Bool := writeK cs .l 0 fun t => lenK cs 0 fun n => setK (.live n t) 40 h nx fun h => forceN (Nat.succ nx) fun nx => k h nx
/-- Is nothing kept there? -/
noncomputable def freeK (t : T AV) (q : Nat) (k : Bool) : Bool := @Bool.rec (fun _ => Bool) k false (getK (fun _ => true) t q)
noncomputable def mkTK (ty : AV) (cs : List AV) (h : T Blk) (nx : Nat) (k : T Blk → Nat → Bool) : Bool := writeK cs .l 0 fun t => lenK cs 0 fun n => forceN (Nat.add n 7) fun q => setK ty 40 t q fun t => setK (.live n t) 40 h nx fun h => forceN (Nat.succ nx) fun nx => k h nx
noncomputable def mkFK (f : AF) (cs : List AV) (h : T Blk) (nx : Nat) (k : T Blk → Nat → Bool) : Bool := @AF.rec (fun _ => Bool) (mkK cs h nx k) (fun ty => mkTK (.ptr ty 0) cs h nx k) (fun _ _ _ _ => mkK cs h nx k) f
noncomputable def srcK (es : Nat) (h : T Blk) (b : AV) (k : List AV → Nat → Bool) : Bool :=
  @AV.casesOn (fun _ => Bool) b (fun _ => false) (fun _ _ => false) (fun _ _ => false) (fun _ _ => false) (fun s => ifK (Nat.beq es 1) (atomAVs s fun cs => lenK s 0 fun n => k cs n) false) (fun _ _ => false) false (fun _ => false)
    (fun i p n _ _ es' => ifK (Nat.beq es es') (blkK h i fun m t => forceN (Nat.mul n es) fun q => ifK (Nat.ble (Nat.add p q) m) (readK t q p fun l => k l n) false) false) (k [] 0) (k [] 0) (fun _ _ _ => false) false (fun _ _ => false) false (fun _ => false) (fun _ => false) false (fun _ _ => false)
noncomputable def eSt (n : Nat) (x y : COpd) (fr : T AV) (h : T Blk) (nx : Nat) (k : AV → T Blk → Nat → Bool) : Bool :=
  opd2 fr x y fun a b => ptrK a fun i p => cellsK b fun cs => ones1K cs (lenK cs 0 fun m => ifK (Nat.beq m n) (wrK h i p m cs fun h => k und h nx) false)
/-- The block's type is kept in mind, or nothing is. -/
noncomputable def nameK (b : Bool) (ty : Nat) (t : T AV) (q : Nat) (k : T AV → Bool) : Bool := @Bool.rec (fun _ => Bool) (freeK t q (k t)) (setK (.glob ty) 40 t q k) b
/-- Whether it is: of bytes alone; where an old block may go on, or its cells are copied, if they are bytes of this type. -/
noncomputable def growB (by_ el : Nat) (ex : Bool) (l : Nat) (t : T AV) (n : Nat) (cs : List AV) (k : Bool → Bool) : Bool :=
  @Bool.rec (fun _ => Bool) (k false) (@Bool.rec (fun _ => Bool) (k false) (forceN (Nat.add n 7) fun q => @Bool.rec (fun _ => Bool) (@Bool.rec (fun _ => Bool) (k false) (@Bool.rec (fun _ => Bool) (k false) (k true) (Nat.beq l 0)) ex) (k true) (getK (fun g => nameB g el true) t q)) (bytesB cs true)) (Nat.beq by_ 1)
noncomputable def mkBK (by_ el : Nat) (cs : List AV) (h : T Blk) (nx : Nat) (k : T Blk → Nat → Bool) : Bool := @Bool.rec (fun _ => Bool) (mkK cs h nx k) (@Bool.rec (fun _ => Bool) (mkK cs h nx k) (mkTK (.glob el) cs h nx k) (bytesB cs true)) (Nat.beq by_ 1)
/-- What was appended to goes on under a new number; where its capacity is not known the old one is forgotten. -/
noncomputable def growK (b : Bool) (ty i n : Nat) (t : T AV) (h : T Blk) (nx : Nat) (k : T Blk → Nat → Bool) (ex : Bool) : Bool :=
  forceN (Nat.add n 7) fun q => nameK b ty t q fun t => (@Bool.rec (fun _ => Bool) (setK .dead 40 h i fun h => setK (.live n t) 40 h nx fun h => forceN (Nat.succ nx) fun nx => k h nx) (setK (.live n t) 40 h nx fun h => forceN (Nat.succ nx) fun nx => k h nx) ex)
/-- Is it a slice? -/
noncomputable def slOr (x : AV) (k : Nat → Nat → Nat → Nat → Bool → Nat → Bool) (e : Bool) : Bool :=
  @AV.casesOn (fun _ => Bool) x (fun _ => e) (fun _ _ => e) (fun _ _ => e) (fun _ _ => e) (fun _ => e) (fun _ _ => e) e (fun _ => e) (fun i o n c ex es => k i o n c ex es) e e (fun _ _ _ => e) e (fun _ _ => e) e (fun _ => e) (fun _ => e) e (fun _ _ => e)
noncomputable def cloneB (by_ es p n c : Nat) (ex : Bool) (es' q m es'' : Nat) : Bool :=
  ifK (Nat.beq n 0) (ifK (Nat.beq c 0) (ifK ex (ifK (Nat.beq p 0) (ifK (Nat.beq q 0) (ifK (Nat.beq es es') (ifK (Nat.beq es es'') (ifK (Nat.blt 0 m) (ifK (Nat.ble (Nat.mul m by_) 140737488355328) (Nat.ble m 1000000) false) false) false) false) false) false) false) false) false
noncomputable def nameC (x : AV) (ty : Nat) (k : Bool) : Bool :=
  @AV.casesOn (fun _ => Bool) x (fun _ => false) (fun _ _ => false) (fun _ _ => false) (fun _ _ => false) (fun _ => false) (fun _ _ => false) false (fun g => ifK (Nat.beq g ty) k false) (fun _ _ _ _ _ _ => false) false false (fun _ _ _ => false) false (fun g _ => ifK (Nat.beq g ty) k false) false (fun _ => false) (fun _ => false) false (fun _ _ => false)
theorem nameC_some {x : AV} {ty : Nat} {k : Bool} (h : nameC x ty k = true) : (x = .glob ty ∨ ∃ y, x = .ifc ty y) ∧ k = true := by
  cases x with
  | glob g => obtain ⟨h1, h9⟩ := ifK_and (b := Nat.beq g ty) (t := k) h; have := beq_of h1; subst this; exact ⟨.inl rfl, h9⟩
  | ifc g y => obtain ⟨h1, h9⟩ := ifK_and (b := Nat.beq g ty) (t := k) h; have := beq_of h1; subst this; exact ⟨.inr ⟨y, rfl⟩, h9⟩
  | _ => cases h
noncomputable def keyB (by_ : Nat) (t : T AV) (r el : Nat) : Bool := @Bool.rec (fun _ => Bool) (@Bool.rec (fun _ => Bool) (freeK t r true) false (Nat.beq by_ 1)) true (getK (fun v => nameC v el true) t r)
/-- A whole block is copied: what is known of it is known of the copy. -/
noncomputable def cloneK (by_ es el : Nat) (a b : AV) (h : T Blk) (nx : Nat) (k : AV → T Blk → Nat → Bool) (e : Bool) : Bool :=
  slOr a (fun _ p n c ex es' => slOr b (fun j q m _ _ es'' => @Bool.rec (fun _ => Bool) e (blkK h j fun N t => forceN (Nat.mul m es) fun w => forceN (Nat.add N 7) fun r => @Bool.rec (fun _ => Bool) e (@Bool.rec (fun _ => Bool) e (setK (.live N t) 40 h nx fun h => forceN (Nat.succ nx) fun nx' => k (.sl nx 0 m m false es) h nx') (keyB by_ t r el)) (Nat.beq N w)) (cloneB by_ es p n c ex es' q m es'')) e) e
noncomputable def eApp (by_ es el : Nat) (x y : COpd) (fr : T AV) (h : T Blk) (nx : Nat) (k : AV → T Blk → Nat → Bool) : Bool :=
  opd2 fr x y fun a b => cloneK by_ es el a b h nx k <| srcK es h b fun cs m =>
    slK a (fun i p n c ex es' => ifK (Nat.beq es es') (forceN (Nat.add n m) fun need => forceN (Nat.add p (Nat.mul n es)) fun q =>
        @Bool.rec (fun _ => Bool)
          (ifK (Nat.ble (Nat.mul need by_) 140737488355328) (ifK (Nat.ble need 1000000) (blkK h i fun N t0 => ifK (Nat.ble q N) (@Bool.rec (fun _ => Bool) (readK t0 (Nat.mul n es) p fun old => appK old cs fun all => writeK all .l 0 fun t => lenK all 0 fun l => growK false el i l t h nx (k (.sl nx 0 need need false es)) ex)
            (growB by_ el ex n t0 N cs fun b => writeK cs t0 q fun t => forceN (Nat.add q (Nat.mul m es)) fun l => growK b el i l t h nx (k (.sl nx 0 need need false es)) ex) (Nat.beq p 0)) false) false) false)
          (wrK h i q (Nat.mul m es) cs fun h => k (.sl i p need c ex es) h nx) (Nat.ble need c)) false)
      (@Nat.rec (fun _ => Bool) (k .nils h nx) (fun _ _ => ifK (Nat.ble (Nat.mul m by_) 140737488355328) (ifK (Nat.ble m 1000000) (mkBK by_ el cs h nx fun h nx' => k (.sl nx 0 m m false es) h nx') false) false) m)
      (@Nat.rec (fun _ => Bool) (k .empt h nx) (fun _ _ => false) m)
noncomputable def minK (a b : Nat) (k : Nat → Bool) : Bool := @Bool.rec (fun _ => Bool) (k b) (k a) (Nat.ble a b)
/-- The first n at most of what is copied. -/
noncomputable def srcRK (es n : Nat) (h : T Blk) (b : AV) (k : List AV → Nat → Bool) : Bool :=
  @AV.casesOn (fun _ => Bool) b (fun _ => false) (fun _ _ => false) (fun _ _ => false) (fun _ _ => false) (fun s => ifK (Nat.beq es 1) (atomAVs s fun cs => lenK s 0 fun m => minK m n fun r => takeK r cs fun cs => k cs r) false) (fun _ _ => false) false (fun _ => false)
    (fun i p m _ _ es' => ifK (Nat.beq es es') (blkK h i fun N t => minK m n fun r => forceN (Nat.mul r es) fun q => ifK (Nat.ble (Nat.add p q) N) (readK t q p fun l => k l r) false) false) (k [] 0) (k [] 0) (fun _ _ _ => false) false (fun _ _ => false) false (fun _ => false) (fun _ => false) false (fun _ _ => false)
/-- Written from a place on that is not behind what is known; more is known then. -/
noncomputable def wrxK (h : T Blk) (i p q : Nat) (cs : List AV) (k : T Blk → Bool) : Bool :=
  blkK h i fun n t => ifK (Nat.ble p n) (okTyK t n cs (writeK cs t p fun t => forceN (Nat.add p q) fun pq => @Bool.rec (fun _ => Bool) (forceN (Nat.add pq 7) fun r => freeK t r (setK (.live pq t) 40 h i k)) (setK (.live n t) 40 h i k) (Nat.ble pq n))) false
noncomputable def eCpy (es : Nat) (x y : COpd) (fr : T AV) (h : T Blk) (nx : Nat) (k : AV → T Blk → Nat → Bool) : Bool :=
  opd2 fr x y fun a b => slK a (fun i p n c _ es' => ifK (Nat.beq es es') (ifK (Nat.ble n c) (srcRK es n h b fun cs r => forceN (Nat.mul r es) fun q => wrxK h i p q cs fun h => k (.int .i64 (Int.ofNat r)) h nx) false) false)
    (srcRK es 0 h b fun _ _ => k (.int .i64 0) h nx) false
noncomputable def eClr (es : Nat) (zs : List AV) (x : COpd) (fr : T AV) (h : T Blk) (nx : Nat) (k : AV → T Blk → Nat → Bool) : Bool :=
  opdK fr (fun a => slK a (fun i p n _ _ es' => ifK (Nat.beq es es') (repK zs n fun cs => wrK h i p (Nat.mul n es) cs fun h => k und h nx) false) (k und h nx) (k und h nx)) x
/-- So many zeros are appended to a slice that is full. -/
noncomputable def eAppz (by_ es : Nat) (zs : List AV) (x y : COpd) (fr : T AV) (h : T Blk) (nx : Nat) (k : AV → T Blk → Nat → Bool) : Bool :=
  opd2 fr x y fun a b => natK b fun m => slK a (fun i p n c ex es' => ifK (Nat.beq es es') (ifK ex (ifK (Nat.blt 0 m) (ifK (Nat.blt 0 es) (forceN (Nat.add n m) fun need => ifK (Nat.blt c need) (ifK (Nat.ble (Nat.mul need by_) 140737488355328) (ifK (Nat.ble need 1000000)
    (repK zs m fun cs => blkK h i fun N t => forceN (Nat.mul n es) fun ne => ifK (Nat.ble (Nat.add p ne) N) (readK t ne p fun old => appK old cs fun all => mkK all h nx fun h nx' => k (.sl nx 0 need need false es) h nx') false) false) false) false) false) false) false) false) false false
/-- Bytes are taken as a text: nobody writes them from there on. -/
noncomputable def eUstr (et : Nat) (x y : COpd) (fr : T AV) (h : T Blk) (nx : Nat) (k : AV → T Blk → Nat → Bool) : Bool :=
  opd2 fr x y fun a b => intK b fun q z => ifK (kindEq q .i64) (@Int.rec (fun _ => Bool) (fun n => @Nat.rec (fun _ => Bool) (nilB 3 a fun _ => k (.str []) h nx)
    (fun _ _ => ptrK a fun i p => ifK (Nat.beq p 0) (blkK h i fun N t => ifK (Nat.ble n N) (ifK (Nat.ble n 1000000) (tyK t N et (readK t n 0 fun l => atomsK l fun s => setK .dead 40 h i fun h => k (.str s) h nx)) false) false) false) n) (fun _ => false) z) false
noncomputable def effOp (p : EOp) : T AV → T Blk → Nat → (AV → T Blk → Nat → Bool) → Bool := @EOp.rec (fun _ => T AV → T Blk → Nat → (AV → T Blk → Nat → Bool) → Bool) eSt eApp eCpy eClr eAppz eUstr p

/-- The operation goes on to a world of which H' is known. -/
def OpT (P : Program) (E : Env) (o : Oper) (fr : T AV) (H : Heap) (nx : Nat) (r : AV) (H' : Heap) (nx' : Nat) : Prop :=
  ∀ ρ (a : Act) w (next : Act → World → Prop) (Q : Exit → Act → World → Prop), (∀ i, nx ≤ i → i < nx' → ρ i = none) → Holds E ρ fr a.eval o.op.operands.toList → Inv E ρ H w →
    (∀ ρ' v w', Stp ρ H w nx ρ' H' w' nx' → Inv E ρ' H' w' → VR E ρ' r v → next (a.put o.dst v) w') → o.wp P a w next Q
def EffOk (P : Program) (E : Env) (o : Oper) (p : EOp) : Prop :=
  ∀ fr h nx k, effOp p fr h nx k = true → Fresh h nx → ∃ r h' nx', k r h' nx' = true ∧ Fresh h' nx' ∧ nx ≤ nx' ∧ OpT P E o fr h.get nx r h'.get nx'

section
variable {P : Program} {E : Env} {F : Facts} {o : Oper}
theorem wp_value {a : Act} {w w' : World} {v : Value} {next : Act → World → Prop} {Q : Exit → Act → World → Prop} (h : (execOp a.eval o).run P w = .ok (.value v) w') (hn : next (a.put o.dst v) w') : o.wp P a w next Q := by
  unfold Oper.wp; rw [h]; exact hn
theorem wp_skip_ {a : Act} {w w' : World} {next : Act → World → Prop} {Q : Exit → Act → World → Prop} (h : (execOp a.eval o).run P w = .ok .skip w') (hn : next (a.put o.dst undef) w') : o.wp P a w next Q := by
  unfold Oper.wp; rw [h]; exact hn
theorem vr_und {ρ : Nat → Option Loc} : VR E ρ und undef := by unfold und; simp only [VR]; exact ⟨[], VRs.nil, rfl⟩
theorem Fresh.set {h h' : T Blk} {i nx : Nat} {b : Blk} (hf : Fresh h nx) (hu : Upd h i b h') (hi : i < nx) : Fresh h' nx := fun j hj => by rw [hu, if_neg (by omega)]; exact hf j hj
theorem Fresh.lt {h : T Blk} {i nx : Nat} {b : Blk} (hf : Fresh h nx) (hi : h.get i = some b) : i < nx := by
  rcases Nat.lt_or_ge i nx with h1 | h1
  · exact h1
  · rw [hf i h1] at hi; cases hi

theorem bytesB_some {k : Bool} : ∀ {cs : List AV}, bytesB cs k = true → k = true ∧ ∀ ρ vs, VRs E ρ cs vs → ∀ v ∈ vs, IsByte v
  | [], h => ⟨h, fun ρ vs hv v hm => by simp only [VRs] at hv; subst hv; cases hm⟩
  | a :: cs, h => by
    obtain ⟨m, h, hm⟩ := atom1K_some (E := E) (v := a) (k := fun _ => bytesB cs k) h
    obtain ⟨h1, h2⟩ := bytesB_some h
    refine ⟨h1, fun ρ vs hv v hmem => ?_⟩
    simp only [VRs] at hv
    obtain ⟨u, r, hu, hr, rfl⟩ := hv
    cases hmem with
    | head => exact ⟨(E.byte m).toNat, UInt8.toNat_lt _, hm ρ _ hu⟩
    | tail _ hmem => exact h2 ρ r hr v hmem
theorem globB_some {x : AV} (h : globB x = true) : ∃ g, x = .glob g := by cases x <;> first | exact ⟨_, rfl⟩ | cases h
theorem okTyK_some {t : T AV} {n : Nat} {cs : List AV} {k : Bool} (h : okTyK t n cs k = true) : k = true ∧ ByOk E t n cs := by
  unfold okTyK at h
  rw [forceN_eq] at h
  cases hg : getK tyB t (Nat.add n 7) with
  | true =>
    rw [hg] at h
    obtain ⟨h1, h2⟩ := bytesB_some (E := E) h
    obtain ⟨x, hx, h1⟩ := getK_some h1
    obtain ⟨h3, h1⟩ := ifK_and h1
    obtain ⟨g, rfl⟩ := globB_some h3
    exact ⟨h1, fun _ _ => h2, fun ty y hy => by rw [show t.get (n + 7) = some (.glob g) from hx] at hy; cases hy⟩
  | false =>
    rw [hg] at h
    refine ⟨h, fun ty hty => ?_, fun ty x hty => ?_⟩
    · rw [getK_eq, show t.get (Nat.add n 7) = t.get (n + 7) from rfl, hty] at hg
      cases hg
    · rw [getK_eq, show t.get (Nat.add n 7) = t.get (n + 7) from rfl, hty] at hg
      cases hg
theorem wrK_some {h : T Blk} {i p m : Nat} {cs : List AV} {k : T Blk → Bool} (e : wrK h i p m cs k = true) : ∃ n t t' h', h.get i = some (.live n t) ∧ ByOk E t n cs ∧ p + m ≤ n ∧ (∀ j, t'.get j = if p ≤ j ∧ j < p + cs.length then cs[j - p]? else t.get j) ∧ Upd h i (.live n t') h' ∧ k h' = true := by
  replace e := blkK_some e
  obtain ⟨n, t, hb, e⟩ := e
  replace e := ifK_and e
  obtain ⟨hle, e⟩ := e
  replace e := okTyK_some (E := E) e
  obtain ⟨e, hby⟩ := e
  replace e := writeK_some e
  obtain ⟨t', ht, e⟩ := e
  replace e := setK_some e
  obtain ⟨h', hu, e⟩ := e
  exact ⟨n, t, t', h', hb, hby, ble_of hle, ht, hu, e⟩
theorem mkK_some {cs : List AV} {h : T Blk} {nx : Nat} {k : T Blk → Nat → Bool} (e : mkK cs h nx k = true) : ∃ t h', (∀ j, t.get j = if j < cs.length then cs[j]? else none) ∧ Upd h nx (.live cs.length t) h' ∧ k h' (nx + 1) = true := by
  change writeK cs .l 0 (fun t => lenK cs 0 fun n => setK (.live n t) 40 h nx fun h => forceN (Nat.succ nx) fun nx => k h nx) = true at e
  replace e := writeK_some e
  obtain ⟨t, ht, e⟩ := e
  rw [lenK_eq] at e
  replace e := setK_some e
  obtain ⟨h', hu, e⟩ := e
  rw [forceN_eq] at e
  refine ⟨t, h', fun j => ?_, by simpa using hu, e⟩
  rw [ht]
  by_cases hj : j < cs.length
  · rw [if_pos (by omega), if_pos hj]; simp
  · rw [if_neg (by omega), if_neg hj]; rfl
theorem freeK_some {t : T AV} {q : Nat} {k : Bool} (h : freeK t q k = true) : t.get q = none ∧ k = true := by
  unfold freeK at h
  rw [getK_eq] at h
  cases e : t.get q with
  | none => rw [e] at h; exact ⟨rfl, h⟩
  | some x => rw [e] at h; cases h
theorem nameK_some {b : Bool} {ty q : Nat} {t : T AV} {k : T AV → Bool} (h : nameK b ty t q k = true) : ∃ t', (∀ j, j ≠ q → t'.get j = t.get j) ∧ (t'.get q = none ∨ (b = true ∧ t'.get q = some (.glob ty))) ∧ k t' = true := by
  cases b with
  | false =>
    replace h := freeK_some (t := t) (q := q) (k := k t) h
    obtain ⟨h1, h⟩ := h
    exact ⟨t, fun _ _ => rfl, .inl h1, h⟩
  | true =>
    change setK (.glob ty) 40 t q k = true at h
    replace h := setK_some h
    obtain ⟨t', hu, h⟩ := h
    exact ⟨t', fun j hj => by rw [hu, if_neg hj], .inr ⟨rfl, by rw [hu, if_pos rfl]⟩, h⟩
theorem slOr_some {x : AV} {k : Nat → Nat → Nat → Nat → Bool → Nat → Bool} {e : Bool} (h : slOr x k e = true) : (∃ i o n c ex es, x = .sl i o n c ex es ∧ k i o n c ex es = true) ∨ e = true := by cases x <;> first | exact .inl ⟨_, _, _, _, _, _, rfl, h⟩ | exact .inr h
theorem keyB_some {by_ : Nat} {t : T AV} {r el : Nat} (h : keyB by_ t r el = true) : t.get r = none ∨ t.get r = some (.glob el) ∨ ∃ y, t.get r = some (.ifc el y) := by
  unfold keyB at h
  cases hg : getK (fun v => nameC v el true) t r with
  | true =>
    obtain ⟨g, h1, h2⟩ := getK_some hg
    obtain ⟨h2, _⟩ := nameC_some h2
    rcases h2 with rfl | ⟨y, rfl⟩
    · exact .inr (.inl h1)
    · exact .inr (.inr ⟨y, h1⟩)
  | false =>
    rw [hg] at h
    cases hb : Nat.beq by_ 1 with
    | true => rw [hb] at h; cases h
    | false => rw [hb] at h; exact .inl (freeK_some h).1
theorem cloneK_some {by_ es el : Nat} {a b : AV} {h : T Blk} {nx : Nat} {k : AV → T Blk → Nat → Bool} {e : Bool} (hk : cloneK by_ es el a b h nx k e = true) : e = true ∨ ∃ i0 i m c ex N t h', a = .sl i0 0 0 0 true es ∧ b = .sl i 0 m c ex es ∧ 0 < m ∧ m * by_ ≤ 140737488355328 ∧ m ≤ 1000000 ∧ h.get i = some (.live N t) ∧ N = m * es ∧ (t.get (N + 7) = none ∨ t.get (N + 7) = some (.glob el) ∨ ∃ y, t.get (N + 7) = some (.ifc el y)) ∧ Upd h nx (.live N t) h' ∧ k (.sl nx 0 m m false es) h' (nx + 1) = true := by
  unfold cloneK at hk
  replace hk := slOr_some hk
  rcases hk with ⟨i, p, n, c, ex, es', rfl, hk⟩ | hk
  rotate_left
  · exact .inl hk
  replace hk := slOr_some (x := b) hk
  rcases hk with ⟨j, q, m, c', ex', es'', rfl, hk⟩ | hk
  rotate_left
  · exact .inl hk
  cases hb : cloneB by_ es p n c ex es' q m es'' with
  | false => rw [hb] at hk; exact .inl hk
  | true =>
    rw [hb] at hk
    unfold cloneB at hb
    obtain ⟨b1, hb⟩ := ifK_and hb
    obtain ⟨b2, hb⟩ := ifK_and hb
    obtain ⟨b4, hb⟩ := ifK_and hb
    obtain ⟨b5, hb⟩ := ifK_and hb
    obtain ⟨b6, hb⟩ := ifK_and hb
    obtain ⟨b7, hb⟩ := ifK_and hb
    obtain ⟨b8, hb⟩ := ifK_and hb
    obtain ⟨b9, hb⟩ := ifK_and hb
    obtain ⟨b10, b11⟩ := ifK_and hb
    have := beq_of b1; subst this
    have := beq_of b2; subst this
    subst b4
    have := beq_of b5; subst this
    have := beq_of b6; subst this
    have := beq_of b7; subst this
    have := beq_of b8; subst this
    replace hk := blkK_some hk
    obtain ⟨N, t, hN, hk⟩ := hk
    rw [forceN_eq, forceN_eq] at hk
    cases hw : Nat.beq N (Nat.mul m es) with
    | false => rw [hw] at hk; exact .inl hk
    | true =>
      rw [hw] at hk
      cases hy : keyB by_ t (Nat.add N 7) el with
      | false => rw [hy] at hk; exact .inl hk
      | true =>
        rw [hy] at hk
        replace hk := setK_some hk
        obtain ⟨h', hu, hk⟩ := hk
        rw [forceN_eq] at hk
        exact .inr ⟨i, j, m, c', ex', N, t, h', rfl, rfl, blt_of b9, ble_of b10, ble_of b11, hN, beq_of hw, keyB_some hy, hu, hk⟩
theorem BlkAt.bytes {ρ : Nat → Option Loc} {w : World} {L : Loc} {n ty : Nat} {t : T AV} (h : BlkAt E ρ w L n t) (hty : t.get (n + 7) = some (.glob ty)) : L.o = 0 ∧ ∀ j, j < n → ∃ m : Nat, m < 256 ∧ w.cell? ⟨L.b, j, none⟩ = some (.int .u8 (m : Int)) := by
  obtain ⟨c, el, z, b1, _, _, _, b5⟩ := h
  obtain ⟨_, g2, _, g4⟩ := b5.1 ty hty
  refine ⟨g2, fun j hj => ?_⟩
  obtain ⟨m, hm, hc⟩ := g4 j hj
  exact ⟨m, hm, by simp [World.cell?, b1, hc]⟩
theorem growB_some {by_ el l n : Nat} {ex : Bool} {t : T AV} {cs : List AV} {k : Bool → Bool} (h : growB by_ el ex l t n cs k = true) : ∃ b, k b = true ∧ (b = true → (∀ ρ vs, VRs E ρ cs vs → ∀ v ∈ vs, IsByte v) ∧ ((ex = true ∧ l = 0) ∨ t.get (n + 7) = some (.glob el))) := by
  unfold growB at h
  cases hb : Nat.beq by_ 1 with
  | false => rw [hb] at h; exact ⟨false, h, fun e => by cases e⟩
  | true =>
    rw [hb] at h
    cases hc : bytesB cs true with
    | false => rw [hc] at h; exact ⟨false, h, fun e => by cases e⟩
    | true =>
      rw [hc] at h
      obtain ⟨_, hcs⟩ := bytesB_some (E := E) hc
      change forceN (Nat.add n 7) (fun q => @Bool.rec (fun _ => Bool) (@Bool.rec (fun _ => Bool) (k false) (@Bool.rec (fun _ => Bool) (k false) (k true) (Nat.beq l 0)) ex) (k true) (getK (fun g => nameB g el true) t q)) = true at h
      rw [forceN_eq] at h
      cases hg : getK (fun g => nameB g el true) t (Nat.add n 7) with
      | true =>
        rw [hg] at h
        obtain ⟨g, hg, h2⟩ := getK_some hg
        obtain ⟨rfl, _⟩ := nameB_some h2
        exact ⟨true, h, fun _ => ⟨hcs, .inr hg⟩⟩
      | false =>
        rw [hg] at h
        cases ex with
        | false => exact ⟨false, h, fun e => by cases e⟩
        | true =>
          cases hl : Nat.beq l 0 with
          | false => rw [hl] at h; exact ⟨false, h, fun e => by cases e⟩
          | true => rw [hl] at h; exact ⟨true, h, fun _ => ⟨hcs, .inl ⟨rfl, beq_of hl⟩⟩⟩
theorem mkTK_some {ty : AV} {cs : List AV} {h : T Blk} {nx : Nat} {k : T Blk → Nat → Bool} (e : mkTK ty cs h nx k = true) :
    ∃ t h', (∀ j, j < cs.length → t.get j = cs[j]?) ∧ t.get (cs.length + 7) = some ty ∧ Upd h nx (.live cs.length t) h' ∧ k h' (nx + 1) = true := by
  change writeK cs .l 0 (fun t => lenK cs 0 fun n => forceN (Nat.add n 7) fun q => setK ty 40 t q fun t => setK (.live n t) 40 h nx fun h => forceN (Nat.succ nx) fun nx => k h nx) = true at e
  replace e := writeK_some e
  obtain ⟨t, ht, e⟩ := e
  rw [lenK_eq, forceN_eq] at e
  replace e := setK_some e
  obtain ⟨t', hu', e⟩ := e
  replace e := setK_some e
  obtain ⟨h', hu, e⟩ := e
  rw [forceN_eq] at e
  simp only [Nat.zero_add, Nat.add_eq] at hu hu'
  refine ⟨t', h', fun j hj => ?_, ?_, hu, e⟩
  · rw [hu', if_neg (by omega), ht, if_pos (by omega)]; simp
  · rw [hu', if_pos rfl]
theorem mkK_plain {cs : List AV} {h : T Blk} {nx : Nat} {k : T Blk → Nat → Bool} (e : mkK cs h nx k = true) :
    ∃ t h', (∀ j, j < cs.length → t.get j = cs[j]?) ∧ t.get (cs.length + 7) = none ∧ Upd h nx (.live cs.length t) h' ∧ k h' (nx + 1) = true := by
  obtain ⟨t, h', ht, hu, e⟩ := mkK_some e
  exact ⟨t, h', fun j hj => by rw [ht, if_pos hj], by rw [ht, if_neg (by omega)], hu, e⟩
theorem mkFK_some {f : AF} {cs : List AV} {h : T Blk} {nx : Nat} {k : T Blk → Nat → Bool} (e : mkFK f cs h nx k = true) :
    ∃ t h', (∀ j, j < cs.length → t.get j = cs[j]?) ∧ t.get (cs.length + 7) = afKey f ∧ Upd h nx (.live cs.length t) h' ∧ k h' (nx + 1) = true := by
  cases f with
  | ptr => exact mkK_plain e
  | sl n c ex es => exact mkK_plain e
  | pty ty => exact mkTK_some e
theorem mkBK_some {by_ el : Nat} {cs : List AV} {h : T Blk} {nx : Nat} {k : T Blk → Nat → Bool} (e : mkBK by_ el cs h nx k = true) :
    ∃ t h', (∀ j, j < cs.length → t.get j = cs[j]?) ∧ (t.get (cs.length + 7) = none ∨ (t.get (cs.length + 7) = some (.glob el) ∧ ∀ ρ vs, VRs E ρ cs vs → ∀ v ∈ vs, IsByte v)) ∧ Upd h nx (.live cs.length t) h' ∧ k h' (nx + 1) = true := by
  unfold mkBK at e
  have plain : mkK cs h nx k = true → ∃ t h', (∀ j, j < cs.length → t.get j = cs[j]?) ∧ (t.get (cs.length + 7) = none ∨ (t.get (cs.length + 7) = some (.glob el) ∧ ∀ ρ vs, VRs E ρ cs vs → ∀ v ∈ vs, IsByte v)) ∧ Upd h nx (.live cs.length t) h' ∧ k h' (nx + 1) = true := fun e => by
    obtain ⟨t, h', h1, h2, h3, h4⟩ := mkK_plain e
    exact ⟨t, h', h1, .inl h2, h3, h4⟩
  cases hb : Nat.beq by_ 1 with
  | false => rw [hb] at e; exact plain e
  | true =>
    rw [hb] at e
    cases hc : bytesB cs true with
    | false => rw [hc] at e; exact plain e
    | true =>
      rw [hc] at e
      obtain ⟨t, h', h1, h2, h3, h4⟩ := mkTK_some e
      exact ⟨t, h', h1, .inr ⟨h2, (bytesB_some (E := E) hc).2⟩, h3, h4⟩
/-- Cells are written where they are known. -/
theorem write_step {ρ : Nat → Option Loc} {h h' : T Blk} {i p n nx : Nat} {t t' : T AV} {cs : List AV} {vs : List Value} {w : World} {L : Loc} (hI : Inv E ρ h.get w) (hb : h.get i = some (.live n t)) (hL : ρ i = some L) (hv : VRs E ρ cs vs) (h1 : ∀ u ∈ vs, u.oneCell' = true)
    (hfit : p + cs.length ≤ n) (ht : ∀ j, t'.get j = if p ≤ j ∧ j < p + cs.length then cs[j - p]? else t.get j) (hu : Upd h i (.live n t') h') (hby : ByOk E t n cs) :
    Stp ρ h.get w nx ρ h'.get (w.setCells L.b (L.o + p) vs) nx ∧ Inv E ρ h'.get (w.setCells L.b (L.o + p) vs) := by
  have e1 : ∀ j, j ≠ i → h'.get j = h.get j := fun j hj => by rw [hu, if_neg hj]
  have e2 : h'.get i = some (.live n t') := by rw [hu, if_pos rfl]
  exact ⟨Stp.write hb hL e1 e2, Inv.write hI hb hL hv h1 hfit ht e1 e2 ⟨fun ty hty => hby.1 ty hty ρ vs hv, hby.2⟩⟩
theorem run_store_blk {ρ : Nat → Option Loc} {w : World} {L : Loc} {n p : Nat} {t : T AV} {vs : List Value} (h : BlkAt E ρ w L n t) (hfit : p + vs.length ≤ n) (h1 : ∀ u ∈ vs, u.oneCell' = true) :
    (storeCells ⟨L.b, L.o + p, none⟩ vs).run P w = .ok () (w.setCells L.b (L.o + p) vs) := by
  have := run_storeCells_cells (P := P) L.b (L.o + p) vs 0 w (fun j hj => h.there (by have := h.bound (j := p + j) (by omega); omega)) (fun j hj => h.thaw (by have := h.bound (j := p + j) (by omega); omega)) h1
  simpa using this
theorem cellsK_of {a : AV} {k : List AV → Bool} (h : cellsK a k = true) : ∃ cs, k cs = true ∧ ∀ ρ v, VR E ρ a v → VRs E ρ cs v.cells.toList := by
  replace h := cellsK_some h
  rcases h with ⟨l, rfl, h⟩ | ⟨h0, h⟩
  · exact ⟨l, h, fun ρ v hv => by simp only [VR] at hv; obtain ⟨vs, hvs, rfl⟩ := hv; simpa [Value.cells] using hvs⟩
  · refine ⟨[a], h, fun ρ v hv => ?_⟩
    have ho := one1_of hv h0
    have : v.cells = #[v] := by cases v <;> first | rfl | cases ho
    rw [this]
    exact VRs.cons hv VRs.nil
theorem st_ok {t : Nat} {it : TypeInfo} {x y : Operand} {c d : COpd} (ho : o.op = .store t x y) (hi : P.info? t = some it) (hx : OpdOk E x c) (hy : OpdOk E y d) : EffOk P E o (.st it.size c d) := fun fr h nx k hk hf => by
  obtain ⟨a, b, h1, h2⟩ := opd2_some hx hy (k := fun a b => ptrK a fun i p => cellsK b fun cs => ones1K cs (lenK cs 0 fun m => ifK (Nat.beq m it.size) (wrK h i p m cs fun h => k und h nx) false)) hk
  replace h1 := ptrK_some h1
  obtain ⟨i, p, rfl, h1⟩ := h1
  obtain ⟨cs, h1, hcs⟩ := cellsK_of (E := E) h1
  obtain ⟨h1, hone⟩ := ones1K_some h1
  rw [lenK_eq] at h1
  replace h1 := ifK_and h1
  obtain ⟨hn, h1⟩ := h1
  have hn := beq_of hn
  simp only [Nat.zero_add] at hn h1
  replace h1 := wrK_some (E := E) h1
  obtain ⟨n, tr, tr', h', hb, hby, hfit, ht, hu, h1⟩ := h1
  refine ⟨und, h', nx, h1, hf.set hu (hf.lt hb), Nat.le_refl _, fun ρ A w next Q _ hh hI hnext => ?_⟩
  rw [ho] at hh
  obtain ⟨hv, hw⟩ := h2 ρ A.eval (Ev.act A) (hh.sub (by simp [Op.operands]))
  simp only [VR] at hv
  obtain ⟨L, hL, hv⟩ := hv
  have hvs := hcs ρ _ hw
  have h1c := ones_of hvs hone
  have hlen := hvs.length
  obtain ⟨s1, s2⟩ := write_step (nx := nx) hI hb hL hvs h1c hfit ht hu hby
  have hst := run_store_blk (P := P) (hI.blk hb hL) (p := p) (vs := (A.eval y).cells.toList) (by omega) h1c
  refine wp_skip_ (w' := w.setCells L.b (L.o + p) (A.eval y).cells.toList) ?_ (hnext ρ undef _ s1 s2 vr_und)
  have hsz : (A.eval y).cells.size = it.size := by rw [← Array.length_toList]; omega
  simp [execOp, ho, Instr.storeAt, Instr.sureAddr, hv, storeVar, run_sizeOf hi, hsz, hst]

/-! ### append -/
/-- What is appended, or copied: its cells, how many elements. -/
def SrcT (P : Program) (E : Env) (es : Nat) (H : Heap) (b : AV) (cs : List AV) (m : Nat) : Prop :=
  ∀ ρ w v, Inv E ρ H w → VR E ρ b v → ∃ vs, VRs E ρ cs vs ∧ (∀ u ∈ vs, u.oneCell' = true) ∧ vs.length = m * es ∧ (∀ w', (Builtin.lenOf v).run P w' = .ok m w') ∧
    ∀ w' r, w'.heap = w.heap → r ≤ m → (Builtin.firstCells es r v).run P w' = .ok (vs.take (r * es)).toArray w'
theorem srcK_some {es : Nat} {h : T Blk} {b : AV} {k : List AV → Nat → Bool} (e : srcK es h b k = true) : ∃ cs m, k cs m = true ∧ SrcT P E es h.get b cs m := by
  have em : k [] 0 = true → (∀ ρ v, VR E ρ b v → ∃ a c, v = .slice a 0 c) → ∃ cs m, k cs m = true ∧ SrcT P E es h.get b cs m := fun e hb =>
    ⟨[], 0, e, fun ρ w v hI hv => by
      obtain ⟨a, c, rfl⟩ := hb ρ v hv
      refine ⟨[], VRs.nil, fun _ h => (by cases h), by simp, fun w' => by simp [Builtin.lenOf], fun w' r _ hr => ?_⟩
      have : r = 0 := by omega
      subst this
      cases a <;> simp [Builtin.firstCells, loadCells, loadCellsFrom]⟩
  cases b with
  | nils => exact em e fun ρ v hv => by simp only [VR] at hv; exact ⟨_, _, hv⟩
  | empt => exact em e fun ρ v hv => by simp only [VR] at hv; exact hv
  | str s =>
    replace e := ifK_and (t := atomAVs s fun cs => lenK s 0 fun n => k cs n) e
    obtain ⟨h1, e⟩ := e
    have := beq_of h1; subst this
    obtain ⟨cs, e, hc⟩ := atomAVs_some (E := E) e
    rw [lenK_eq] at e
    refine ⟨_, _, e, fun ρ w v hI hv => ?_⟩
    simp only [VR] at hv
    subst hv
    refine ⟨_, hc ρ, fun u hu => by obtain ⟨m, _, rfl⟩ := List.mem_map.1 hu; rfl, by simp, fun w' => by simp [Builtin.lenOf, bytes_size], fun w' r _ hr => ?_⟩
    simp only [Nat.zero_add] at hr
    have : ((E.bytes s).extract 0 r).data.map (fun b => Value.int .u8 b.toNat) = ((s.map fun m => Value.int .u8 (E.byte m).toNat).take (r * 1)).toArray := by
      unfold Env.bytes
      rw [ByteArray.extract_mk]
      apply Array.ext'
      simp [List.map_take, Function.comp_def]
    simp only [Builtin.firstCells, Sem.run_pure, this]
  | sl i p n c ex es' =>
    replace e := ifK_and (t := blkK h i fun m t => forceN (Nat.mul n es) fun q => ifK (Nat.ble (Nat.add p q) m) (readK t q p fun l => k l n) false) e
    obtain ⟨h1, e⟩ := e
    have := beq_of h1; subst this
    replace e := blkK_some e
    obtain ⟨m, t, hb, e⟩ := e
    rw [forceN_eq] at e
    replace e := ifK_and e
    obtain ⟨hle, e⟩ := e
    replace e := readK_some e
    obtain ⟨l, hl, hg, e⟩ := e
    have hle := ble_of hle
    refine ⟨l, n, e, fun ρ w v hI hv => ?_⟩
    simp only [VR] at hv
    obtain ⟨L, cc, hL, rfl, _⟩ := hv
    obtain ⟨vs, g1, g2, g3⟩ := (hI.blk hb hL).row hle hl hg
    have hlen : vs.length = n * es := by rw [g1.length, hl]; rfl
    refine ⟨vs, g1, g2, hlen, fun w' => by simp [Builtin.lenOf], fun w' r hw hr => ?_⟩
    have hle2 : r * es ≤ n * es := Nat.mul_le_mul_right _ hr
    have hrun := run_loadCells (P := P) (w := w') L.b (L.o + p) (vs.take (r * es)) (fun j hj => by
      simp only [List.length_take] at hj
      rw [World.cell?_of_block (w := w) (by rw [hw]), g3 j (by omega), List.getElem?_take, if_pos (by omega)])
    have e2 : (vs.take (r * es)).length = r * es := by simp; omega
    rw [e2] at hrun
    simp [Builtin.firstCells, hrun]
  | _ => cases e

/-- What is copied: its first cells. -/
def SrcRT (P : Program) (E : Env) (es n : Nat) (H : Heap) (b : AV) (cs : List AV) (r : Nat) : Prop :=
  ∀ ρ w v, Inv E ρ H w → VR E ρ b v → ∃ vs m, VRs E ρ cs vs ∧ (∀ u ∈ vs, u.oneCell' = true) ∧ vs.length = r * es ∧ (∀ w', (Builtin.lenOf v).run P w' = .ok m w') ∧ r = Nat.min m n ∧
    ∀ w', w'.heap = w.heap → (Builtin.firstCells es r v).run P w' = .ok vs.toArray w'
theorem minK_some {a b : Nat} {k : Nat → Bool} (h : minK a b k = true) : k (Nat.min a b) = true := by
  unfold minK at h
  cases hb : Nat.ble a b with
  | true => rw [hb] at h; show k (min a b) = true; rw [Nat.min_def, if_pos (ble_of hb)]; exact h
  | false =>
    rw [hb] at h
    have : ¬ (a ≤ b) := fun hh => by rw [← Nat.ble_eq] at hh; rw [hh] at hb; cases hb
    show k (min a b) = true
    rw [Nat.min_def, if_neg this]; exact h
theorem srcRK_some {es n : Nat} {h : T Blk} {b : AV} {k : List AV → Nat → Bool} (e : srcRK es n h b k = true) : ∃ cs r, k cs r = true ∧ r ≤ n ∧ SrcRT P E es n h.get b cs r := by
  have em : k [] 0 = true → (∀ ρ v, VR E ρ b v → ∃ a c, v = .slice a 0 c) → ∃ cs r, k cs r = true ∧ r ≤ n ∧ SrcRT P E es n h.get b cs r := fun e hb =>
    ⟨[], 0, e, Nat.zero_le _, fun ρ w v hI hv => by
      obtain ⟨a, c, rfl⟩ := hb ρ v hv
      refine ⟨[], 0, VRs.nil, fun _ h => (by cases h), by simp, fun w' => by simp [Builtin.lenOf], (Nat.min_eq_left (Nat.zero_le _)).symm, fun w' _ => ?_⟩
      cases a <;> simp [Builtin.firstCells, loadCells, loadCellsFrom]⟩
  cases b with
  | nils => exact em e fun ρ v hv => by simp only [VR] at hv; exact ⟨_, _, hv⟩
  | empt => exact em e fun ρ v hv => by simp only [VR] at hv; exact hv
  | str s =>
    replace e := ifK_and (t := atomAVs s fun cs => lenK s 0 fun m => minK m n fun r => takeK r cs fun cs => k cs r) e
    obtain ⟨h1, e⟩ := e
    have := beq_of h1; subst this
    obtain ⟨cs, e, hc⟩ := atomAVs_some (E := E) e
    rw [lenK_eq] at e
    replace e := minK_some e
    replace e := takeK_some e
    obtain ⟨hr, e⟩ := e
    simp only [Nat.zero_add] at e hr
    refine ⟨_, _, e, Nat.min_le_right _ _, fun ρ w v hI hv => ?_⟩
    simp only [VR] at hv
    subst hv
    have hm := Nat.min_le_left s.length n
    refine ⟨_, s.length, (hc ρ).take _, fun u hu => by obtain ⟨m, _, rfl⟩ := List.mem_map.1 (List.mem_of_mem_take hu); rfl, by simp only [List.length_take, List.length_map]; show min (min s.length n) s.length = min s.length n * 1; omega, fun w' => by simp [Builtin.lenOf, bytes_size], rfl, fun w' _ => ?_⟩
    have : ((E.bytes s).extract 0 (Nat.min s.length n)).data.map (fun b => Value.int .u8 b.toNat) = ((s.map fun m => Value.int .u8 (E.byte m).toNat).take (Nat.min s.length n)).toArray := by
      unfold Env.bytes
      rw [ByteArray.extract_mk]
      apply Array.ext'
      simp [List.map_take, Function.comp_def]
    simp only [Builtin.firstCells, Sem.run_pure, this]
  | sl i p m c ex es' =>
    replace e := ifK_and (t := blkK h i fun N t => minK m n fun r => forceN (Nat.mul r es) fun q => ifK (Nat.ble (Nat.add p q) N) (readK t q p fun l => k l r) false) e
    obtain ⟨h1, e⟩ := e
    have := beq_of h1; subst this
    replace e := blkK_some e
    obtain ⟨N, t, hb, e⟩ := e
    replace e := minK_some e
    rw [forceN_eq] at e
    replace e := ifK_and e
    obtain ⟨hle, e⟩ := e
    replace e := readK_some e
    obtain ⟨l, hl, hg, e⟩ := e
    have hle := ble_of hle
    refine ⟨l, _, e, Nat.min_le_right _ _, fun ρ w v hI hv => ?_⟩
    simp only [VR] at hv
    obtain ⟨L, cc, hL, rfl, _⟩ := hv
    obtain ⟨vs, g1, g2, g3⟩ := (hI.blk hb hL).row hle hl hg
    have hlen : vs.length = Nat.min m n * es := by rw [g1.length, hl]; rfl
    refine ⟨vs, m, g1, g2, hlen, fun w' => by simp [Builtin.lenOf], rfl, fun w' hw => ?_⟩
    have hrun := run_loadCells (P := P) (w := w') L.b (L.o + p) vs (fun j hj => by
      rw [World.cell?_of_block (w := w) (by rw [hw]), g3 j hj])
    rw [hlen] at hrun
    simp [Builtin.firstCells, hrun]
  | _ => cases e
theorem wrxK_some {h : T Blk} {i p q : Nat} {cs : List AV} {k : T Blk → Bool} (e : wrxK h i p q cs k = true) : ∃ n n' t t' h', h.get i = some (.live n t) ∧ ByOk E t n cs ∧ p ≤ n ∧ n' ≤ max n (p + q) ∧ ((n' = n ∧ p + q ≤ n) ∨ t'.get (n' + 7) = none) ∧ (∀ j, t'.get j = if p ≤ j ∧ j < p + cs.length then cs[j - p]? else t.get j) ∧ Upd h i (.live n' t') h' ∧ k h' = true := by
  replace e := blkK_some e
  obtain ⟨n, t, hb, e⟩ := e
  replace e := ifK_and e
  obtain ⟨hle, e⟩ := e
  replace e := okTyK_some (E := E) e
  obtain ⟨e, hby⟩ := e
  replace e := writeK_some e
  obtain ⟨t', ht, e⟩ := e
  rw [forceN_eq] at e
  cases hq : Nat.ble (Nat.add p q) n with
  | true =>
    rw [hq] at e
    replace e := setK_some e
    obtain ⟨h', hu, e⟩ := e
    exact ⟨n, n, t, t', h', hb, hby, ble_of hle, Nat.le_max_left _ _, .inl ⟨rfl, ble_of hq⟩, ht, hu, e⟩
  | false =>
    rw [hq] at e
    change forceN (Nat.add (Nat.add p q) 7) (fun r => freeK t' r (setK (.live (Nat.add p q) t') 40 h i k)) = true at e
    rw [forceN_eq] at e
    obtain ⟨hfr, e⟩ := freeK_some e
    replace e := setK_some e
    obtain ⟨h', hu, e⟩ := e
    exact ⟨n, p + q, t, t', h', hb, hby, ble_of hle, Nat.le_max_right _ _, .inr hfr, ht, hu, e⟩
/-- Cells are written from a known place on; perhaps more is known then. -/
theorem writex_step {ρ : Nat → Option Loc} {h h' : T Blk} {i p n n' nx : Nat} {t t' : T AV} {cs : List AV} {vs : List Value} {w : World} {L : Loc} (hI : Inv E ρ h.get w) (hb : h.get i = some (.live n t)) (hL : ρ i = some L) (hv : VRs E ρ cs vs) (h1 : ∀ u ∈ vs, u.oneCell' = true)
    (hp : p ≤ n) (hroom : L.o + p + cs.length ≤ L.sz) (hn' : n' ≤ max n (p + cs.length)) (hfr : (n' = n ∧ p + cs.length ≤ n) ∨ t'.get (n' + 7) = none) (ht : ∀ j, t'.get j = if p ≤ j ∧ j < p + cs.length then cs[j - p]? else t.get j) (hu : Upd h i (.live n' t') h') (hby : ByOk E t n cs) :
    Stp ρ h.get w nx ρ h'.get (w.setCells L.b (L.o + p) vs) nx ∧ Inv E ρ h'.get (w.setCells L.b (L.o + p) vs) := by
  have e1 : ∀ j, j ≠ i → h'.get j = h.get j := fun j hj => by rw [hu, if_neg hj]
  have e2 : h'.get i = some (.live n' t') := by rw [hu, if_pos rfl]
  refine ⟨⟨Nat.le_refl _, fun j a b => by omega, fun _ _ => rfl, (setCells_rest w _ _ vs).1, (setCells_rest w _ _ vs).2.1, (setCells_rest w _ _ vs).2.2.1, Nat.le_of_eq (setCells_rest w _ _ vs).2.2.2.symm, fun b _ hn => setCells_other _ _ _ _ fun e => hn i n t L hb hL e.symm, fun j m u M hj hM => ?_⟩, ⟨fun j m u hj => ?_, fun j k m u m' u' hj hk hne => ?_⟩⟩
  · by_cases e : j = i
    · subst e; exact .inr ⟨j, n, t, M, hb, hM, rfl⟩
    · rw [e1 j e] at hj; exact .inr ⟨j, m, u, M, hj, hM, rfl⟩
  · by_cases e : j = i
    · subst e
      rw [e2] at hj; injection hj with hj; injection hj with g1 g2; subst g1; subst g2
      obtain ⟨c, el, z, b1, b2, b3, b4, b5⟩ := hI.blk hb hL
      obtain ⟨c', d1, d2, d3⟩ := setCells_at w L.b (L.o + p) vs b1
      have hlen := hv.length
      refine ⟨L, hL, c', el, z, d1, by rw [d2]; exact b2, by rw [d2]; exact b3, fun k hk => ?_, ?_⟩
      rotate_left
      · rcases hfr with ⟨rfl, hfr⟩ | hfr
        · rw [ht, if_neg (by omega)]
          refine ⟨fun ty hty => ?_, b5.2.1, fun ty l hl => absurd hl (hby.2 ty _)⟩
          obtain ⟨g1, g2, g3, g4⟩ := b5.1 ty hty
          refine ⟨g1, g2, g3, fun k hk => ?_⟩
          obtain ⟨m, hm1, hm2⟩ := g4 k hk
          have hks := (Array.getElem?_eq_some_iff.1 hm2).1
          rw [d3 _ hks]
          by_cases e3 : L.o + p ≤ k ∧ k < L.o + p + vs.length
          · rw [if_pos e3]
            have hlt : k - (L.o + p) < vs.length := by omega
            obtain ⟨m', q1, q2⟩ := hby.1 ty hty ρ vs hv vs[k - (L.o + p)] (List.getElem_mem hlt)
            exact ⟨m', q1, by rw [List.getElem?_eq_getElem hlt, q2]⟩
          · rw [if_neg e3]; exact ⟨m, hm1, hm2⟩
        · exact TyAt.of hfr
      by_cases e3 : p ≤ k ∧ k < p + cs.length
      · have hlt : k - p < cs.length := by omega
        have hx : cs[k - p]? = some cs[k - p] := by simp [hlt]
        obtain ⟨u', hu1, hu2⟩ := hv.get hx
        refine ⟨cs[k - p], u', by rw [ht, if_pos e3]; exact hx, ?_, hu2, h1 u' (List.mem_of_getElem? hu1)⟩
        rw [d3 _ (by omega), if_pos (by omega), show L.o + k - (L.o + p) = k - p from by omega]; exact hu1
      · obtain ⟨av, v, a1, a2, a3, a4⟩ := b4 k (by omega)
        have hks := (Array.getElem?_eq_some_iff.1 a2).1
        refine ⟨av, v, by rw [ht, if_neg e3]; exact a1, ?_, a3, a4⟩
        rw [d3 _ hks, if_neg (by omega)]; exact a2
    · rw [e1 j e] at hj
      obtain ⟨M, hM, hB⟩ := hI.at_ j m u hj
      exact ⟨M, hM, hB.same (setCells_other _ _ _ _ (hI.inj j i m u n t hj hb e M L hM hL))⟩
  · have a1 : ∀ j m u, h'.get j = some (.live m u) → ∃ m u, h.get j = some (.live m u) := fun j m u hj => by
      by_cases e : j = i
      · subst e; exact ⟨n, t, hb⟩
      · exact ⟨m, u, by rwa [e1 j e] at hj⟩
    obtain ⟨_, _, hj⟩ := a1 _ _ _ hj
    obtain ⟨_, _, hk⟩ := a1 _ _ _ hk
    exact hI.inj j k _ _ _ _ hj hk hne
theorem run_append_in {t u ty el : Nat} {du : TypeDesc} {i : TypeInfo} {b p n cap m : Nat} {x : Value} {vs : List Value} {w : World} (ht : P.underlying t = some (.slice el)) (hu : P.underlying u = some du) (hnu : du = .string ∨ ∃ e, du = .slice e) (hi : P.info? el = some i)
    (hl : ∀ w', (Builtin.lenOf x).run P w' = .ok m w') (hf : (Builtin.firstCells i.size m x).run P w = .ok vs.toArray w) (hroom : n + m ≤ cap) (hst : (storeCells ⟨b, p + n * i.size, none⟩ vs).run P w = .ok () (w.setCells b (p + n * i.size) vs)) :
    (Builtin.append_ #[t, u] ty #[.slice (some ⟨b, p, none⟩) n cap, x]).run P w = .ok (.slice (some ⟨b, p, none⟩) (n + m) cap) (w.setCells b (p + n * i.size) vs) := by
  rcases hnu with rfl | ⟨e', rfl⟩ <;> simp [Builtin.append_, run_underlying ht, run_underlying hu, sizeOf, typeInfo, hi, hl, hroom, hf, add_lit, hst]
theorem run_append_new {t u ty el : Nat} {du : TypeDesc} {i : TypeInfo} {z : Value} {base : Option Addr} {n cap m : Nat} {x : Value} {olds news : List Value} {w : World} (ht : P.underlying t = some (.slice el)) (hu : P.underlying u = some du) (hnu : du = .string ∨ ∃ e, du = .slice e) (hi : P.info? el = some i) (hz : i.zero = some z)
    (hl : ∀ w', (Builtin.lenOf x).run P w' = .ok m w') (hf : (Builtin.firstCells i.size m x).run P w.drew = .ok news.toArray w.drew) (ho : (Builtin.firstCells i.size n (.slice base n cap)).run P w.drew = .ok olds.toArray w.drew)
    (hg : cap < n + m) (h63 : n + m ≤ 1000000) (hb : (n + m) * i.bytes ≤ 140737488355328) :
    (Builtin.append_ #[t, u] ty #[.slice base n cap, x]).run P w = .ok (.slice (some ⟨w.heap.size, 0, none⟩) (n + m) (grownCap w (n + m) cap el))
      (w.drew.alloc (.cells (olds.toArray ++ (news.toArray ++ Builtin.zeroCells z.cells (grownCap w (n + m) cap el - (n + m)))) el)) := by
  have hn : ¬ (n + m ≤ cap) := by omega
  have h63' : ¬ (9223372036854775807 < ((n : Int) + (m : Int))) := by omega
  have hfit := growslice_fits hg hb
  have h48' : ¬ (281474976710656 < Builtin.nextslicecap (n + m) cap * i.bytes) := by omega
  rcases hnu with rfl | ⟨e', rfl⟩ <;> simp [Builtin.append_, run_underlying ht, run_underlying hu, sizeOf, typeInfo, zeroValue, hi, hz, hl, hn, h63', h48', Question.forced, hf, ho, newRow, grownCap]

/-- A new block at a number that is free. -/
theorem new_step {ρ : Nat → Option Loc} {h h' : T Blk} {nx : Nat} {t : T AV} {cs : List AV} {vs : List Value} {w w' : World} {c : Array Value} {el : Nat} {z : Nat × Nat} {pl : Nat} (hI : Inv E ρ h.get w) (hp : Pushed w w' (.cells c el z)) (hz : ∀ k, k < c.size + pl → ¬ (z.1 ≤ k ∧ k < z.2)) (hnx : ρ nx = none)
    (hv : VRs E ρ cs vs) (h1 : ∀ u ∈ vs, u.oneCell' = true) (hc : ∀ j, j < vs.length → c[j]? = vs[j]?) (ht : ∀ j, j < cs.length → t.get j = cs[j]?) (hT : TyAt E (t.get (cs.length + 7)) cs.length 0 c.size c el z) (hu : Upd h nx (.live cs.length t) h') :
    Stp ρ h.get w nx (ρset ρ nx ⟨w.heap.size, 0, c.size, pl⟩) h'.get w' (nx + 1) ∧ Inv E (ρset ρ nx ⟨w.heap.size, 0, c.size, pl⟩) h'.get w' := by
  have e1 : ∀ j, j ≠ nx → h'.get j = h.get j := fun j hj => by rw [hu, if_neg hj]
  have e2 : h'.get nx = some (.live cs.length t) := by rw [hu, if_pos rfl]
  refine ⟨Stp.push hp hnx e1 e2, Inv.push hI hp hz hnx e1 e2 (fun j hj => ?_) hT⟩
  have hx : cs[j]? = some cs[j] := by simp [hj]
  obtain ⟨u, hu1, hu2⟩ := hv.get hx
  refine ⟨cs[j], u, by rw [ht j hj, hx], ?_, hu2, h1 u (List.mem_of_getElem? hu1)⟩
  rw [hc j (by rw [hv.length]; exact hj)]; exact hu1
theorem Fresh.new {h h' : T Blk} {nx : Nat} {b : Blk} (hf : Fresh h nx) (hu : Upd h nx b h') : Fresh h' (nx + 1) := fun j hj => by rw [hu, if_neg (by omega)]; exact hf j (by omega)
theorem Pushed.drew {w : World} {o : Obj} : Pushed w (w.drew.alloc o) o := ⟨rfl, rfl, rfl, rfl⟩
/-- One block is forgotten. -/
theorem kill_step {ρ : Nat → Option Loc} {h h' : T Blk} {i nx : Nat} {w : World} (hI : Inv E ρ h.get w) (hu : Upd h i .dead h') : Stp ρ h.get w nx ρ h'.get w nx ∧ Inv E ρ h'.get w := by
  have hl : Less h'.get h.get := fun j n t hj => by
    by_cases e : j = i
    · subst e; rw [hu, if_pos rfl] at hj; cases hj
    · rwa [hu, if_neg e] at hj
  exact ⟨⟨Nat.le_refl _, fun i h1 h2 => by omega, fun _ _ => rfl, rfl, rfl, rfl, Nat.le_refl _, fun _ _ _ => rfl, fun j n t L hj hL => .inr ⟨j, n, t, L, hl _ _ _ hj, hL, rfl⟩⟩, hI.less hl⟩
/-- A slice whose capacity is not known has room: its block goes on under a new number. -/
theorem move_step {ρ : Nat → Option Loc} {h h1 h2 : T Blk} {i nx p q n : Nat} {t t' : T AV} {old cs : List AV} {ov vs : List Value} {w : World} {L : Loc} (hI : Inv E ρ h.get w) (hb : h.get i = some (.live n t)) (hL : ρ i = some L) (hf : Fresh h nx) (hnx : ρ nx = none)
    (hold : p + old.length ≤ n) (hog : ∀ j, j < old.length → t.get (p + j) = old[j]?) (hq : q = p + old.length) (hroom : L.o + q + cs.length ≤ L.sz) (_hov : VRs E ρ old ov) (hv : VRs E ρ cs vs) (h1c : ∀ u ∈ vs, u.oneCell' = true)
    (ht : ∀ j, j < (old ++ cs).length → t'.get j = (old ++ cs)[j]?) (hT : t'.get ((old ++ cs).length + 7) = none ∨ ∃ ty, t'.get ((old ++ cs).length + 7) = some (.glob ty) ∧ t.get (n + 7) = some (.glob ty) ∧ p = 0 ∧ ∀ v ∈ vs, IsByte v) (hu1 : Upd h i .dead h1) (hu2 : Upd h1 nx (.live (old ++ cs).length t') h2) :
    Stp ρ h.get w nx (ρset ρ nx ⟨L.b, L.o + p, L.sz, L.pl⟩) h2.get (w.setCells L.b (L.o + q) vs) (nx + 1) ∧ Inv E (ρset ρ nx ⟨L.b, L.o + p, L.sz, L.pl⟩) h2.get (w.setCells L.b (L.o + q) vs) := by
  have hin : i ≠ nx := fun e => by subst e; rw [hf i (Nat.le_refl _)] at hb; cases hb
  have g2 : ∀ j m u, h2.get j = some (.live m u) → (j = nx ∧ m = (old ++ cs).length ∧ u = t') ∨ (j ≠ nx ∧ j ≠ i ∧ h.get j = some (.live m u)) := fun j m u hj => by
    by_cases e : j = nx
    · subst e; rw [hu2, if_pos rfl] at hj; injection hj with hj; injection hj with a b; exact .inl ⟨rfl, a.symm, b.symm⟩
    · rw [hu2, if_neg e, hu1] at hj
      by_cases e2 : j = i
      · subst e2; rw [if_pos rfl] at hj; cases hj
      · rw [if_neg e2] at hj; exact .inr ⟨e, e2, hj⟩
  have hext : Ext ρ (ρset ρ nx ⟨L.b, L.o + p, L.sz, L.pl⟩) := ρset_ext hnx
  have sc := setCells_rest w L.b (L.o + q) vs
  have hblk := hI.blk hb hL
  refine ⟨⟨Nat.le_succ _, fun j a b => by rwa [show j = nx from by omega], fun j hj => by unfold ρset; rw [if_neg (by omega)], sc.1, sc.2.1, sc.2.2.1, Nat.le_of_eq sc.2.2.2.symm, fun b _ hn => setCells_other _ _ _ _ fun e => hn i n t L hb hL e.symm, fun j m u M hj hM => ?_⟩, ⟨fun j m u hj => ?_, fun j k m u m' u' hj hk hne M M' hM hM' => ?_⟩⟩
  · rcases g2 j m u hj with ⟨rfl, _, _⟩ | ⟨e1, e2, hj⟩
    · simp only [ρset, if_pos] at hM; injection hM with hM; subst hM
      exact .inr ⟨i, n, t, L, hb, hL, rfl⟩
    · simp only [ρset, if_neg e1] at hM
      exact .inr ⟨j, m, u, M, hj, hM, rfl⟩
  · rcases g2 j m u hj with ⟨rfl, rfl, rfl⟩ | ⟨e1, e2, hj⟩
    · refine ⟨⟨L.b, L.o + p, L.sz, L.pl⟩, by simp [ρset], ?_⟩
      obtain ⟨c, el, z, b1, b2, b3, b4, b5⟩ := hblk
      obtain ⟨c', d1, d2, d3⟩ := setCells_at w L.b (L.o + q) vs b1
      have hlen := hv.length
      refine ⟨c', el, z, d1, by rw [d2]; exact b2, by rw [d2]; exact b3, fun k hk => ?_, ?_⟩
      rotate_left
      · rcases hT with hT | ⟨ty, hT1, hT2, hp0, hby⟩
        · exact TyAt.of hT
        · rw [hT1]
          obtain ⟨g1, g2, g3, g4⟩ := b5.1 ty hT2
          refine ⟨fun ty' hty' => ?_, fun _ _ h => (by cases h), fun _ _ h => (by cases h)⟩
          injection hty' with hty'; injection hty' with hty'; subst hty'
          refine ⟨g1, by show L.o + p = 0; omega, g3, fun k hk => ?_⟩
          rw [List.length_append] at hk
          by_cases e3 : L.o + q ≤ k ∧ k < L.o + q + vs.length
          · have hlt : k - (L.o + q) < vs.length := by omega
            obtain ⟨m', q1, q2⟩ := hby vs[k - (L.o + q)] (List.getElem_mem hlt)
            exact ⟨m', q1, by rw [d3 _ (by omega), if_pos e3, List.getElem?_eq_getElem hlt, q2]⟩
          · obtain ⟨m, hm1, hm2⟩ := g4 k (by omega)
            have hks := (Array.getElem?_eq_some_iff.1 hm2).1
            exact ⟨m, hm1, by rw [d3 _ hks, if_neg e3]; exact hm2⟩
      rw [List.length_append] at hk
      by_cases hk1 : k < old.length
      · obtain ⟨av, v, a1, a2, a3, a4⟩ := b4 (p + k) (by omega)
        refine ⟨av, v, ?_, ?_, a3.ext hext, a4⟩
        · rw [ht k (by rw [List.length_append]; omega), List.getElem?_append_left hk1, ← hog k hk1]; exact a1
        · rw [← Nat.add_assoc] at a2
          have := (Array.getElem?_eq_some_iff.1 a2).1
          rw [d3 _ this, if_neg (by omega)]; exact a2
      · have hlt : k - old.length < cs.length := by omega
        have hx : cs[k - old.length]? = some cs[k - old.length] := by simp [hlt]
        obtain ⟨u', hu1', hu2'⟩ := hv.get hx
        refine ⟨cs[k - old.length], u', ?_, ?_, hu2'.ext hext, h1c u' (List.mem_of_getElem? hu1')⟩
        · rw [ht k (by rw [List.length_append]; omega), List.getElem?_append_right (by omega), hx]
        · show c'[L.o + p + k]? = _
          rw [d3 _ (by omega), if_pos (by omega), show L.o + p + k - (L.o + q) = k - old.length from by omega]; exact hu1'
    · obtain ⟨M, hM, hB⟩ := hI.at_ j m u hj
      exact ⟨M, hext _ _ hM, (hB.ext hext).same (setCells_other _ _ _ _ (hI.inj j i m u n t hj hb e2 M L hM hL))⟩
  · rcases g2 j m u hj with ⟨rfl, _, _⟩ | ⟨e1, e2, hj⟩
    · have hk0 : k ≠ j := fun e => hne e.symm
      rcases g2 k m' u' hk with ⟨rfl, _, _⟩ | ⟨f1, f2, hk⟩
      · exact absurd rfl hne
      · simp only [ρset, if_pos] at hM; injection hM with hM; subst hM
        simp only [ρset, if_neg f1] at hM'
        exact hI.inj i k n t m' u' hb hk (fun e => f2 e.symm) L M' hL hM'
    · simp only [ρset, if_neg e1] at hM
      rcases g2 k m' u' hk with ⟨rfl, _, _⟩ | ⟨f1, f2, hk⟩
      · simp only [ρset, if_pos] at hM'; injection hM' with hM'; subst hM'
        exact hI.inj j i m u n t hj hb e2 M L hM hL
      · simp only [ρset, if_neg f1] at hM'
        exact hI.inj j k m u m' u' hj hk hne M M' hM hM'
/-! ### Bytes taken as a text -/
theorem freeze_other (w : World) (a : Addr) (n : Nat) {b : Nat} (hb : b ≠ a.block) : (w.freeze a n).heap[b]? = w.heap[b]? := by
  unfold World.freeze
  split
  · rfl
  · simp [Array.getElem?_modify, Ne.symm hb]
theorem freeze_rest (w : World) (a : Addr) (n : Nat) : (w.freeze a n).os = w.os ∧ (w.freeze a n).tape = w.tape ∧ (w.freeze a n).output = w.output ∧ (w.freeze a n).heap.size = w.heap.size := by
  unfold World.freeze
  split
  · exact ⟨rfl, rfl, rfl, rfl⟩
  · exact ⟨rfl, rfl, rfl, by simp⟩
theorem freeze_step {ρ : Nat → Option Loc} {h h' : T Blk} {i n nx N : Nat} {t : T AV} {w : World} {L : Loc} (hI : Inv E ρ h.get w) (hb : h.get i = some (.live N t)) (hL : ρ i = some L) (hu : Upd h i .dead h') :
    Stp ρ h.get w nx ρ h'.get (w.freeze ⟨L.b, 0, none⟩ n) nx ∧ Inv E ρ h'.get (w.freeze ⟨L.b, 0, none⟩ n) := by
  have hr := freeze_rest w ⟨L.b, 0, none⟩ n
  have hl : ∀ j m u, h'.get j = some (.live m u) → j ≠ i ∧ h.get j = some (.live m u) := fun j m u hj => by
    by_cases e : j = i
    · subst e; rw [hu, if_pos rfl] at hj; cases hj
    · exact ⟨e, by rwa [hu, if_neg e] at hj⟩
  refine ⟨⟨Nat.le_refl _, fun j a b => by omega, fun _ _ => rfl, hr.1, hr.2.1, hr.2.2.1, Nat.le_of_eq hr.2.2.2.symm, fun b _ hn => freeze_other _ _ _ fun e => hn i N t L hb hL e.symm, fun j m u M hj hM => .inr ⟨j, m, u, M, (hl j m u hj).2, hM, rfl⟩⟩, ⟨fun j m u hj => ?_, fun j k m u m' u' hj hk hne => hI.inj j k m u m' u' (hl j m u hj).2 (hl k m' u' hk).2 hne⟩⟩
  obtain ⟨e, hj⟩ := hl j m u hj
  obtain ⟨M, hM, hB⟩ := hI.at_ j m u hj
  exact ⟨M, hM, hB.same (freeze_other _ _ _ (hI.inj j i m u N t hj hb e M L hM hL))⟩
theorem ustr_ok {t ti et : Nat} {x y : Operand} {c d : COpd} (ho : o.op = .call ⟨.builtin .unsafeString, #[x, y], #[t, ti]⟩) (ht : P.underlying t = some (.pointer et)) (hc : P.cellsOf et = 1) (hx : OpdOk E x c) (hy : OpdOk E y d) : EffOk P E o (.ustr et c d) := fun fr h nx k hk hf => by
  obtain ⟨a, b, h1, h2⟩ := opd2_some hx hy hk
  replace h1 := intK_some h1
  obtain ⟨q, z, rfl, h1⟩ := h1
  replace h1 := ifK_and h1
  obtain ⟨hq, h1⟩ := h1
  have := kindEq_of hq; subst this
  cases z with
  | negSucc n => cases h1
  | ofNat n =>
    have run : ∀ (e : Operand → Value) (w : World) (v : Value) (w' : World), (Builtin.unsafeString_ #[t, ti] o.type #[e x, e y]).run P w = .ok v w' → (execOp e o).run P w = .ok (.value v) w' := fun e w v w' hr => by
      rw [run_builtin ho]
      simp [builtin, hr]
    cases n with
    | zero =>
      change (nilB 3 a fun _ => k (.str []) h nx) = true at h1
      have hp : k (.str []) h nx = true ∧ ∀ ρ v, VR E ρ a v → ∃ p, v = .pointer p := by
        rcases nilB3_some h1 with ⟨rfl, h1⟩ | ⟨⟨i, p, rfl⟩, h1⟩
        · exact ⟨h1, fun ρ v hv => by simp only [VR] at hv; exact ⟨_, hv⟩⟩
        · exact ⟨h1, fun ρ v hv => by simp only [VR] at hv; obtain ⟨_, _, hv⟩ := hv; exact ⟨_, hv⟩⟩
      obtain ⟨h1, hp⟩ := hp
      refine ⟨_, h, nx, h1, hf, Nat.le_refl _, fun ρ A w next Q _ hh hI hnext => ?_⟩
      rw [ho] at hh
      obtain ⟨hv, hw⟩ := h2 ρ A.eval (Ev.act A) (hh.sub (by simp [Op.operands, Call.operands]))
      obtain ⟨p, hv⟩ := hp ρ _ hv
      simp only [VR] at hw
      have hr := Lib.run_unsafeString_none (P := P) w t ti o.type p
      refine wp_value (run A.eval w (.string .empty) w (by rw [hv, hw]; exact hr)) (hnext ρ _ w Stp.rfl' hI ?_)
      simp only [VR]; rfl
    | succ n =>
      change (ptrK a fun i p => ifK (Nat.beq p 0) (blkK h i fun N t => ifK (Nat.ble (n + 1) N) (ifK (Nat.ble (n + 1) 1000000) (tyK t N et (readK t (n + 1) 0 fun l => atomsK l fun s => setK .dead 40 h i fun h => k (.str s) h nx)) false) false) false) = true at h1
      replace h1 := ptrK_some h1
      obtain ⟨i, p, rfl, h1⟩ := h1
      replace h1 := ifK_and h1
      obtain ⟨hp, h1⟩ := h1
      have := beq_of hp; subst this
      replace h1 := blkK_some h1
      obtain ⟨N, tr, hb, h1⟩ := h1
      replace h1 := ifK_and h1
      obtain ⟨hN, h1⟩ := h1
      replace h1 := ifK_and h1
      obtain ⟨hM, h1⟩ := h1
      replace h1 := tyK_some h1
      obtain ⟨hty, h1⟩ := h1
      replace h1 := readK_some h1
      obtain ⟨l, hl, hg, h1⟩ := h1
      obtain ⟨s, h1, hs⟩ := atomsK_some (E := E) h1
      replace h1 := setK_some h1
      obtain ⟨h', hu, h1⟩ := h1
      have hN := ble_of hN
      have hM := ble_of hM
      refine ⟨_, h', nx, h1, hf.set hu (hf.lt hb), Nat.le_refl _, fun ρ A w next Q _ hh hI hnext => ?_⟩
      rw [ho] at hh
      obtain ⟨hv, hw⟩ := h2 ρ A.eval (Ev.act A) (hh.sub (by simp [Op.operands, Call.operands]))
      simp only [VR] at hv hw
      obtain ⟨L, hL, hv⟩ := hv
      have hB := hI.blk hb hL
      obtain ⟨vs, g1, _, g3⟩ := hB.row (p := 0) (m := n + 1) (by omega) hl hg
      have hbd := hB.bound (j := n) (by omega)
      obtain ⟨cs, el, zz, b1, _, b3, _, b5⟩ := hB
      obtain ⟨rfl, hLo, _, _⟩ := b5.1 et hty
      have hvs := hs ρ vs g1
      have hlen : vs.length = n + 1 := by rw [g1.length, hl]
      have hsl : s.length = n + 1 := by rw [← hlen, hvs]; simp
      have hsh : w.shape? L.b = some (el, cs.size) := by unfold World.shape?; rw [b1]
      obtain ⟨s1, s2⟩ := freeze_step (n := n + 1) (nx := nx) hI hb hL hu
      have hr := Lib.run_unsafeString_row (P := P) w t ti o.type el ht hc L.b cs.size hsh (s.map E.byte) (fun e => absurd (congrArg List.length e) (by rw [List.length_map, hsl]; simp)) (by simp only [List.length_map]; omega) (by simp only [List.length_map]; omega) (fun j x hj => by
        have hjl : j < s.length := by have := (List.getElem?_eq_some_iff.1 hj).1; simpa using this
        have := g3 j (by omega)
        rw [hLo, Nat.add_zero, Nat.zero_add, hvs] at this
        have e1 : (⟨L.b, 0, none⟩ : Addr).add j = ⟨L.b, j, none⟩ := by rw [add_lit, Nat.zero_add]
        rw [e1, this, List.getElem?_map]
        rw [List.getElem?_map] at hj
        cases hk : s[j]? with
        | none => rw [hk] at hj; cases hj
        | some y => rw [hk] at hj; injection hj with hj; subst hj; rfl)
      rw [List.length_map, hsl] at hr
      refine wp_value (run A.eval w (.string (E.bytes s)) (w.freeze ⟨L.b, 0, none⟩ (n + 1)) (by rw [hv, hw, hLo]; exact hr)) (hnext ρ _ _ s1 s2 ?_)
      simp only [VR]
end
end Go.Proofs.YtdnahdcjnahfkaaGreatDoor.Ev
namespace Go.Proofs.YtdnahdcjnahfkaaGreatDoor.Ev
open Go

section
variable {P : Program} {E : Env} {F : Facts} {o : Oper}
theorem run_app {e : Operand → Value} {x y : Operand} {t u : TypeId} {v : Value} {w w' : World} (ho : o.op = .call ⟨.builtin .append, #[x, y], #[t, u]⟩) (h : (Builtin.append_ #[t, u] o.type #[e x, e y]).run P w = .ok v w') : (execOp e o).run P w = .ok (.value v) w' := by
  rw [run_builtin ho]
  simp [builtin, h]
theorem run_append_none {t u ty el : Nat} {du : TypeDesc} {i : TypeInfo} {a : Option Addr} {c : Nat} {x : Value} {w : World} (ht : P.underlying t = some (.slice el)) (hu : P.underlying u = some du) (hnu : du = .string ∨ ∃ e, du = .slice e) (hi : P.info? el = some i)
    (hl : ∀ w', (Builtin.lenOf x).run P w' = .ok 0 w') (hf : (Builtin.firstCells i.size 0 x).run P w = .ok #[] w) : (Builtin.append_ #[t, u] ty #[.slice a 0 c, x]).run P w = .ok (.slice a 0 c) w := by
  rcases hnu with rfl | ⟨e', rfl⟩ <;> cases a <;> simp [Builtin.append_, run_underlying ht, run_underlying hu, sizeOf, typeInfo, hi, hl, hf, storeCells]
theorem zeroCells_size (z : Array Value) (n : Nat) : (Builtin.zeroCells z n).size = n * z.size := by simp [Builtin.zeroCells]
theorem get_app {xs ys : List Value} {zs : Array Value} {j : Nat} (h : j < (xs ++ ys).length) : (xs.toArray ++ (ys.toArray ++ zs))[j]? = (xs ++ ys)[j]? := by
  rw [← Array.append_assoc, Array.getElem?_append_left (by simpa using h)]
  simp
theorem app_ok {t u el : Nat} {du : TypeDesc} {ie : TypeInfo} {z : Value} {x y : Operand} {c d : COpd} (ho : o.op = .call ⟨.builtin .append, #[x, y], #[t, u]⟩) (ht : P.underlying t = some (.slice el)) (hu : P.underlying u = some du) (hnu : du = .string ∨ ∃ e, du = .slice e)
    (hi : P.info? el = some ie) (hz : ie.zero = some z) (hsz : z.cells.size = ie.size) (hx : OpdOk E x c) (hy : OpdOk E y d) : EffOk P E o (.app ie.bytes ie.size el c d) := fun fr h nx k hk hf => by
  obtain ⟨a, b, h1, h2⟩ := opd2_some hx hy hk
  -- a new block of these cells
  have fresh : ∀ (m : Nat) (all : List AV) (base : Option Addr) (n need : Nat) (h0 : T Blk) (t' : T AV) (h' : T Blk), need = n + m → need * ie.bytes ≤ 140737488355328 → need ≤ 1000000 → (∀ j, j < all.length → t'.get j = all[j]?) → (t'.get (all.length + 7) = none ∨ t'.get (all.length + 7) = some (.glob el) ∨ ∃ y, t'.get (all.length + 7) = some (.ifc el y)) → Upd h0 nx (.live all.length t') h' →
      ∀ ρ (A : Act) w (cap : Nat) (olds news : List Value) (_ : Ev A.eval), Inv E ρ h0.get w → ρ nx = none → VRs E ρ all (olds ++ news) → (∀ y, t'.get (all.length + 7) = some (.ifc el y) → ∀ zs : Array Value, TyAt E (some (.ifc el y)) all.length 0 (olds.toArray ++ (news.toArray ++ zs)).size (olds.toArray ++ (news.toArray ++ zs)) el (0, 0)) → (t'.get (all.length + 7) = some (.glob el) → ∀ v ∈ olds ++ news, IsByte v) → (∀ v ∈ olds ++ news, v.oneCell' = true) → (olds ++ news).length = need * ie.size → A.eval x = .slice base n cap → cap < need →
      (∀ w', (Builtin.lenOf (A.eval y)).run P w' = .ok m w') → (Builtin.firstCells ie.size m (A.eval y)).run P w.drew = .ok news.toArray w.drew → (Builtin.firstCells ie.size n (.slice base n cap)).run P w.drew = .ok olds.toArray w.drew →
      ∃ v w' ρ', (execOp A.eval o).run P w = .ok (.value v) w' ∧ Stp ρ h0.get w nx ρ' h'.get w' (nx + 1) ∧ Inv E ρ' h'.get w' ∧ VR E ρ' (.sl nx 0 need need false ie.size) v := by
    intro m all base n need h0 t' h' hneed b1 b2 htr hT hup ρ A w cap olds news he hI hnx hall hcc hbt hone hlen hv hcap hl hfn hfo
    subst hneed
    have hrun := run_append_new (P := P) (ty := o.type) (base := base) ht hu hnu hi hz hl hfn hfo hcap b2 b1
    have hp : Pushed w _ _ := Pushed.drew (w := w) (o := .cells (olds.toArray ++ (news.toArray ++ Builtin.zeroCells z.cells (grownCap w (n + m) cap el - (n + m)))) el)
    obtain ⟨s1, s2⟩ := new_step (pl := 1) hI hp (fun k _ hk => by omega) hnx hall hone (fun j hj => get_app hj) htr (by
      rcases hT with hT | hT | ⟨y, hT⟩
      · exact TyAt.of hT
      · rw [hT]
        refine TyAt.glob fun j hj => ?_
        rw [← hall.length] at hj
        obtain ⟨m', q1, q2⟩ := hbt hT (olds ++ news)[j] (List.getElem_mem hj)
        exact ⟨m', q1, by rw [get_app hj, List.getElem?_eq_getElem hj, q2]⟩
      · rw [hT]; exact hcc y hT _) hup
    rw [← hv] at hrun
    refine ⟨_, _, _, run_app ho hrun, s1, s2, ?_⟩
    have hge := grownCap_ge w (n + m) cap el
    have hfin : 0 + 0 + grownCap w (n + m) cap el * ie.size = (olds.toArray ++ (news.toArray ++ Builtin.zeroCells z.cells (grownCap w (n + m) cap el - (n + m)))).size := by
      simp only [Array.size_append, List.size_toArray, zeroCells_size, hsz]
      rw [List.length_append] at hlen
      have e1 : grownCap w (n + m) cap el = (n + m) + (grownCap w (n + m) cap el - (n + m)) := by omega
      have e2 : grownCap w (n + m) cap el * ie.size = (n + m) * ie.size + (grownCap w (n + m) cap el - (n + m)) * ie.size := by rw [← Nat.add_mul, ← e1]
      omega
    simp only [VR]
    exact ⟨⟨w.heap.size, 0, _, 1⟩, grownCap w (n + m) cap el, if_pos rfl, rfl, hge, fun h => (by cases h), Nat.le_of_eq hfin, fun _ => rfl, grownCap_le_maxLen w (n + m) cap el (by unfold maxLen; omega), fun _ => hfin⟩
  replace h1 := cloneK_some h1
  rcases h1 with h1 | ⟨i0, i, m, c1, ex1, N, tr, h', rfl, rfl, hm, b1, b2, hb, hN, hT, hup, h1⟩
  rotate_left
  · refine ⟨_, h', nx + 1, h1, hf.new hup, Nat.le_succ _, fun ρ A w next Q hfree hh hI hnext => ?_⟩
    rw [ho] at hh
    obtain ⟨hv, hw⟩ := h2 ρ A.eval (Ev.act A) (hh.sub (by simp [Op.operands, Call.operands]))
    simp only [VR] at hv hw
    obtain ⟨L0, cap, _, hv, v1, v2, v3, v4⟩ := hv
    obtain ⟨L, cap', hL, hw, _⟩ := hw
    have hcap := v2 trivial
    subst hcap
    have hB := hI.blk hb hL
    have hall : ∀ j, j < N → tr.get j = ((List.range N).map fun j => (tr.get j).getD .nili)[j]? := fun j hj => by
      obtain ⟨_, _, _, _, _, _, b4, _⟩ := hB
      obtain ⟨av, _, a1, _⟩ := b4 j hj
      simp [hj, a1]
    have hll : ((List.range N).map fun j => (tr.get j).getD .nili).length = N := by simp
    obtain ⟨vs, g1, g2, g3⟩ := hB.row (p := 0) (by omega) hll (fun j hj => by rw [Nat.zero_add]; exact hall j hj)
    have hlen : vs.length = m * ie.size := by rw [g1.length, hll, hN]
    have hrun : ∀ w', w'.heap = w.heap → (Builtin.firstCells ie.size m (A.eval y)).run P w' = .ok vs.toArray w' := fun w' hw' => by
      have hr := run_loadCells (P := P) (w := w') L.b (L.o + 0) vs (fun j hj => by rw [World.cell?_of_block (w := w) (by rw [hw']), g3 j hj])
      rw [hlen, Nat.add_zero] at hr
      rw [hw]
      simp [Builtin.firstCells, hr]
    rw [← hll] at hup hT
    obtain ⟨v, w', ρ', q1, q2, q3, q4⟩ := fresh m _ (some ⟨L0.b, L0.o + 0, none⟩) 0 m h tr h' (by omega) b1 b2 (fun j hj => hall j (by rwa [hll] at hj)) hT hup ρ A w 0 [] vs (Ev.act A) hI (hfree nx (Nat.le_refl _) (Nat.lt_succ_self _)) g1
      (fun y hy zs => by
        rw [hll] at hy ⊢
        obtain ⟨c, e5, z, d1, d2, d3, d4, d5⟩ := hB
        rw [hy] at d5
        have hcj : ∀ j, j < N → ([].toArray ++ (vs.toArray ++ zs))[j]? = c[L.o + j]? := fun j hj => by
          have hjv : j < ([] ++ vs : List Value).length := by rw [List.nil_append, g1.length, hll]; exact hj
          rw [get_app hjv, List.nil_append]
          have := g3 j (by rw [g1.length, hll]; exact hj)
          simp only [World.cell?, d1] at this
          rw [← this, Nat.add_zero]; simp
        refine ⟨fun ty h => (by cases h), fun ty q h => (by cases h), fun ty l h => ?_⟩
        injection h with h; injection h with ha hb; subst ha; subst hb
        obtain ⟨a1, a2, a3, a4, a5⟩ := d5.2.2 _ l rfl
        have hcj2 : ∀ j, j < N → ([].toArray ++ (vs.toArray ++ zs))[j]? = c[j]? := fun j hj => by rw [hcj j hj, a2, Nat.zero_add]
        exact ⟨rfl, rfl, rfl, fun j hj => by rw [hcj2 j hj]; exact a4 j hj, fun x hx => (a5 x hx).congr hcj2⟩)
      (fun hk v hv => by
        rw [hll] at hk
        obtain ⟨hLo, hBy⟩ := hB.bytes hk
        obtain ⟨j, hj, hjv⟩ := List.getElem_of_mem (show v ∈ vs from hv)
        obtain ⟨m', q1, q2⟩ := hBy j (by rw [← hll, ← g1.length]; exact hj)
        have := g3 j hj
        rw [hLo, show 0 + 0 + j = j from by omega, q2, List.getElem?_eq_getElem hj, hjv] at this
        injection this with this
        exact ⟨m', q1, this.symm⟩)
      g2 (by simpa using hlen) hv (by omega) (fun w' => by rw [hw]; simp [Builtin.lenOf]) (hrun w.drew rfl) (by simp [Builtin.firstCells, loadCells, loadCellsFrom])
    exact wp_value q1 (hnext ρ' v w' q2 q3 q4)
  replace h1 := srcK_some (P := P) (E := E) h1
  obtain ⟨cs, m, h1, hsrc⟩ := h1
  replace h1 := slK_some h1
  rcases h1 with ⟨i, p, n, c0, ex, es', rfl, h1⟩ | ⟨rfl, h1⟩ | ⟨rfl, h1⟩
  · replace h1 := ifK_and h1
    obtain ⟨hes, h1⟩ := h1
    have := beq_of hes; subst this
    rw [forceN_eq, forceN_eq] at h1
    cases hroom : Nat.ble (Nat.add n m) c0 with
    | true =>
      rw [hroom] at h1
      replace h1 := wrK_some (E := E) h1
      obtain ⟨N, tr, tr', h', hb, hby, hfit, htr, hup, h1⟩ := h1
      have hroom := ble_of hroom
      simp only [Nat.add_eq, Nat.mul_eq] at *
      refine ⟨_, h', nx, h1, hf.set hup (hf.lt hb), Nat.le_refl _, fun ρ A w next Q _ hh hI hnext => ?_⟩
      rw [ho] at hh
      obtain ⟨hv, hw⟩ := h2 ρ A.eval (Ev.act A) (hh.sub (by simp [Op.operands, Call.operands]))
      obtain ⟨vs, g1, g2, g3, g4, g5⟩ := hsrc ρ w _ hI hw
      simp only [VR] at hv
      obtain ⟨L, cap, hL, hv, v1, v2, v3, v4⟩ := hv
      have hcl : cs.length = m * ie.size := by rw [← g1.length, g3]
      obtain ⟨s1, s2⟩ := write_step (nx := nx) hI hb hL g1 g2 (by rw [hcl]; exact hfit) htr hup hby
      have hst := run_store_blk (P := P) (hI.blk hb hL) (p := p + n * ie.size) (vs := vs) (by rw [g3]; exact hfit) g2
      have hfc := g5 w m rfl (Nat.le_refl _)
      rw [List.take_of_length_le (by omega)] at hfc
      rw [← Nat.add_assoc] at hst s1 s2
      have hrun := run_append_in (P := P) (ty := o.type) (b := L.b) (p := L.o + p) (n := n) (cap := cap) ht hu hnu hi g4 hfc (by omega) hst
      rw [← hv] at hrun
      refine wp_value (run_app ho hrun) (hnext ρ _ _ s1 s2 ?_)
      simp only [VR]
      exact ⟨L, cap, hL, rfl, v1, v2, v3, v4⟩
    | false =>
      rw [hroom] at h1
      have hroom : ¬ (n + m ≤ c0) := fun hh => by
        have : Nat.ble (Nat.add n m) c0 = true := by rw [Nat.ble_eq]; exact hh
        rw [this] at hroom; cases hroom
      replace h1 := ifK_and h1
      obtain ⟨b1, h1⟩ := h1
      replace h1 := ifK_and h1
      obtain ⟨b2, h1⟩ := h1
      replace h1 := blkK_some h1
      obtain ⟨N, tr, hb, h1⟩ := h1
      replace h1 := ifK_and h1
      obtain ⟨hle, h1⟩ := h1
      have b1 := ble_of b1
      have b2 := ble_of b2
      have hle := ble_of hle
      have grow : ∀ (b : Bool) (old : List AV) (K : Nat) (t' : T AV), (b = true → (∀ ρ vs, VRs E ρ cs vs → ∀ v ∈ vs, IsByte v) ∧ ((ex = true ∧ n = 0) ∨ (tr.get (N + 7) = some (.glob el) ∧ p = 0))) → old.length = n * ie.size → (cs.length = m * ie.size → K = (old ++ cs).length) → (∀ ρ w, Inv E ρ h.get w → (∀ j, j < old.length → tr.get (p + j) = old[j]?) ∧ ∀ j, j < (old ++ cs).length → t'.get j = (old ++ cs)[j]?) →
          growK b el i K t' h nx (k (.sl nx 0 (Nat.add n m) (Nat.add n m) false ie.size)) ex = true → ∃ r h' nx', k r h' nx' = true ∧ Fresh h' nx' ∧ nx ≤ nx' ∧ OpT P E o fr h.get nx r h'.get nx' := by
        intro b old K t1 hkeep hol hK hsp1 h1
        simp only [Nat.add_eq, Nat.mul_eq] at *
        -- what is old
        have olds : ∀ ρ w, Inv E ρ h.get w → ∀ L, ρ i = some L → ∀ cap, ∃ ov, VRs E ρ old ov ∧ (∀ v ∈ ov, v.oneCell' = true) ∧ ov.length = n * ie.size ∧ (b = true → ∀ v ∈ ov, IsByte v) ∧ ∀ w', w'.heap = w.heap → (Builtin.firstCells ie.size n (.slice (some ⟨L.b, L.o + p, none⟩) n cap)).run P w' = .ok ov.toArray w' := by
          intro ρ w hI L hL cap
          obtain ⟨ov, g1, g2, g3⟩ := (hI.blk hb hL).row hle hol (fun j hj => (hsp1 ρ w hI).1 j (by omega))
          have hlen : ov.length = n * ie.size := by rw [g1.length, hol]
          refine ⟨ov, g1, g2, hlen, fun hbt v hv => ?_, fun w' hw => ?_⟩
          · obtain ⟨k, hk, hkv⟩ := List.getElem_of_mem hv
            rcases (hkeep hbt).2 with ⟨_, hn0⟩ | ⟨hty, hp0⟩
            · subst hn0; rw [Nat.zero_mul] at hlen; omega
            · obtain ⟨hLo, hB⟩ := (hI.blk hb hL).bytes hty
              obtain ⟨m', q1, q2⟩ := hB k (by omega)
              have := g3 k hk
              rw [hLo, hp0, show 0 + 0 + k = k from by omega, q2, List.getElem?_eq_getElem hk, hkv] at this
              injection this with this
              exact ⟨m', q1, this.symm⟩
          have hrun := run_loadCells (P := P) (w := w') L.b (L.o + p) ov (fun j hj => by rw [World.cell?_of_block (w := w) (by rw [hw]), g3 j hj])
          rw [hlen] at hrun
          simp [Builtin.firstCells, hrun]
        unfold growK at h1
        rw [forceN_eq] at h1
        obtain ⟨t', htsame, hT, h1⟩ := nameK_some h1
        simp only [Nat.add_eq] at hT htsame
        have hsp : cs.length = m * ie.size → ∀ ρ w, Inv E ρ h.get w → (∀ j, j < old.length → tr.get (p + j) = old[j]?) ∧ ∀ j, j < (old ++ cs).length → t'.get j = (old ++ cs)[j]? := fun hcl ρ w hI =>
          ⟨(hsp1 ρ w hI).1, fun j hj => by rw [htsame j (by rw [hK hcl]; omega)]; exact (hsp1 ρ w hI).2 j hj⟩
        cases ex with
        | true =>
          replace h1 := setK_some h1
          obtain ⟨h', hup, h1⟩ := h1
          rw [forceN_eq] at h1
          refine ⟨_, h', nx + 1, h1, hf.new hup, Nat.le_succ _, fun ρ A w next Q hfree hh hI hnext => ?_⟩
          rw [ho] at hh
          obtain ⟨hv, hw⟩ := h2 ρ A.eval (Ev.act A) (hh.sub (by simp [Op.operands, Call.operands]))
          obtain ⟨vs, g1, g2, g3, g4, g5⟩ := hsrc ρ w _ hI hw
          have hcl : cs.length = m * ie.size := by rw [← g1.length, g3]
          rw [hK hcl] at hup hT
          simp only [VR] at hv
          obtain ⟨L, cap, hL, hv, v1, v2, v3, v4⟩ := hv
          have := v2 trivial
          subst this
          obtain ⟨ov, o1, o2, o3, o5, o4⟩ := olds ρ w hI L hL cap
          have hfc := g5 w.drew m rfl (Nat.le_refl _)
          rw [List.take_of_length_le (by omega)] at hfc
          obtain ⟨v, w', ρ', q1, q2, q3, q4⟩ := fresh m (old ++ cs) _ n (n + m) h t' h' rfl b1 b2 (hsp hcl ρ w hI).2 ((hT.imp id And.right).imp id .inl) hup ρ A w cap ov vs (Ev.act A) hI (hfree nx (Nat.le_refl _) (Nat.lt_succ_self _)) (o1.append g1) (fun y hy => by rcases hT with h | ⟨h, h'⟩ <;> first | (rw [h] at hy; cases hy) | (rw [h'] at hy; cases hy))
            (fun hk v hv => by
              rcases hT with hT | ⟨hbt, _⟩
              · rw [hT] at hk; cases hk
              · rcases List.mem_append.1 hv with h | h
                · exact o5 hbt v h
                · exact (hkeep hbt).1 ρ vs g1 v h)
            (fun v hv => by rcases List.mem_append.1 hv with h | h; exact o2 v h; exact g2 v h) (by rw [List.length_append, o3, g3, Nat.add_mul]) hv (by omega) g4 hfc (o4 w.drew rfl)
          exact wp_value q1 (hnext ρ' v w' q2 q3 q4)
        | false =>
          replace h1 := setK_some h1
          obtain ⟨h0, hk0, h1⟩ := h1
          replace h1 := setK_some h1
          obtain ⟨h', hup, h1⟩ := h1
          rw [forceN_eq] at h1
          have hf0 : Fresh h0 nx := hf.set hk0 (hf.lt hb)
          refine ⟨_, h', nx + 1, h1, hf0.new hup, Nat.le_succ _, fun ρ A w next Q hfree hh hI hnext => ?_⟩
          rw [ho] at hh
          obtain ⟨hv, hw⟩ := h2 ρ A.eval (Ev.act A) (hh.sub (by simp [Op.operands, Call.operands]))
          obtain ⟨vs, g1, g2, g3, g4, g5⟩ := hsrc ρ w _ hI hw
          simp only [VR] at hv
          obtain ⟨L, cap, hL, hv, v1, v2, v3, v4⟩ := hv
          have hnx := hfree nx (Nat.le_refl _) (Nat.lt_succ_self _)
          have hcl : cs.length = m * ie.size := by rw [← g1.length, g3]
          rw [hK hcl] at hup hT
          by_cases hc : n + m ≤ cap
          · have hmul := Nat.mul_le_mul_right ie.size hc
            rw [Nat.add_mul] at hmul
            obtain ⟨ov, o1, o2, o3, o5, o4⟩ := olds ρ w hI L hL cap
            obtain ⟨s1, s2⟩ := move_step (p := p) (q := p + n * ie.size) hI hb hL hf hnx (by rw [hol]; exact hle) (hsp hcl ρ w hI).1 (by rw [hol]) (by rw [hcl]; omega) o1 g1 g2 (hsp hcl ρ w hI).2 (by
              rcases hT with hT | ⟨hbt, hT⟩
              · exact .inl hT
              · obtain ⟨e1, e2⟩ := hkeep hbt
                rcases e2 with ⟨e3, _⟩ | ⟨e3, e4⟩
                · cases e3
                · exact .inr ⟨el, hT, e3, e4, fun v hv => e1 ρ vs g1 v hv⟩) hk0 hup
            have hfc := g5 w m rfl (Nat.le_refl _)
            rw [List.take_of_length_le (by omega)] at hfc
            have hst : (storeCells ⟨L.b, L.o + p + n * ie.size, none⟩ vs).run P w = .ok () (w.setCells L.b (L.o + p + n * ie.size) vs) := by
              have := run_storeCells_cells (P := P) L.b (L.o + p + n * ie.size) vs 0 w (fun j hj => (hI.blk hb hL).there (by omega)) (fun j hj => (hI.blk hb hL).thaw (by omega)) g2
              simpa using this
            have hrun := run_append_in (P := P) (ty := o.type) (b := L.b) (p := L.o + p) (n := n) (cap := cap) ht hu hnu hi g4 hfc hc hst
            rw [← hv] at hrun
            rw [← Nat.add_assoc] at s1 s2
            refine wp_value (run_app ho hrun) (hnext _ _ _ s1 s2 ?_)
            simp only [VR]
            exact ⟨⟨L.b, L.o + p, L.sz, L.pl⟩, cap, if_pos rfl, rfl, hc, fun h => (by cases h), by show L.o + p + 0 + cap * ie.size ≤ L.sz; omega, v4⟩
          · obtain ⟨ov, o1, o2, o3, o5, o4⟩ := olds ρ w hI L hL cap
            obtain ⟨k1, k2⟩ := kill_step (nx := nx) hI hk0
            have hfc := g5 w.drew m rfl (Nat.le_refl _)
            rw [List.take_of_length_le (by omega)] at hfc
            obtain ⟨v, w', ρ', q1, q2, q3, q4⟩ := fresh m (old ++ cs) _ n (n + m) h0 t' h' rfl b1 b2 (hsp hcl ρ w hI).2 ((hT.imp id And.right).imp id .inl) hup ρ A w cap ov vs (Ev.act A) k2 hnx (o1.append g1) (fun y hy => by rcases hT with h | ⟨h, h'⟩ <;> first | (rw [h] at hy; cases hy) | (rw [h'] at hy; cases hy))
              (fun hk v hv => by
                rcases hT with hT | ⟨hbt, _⟩
                · rw [hT] at hk; cases hk
                · rcases List.mem_append.1 hv with h | h
                  · exact o5 hbt v h
                  · exact (hkeep hbt).1 ρ vs g1 v h)
              (fun v hv => by rcases List.mem_append.1 hv with h | h; exact o2 v h; exact g2 v h) (by rw [List.length_append, o3, g3, Nat.add_mul]) hv (by omega) g4 hfc (o4 w.drew rfl)
            exact wp_value q1 (hnext ρ' v w' (k1.trans q2) q3 q4)
      cases hp0 : Nat.beq p 0 with
      | false =>
        rw [hp0] at h1
        replace h1 := readK_some h1
        obtain ⟨old, hol, hog, h1⟩ := h1
        rw [appK_eq] at h1
        replace h1 := writeK_some h1
        obtain ⟨t', ht', h1⟩ := h1
        rw [lenK_eq] at h1
        refine grow false old _ t' (fun e => by cases e) hol (fun _ => Nat.zero_add _) (fun ρ w _ => ⟨fun j hj => hog j (by omega), fun j hj => ?_⟩) h1
        rw [ht', if_pos ⟨Nat.zero_le _, by omega⟩, Nat.sub_zero]
      | true =>
        rw [hp0] at h1
        have := beq_of hp0; subst this
        obtain ⟨b, h1, hkeep⟩ := growB_some (E := E) h1
        replace h1 := writeK_some h1
        obtain ⟨t', ht', h1⟩ := h1
        rw [forceN_eq] at h1
        simp only [Nat.add_eq, Nat.mul_eq, Nat.zero_add] at ht' h1 hle
        refine grow b ((List.range (n * ie.size)).map fun j => (tr.get j).getD .nilp) _ t' (fun e => ⟨(hkeep e).1, (hkeep e).2.imp id fun e => ⟨e, rfl⟩⟩) (by simp) (fun hc => by simp [hc]) (fun ρ w hI => ?_) h1
        have hk : ∀ j, j < n * ie.size → tr.get (0 + j) = ((List.range (n * ie.size)).map fun j => (tr.get j).getD .nilp)[j]? := fun j hj => by
          obtain ⟨L, hL, c, e, z, _, _, _, q4, _⟩ := hI.at_ i N tr hb
          obtain ⟨av, v, q5, _⟩ := q4 j (by omega)
          simp [hj, q5]
        refine ⟨fun j hj => hk j (by simpa using hj), fun j hj => ?_⟩
        rw [ht']
        by_cases hjn : j < n * ie.size
        · rw [if_neg (by omega), List.getElem?_append_left (by simpa using hjn), ← hk j hjn, Nat.zero_add]
        · rw [List.length_append] at hj
          simp only [List.length_map, List.length_range] at hj
          rw [if_pos (by omega), List.getElem?_append_right (by simp; omega)]
          simp
  · cases m with
    | zero =>
      refine ⟨_, h, nx, h1, hf, Nat.le_refl _, fun ρ A w next Q _ hh hI hnext => ?_⟩
      rw [ho] at hh
      obtain ⟨hv, hw⟩ := h2 ρ A.eval (Ev.act A) (hh.sub (by simp [Op.operands, Call.operands]))
      obtain ⟨vs, g1, g2, g3, g4, g5⟩ := hsrc ρ w _ hI hw
      simp only [VR] at hv
      have hfc := g5 w 0 rfl (Nat.le_refl _)
      simp only [Nat.zero_mul, List.take_zero] at hfc
      have hrun := run_append_none (P := P) (ty := o.type) (a := none) (c := 0) ht hu hnu hi g4 hfc
      rw [← hv] at hrun
      refine wp_value (run_app ho hrun) (hnext ρ _ _ Stp.rfl' hI ?_)
      simp only [VR]
      exact hv
    | succ m' =>
      replace h1 := ifK_and h1
      obtain ⟨b1, h1⟩ := h1
      replace h1 := ifK_and h1
      obtain ⟨b2, h1⟩ := h1
      replace h1 := mkBK_some (E := E) h1
      obtain ⟨t', h', htr, hTy, hup, h1⟩ := h1
      have b1 := ble_of b1
      have b2 := ble_of b2
      simp only [Nat.mul_eq] at b1
      refine ⟨_, h', nx + 1, h1, hf.new hup, Nat.le_succ _, fun ρ A w next Q hfree hh hI hnext => ?_⟩
      rw [ho] at hh
      obtain ⟨hv, hw⟩ := h2 ρ A.eval (Ev.act A) (hh.sub (by simp [Op.operands, Call.operands]))
      obtain ⟨vs, g1, g2, g3, g4, g5⟩ := hsrc ρ w _ hI hw
      simp only [VR] at hv
      have hfc := g5 w.drew (m' + 1) rfl (Nat.le_refl _)
      rw [List.take_of_length_le (by omega)] at hfc
      obtain ⟨v, w', ρ', q1, q2, q3, q4⟩ := fresh (m' + 1) cs none 0 (m' + 1) h t' h' (by omega) b1 b2 htr ((hTy.imp id And.left).imp id .inl) hup ρ A w 0 [] vs (Ev.act A) hI (hfree nx (Nat.le_refl _) (Nat.lt_succ_self _)) (by simpa using g1) (fun y hy => by rcases hTy with h | ⟨h, _⟩ <;> (rw [h] at hy; cases hy))
        (fun hk v hv => by
          rcases hTy with hTy | ⟨_, hTy⟩
          · rw [hTy] at hk; cases hk
          · exact hTy ρ vs g1 v (by simpa using hv)) (fun v hv => g2 v (by simpa using hv)) (by simpa using g3) hv (by omega) g4 hfc (by simp [Builtin.firstCells])
      exact wp_value q1 (hnext ρ' v w' q2 q3 q4)
  · cases m with
    | zero =>
      refine ⟨_, h, nx, h1, hf, Nat.le_refl _, fun ρ A w next Q _ hh hI hnext => ?_⟩
      rw [ho] at hh
      obtain ⟨hv, hw⟩ := h2 ρ A.eval (Ev.act A) (hh.sub (by simp [Op.operands, Call.operands]))
      obtain ⟨vs, g1, g2, g3, g4, g5⟩ := hsrc ρ w _ hI hw
      simp only [VR] at hv
      obtain ⟨ad, cap, hv⟩ := hv
      have hfc := g5 w 0 rfl (Nat.le_refl _)
      simp only [Nat.zero_mul, List.take_zero] at hfc
      have hrun := run_append_none (P := P) (ty := o.type) (a := ad) (c := cap) ht hu hnu hi g4 hfc
      rw [← hv] at hrun
      refine wp_value (run_app ho hrun) (hnext ρ _ _ Stp.rfl' hI ?_)
      simp only [VR]
      exact ⟨_, _, hv⟩
    | succ m' => cases h1
theorem run_appendz_new {t u ty el : Nat} {q kq : IntKind} {i : TypeInfo} {z : Value} {base : Option Addr} {n cap m : Nat} {olds : List Value} {w : World} (ht : P.underlying t = some (.slice el)) (hu : P.underlying u = some (.int kq)) (hi : P.info? el = some i) (hz : i.zero = some z) (hm : 0 < m) (hs : 0 < i.size)
    (ho : (Builtin.firstCells i.size n (.slice base n cap)).run P w.drew = .ok olds.toArray w.drew) (hg : cap < n + m) (h63 : n + m ≤ 1000000) (hb : (n + m) * i.bytes ≤ 140737488355328) :
    (Builtin.append_ #[t, u] ty #[.slice base n cap, .int q (m : Int)]).run P w = .ok (.slice (some ⟨w.heap.size, 0, none⟩) (n + m) (grownCap w (n + m) cap el))
      (w.drew.alloc (.cells (olds.toArray ++ (Builtin.zeroCells z.cells m ++ Builtin.zeroCells z.cells (grownCap w (n + m) cap el - (n + m)))) el)) := by
  have hn : ¬ (n + m ≤ cap) := by omega
  have hw : IntKind.i64.wrap (m : Int) = m := by rw [IntKind.wrap_i64]; omega
  have h63' : ¬ (9223372036854775807 < ((n : Int) + (m : Int))) := by omega
  have hfit := growslice_fits hg hb
  have h48' : ¬ (281474976710656 < Builtin.nextslicecap (n + m) cap * i.bytes) := by omega
  have hle : m * i.bytes ≤ (n + m) * i.bytes := Nat.mul_le_mul_right _ (by omega)
  have h48i : ¬ (281474976710656 < (m : Int) * (i.bytes : Int)) := by
    rw [← Int.natCast_mul]
    omega
  have hneg : ¬ ((m : Int) < 0) := by omega
  have hns : ¬ (m * i.size = 0) := Nat.mul_ne_zero (by omega) (by omega)
  simp [Builtin.append_, run_underlying ht, run_underlying hu, sizeOf, typeInfo, zeroValue, hi, hz, asInt, asIntOf, hw, hn, hneg, hns, h63', h48', h48i, Question.forced, ho, newRow, grownCap]
theorem appz_ok {t u el : Nat} {kq : IntKind} {ie : TypeInfo} {z : Value} {zs : List AV} {x y : Operand} {c d : COpd} (ho : o.op = .call ⟨.builtin .append, #[x, y], #[t, u]⟩) (ht : P.underlying t = some (.slice el)) (hu : P.underlying u = some (.int kq))
    (hi : P.info? el = some ie) (hz : ie.zero = some z) (hsz : z.cells.size = ie.size) (hzs : ∀ ρ, VRs E ρ zs z.cells.toList) (h1c : ∀ u ∈ z.cells.toList, u.oneCell' = true) (hx : OpdOk E x c) (hy : OpdOk E y d) : EffOk P E o (.appz ie.bytes ie.size zs c d) := fun fr h nx k hk hf => by
  obtain ⟨a, b, h1, h2⟩ := opd2_some hx hy hk
  replace h1 := natK_some (E := E) h1
  obtain ⟨m, h1, hm⟩ := h1
  replace h1 := slK_some h1
  rcases h1 with ⟨i, p, n, c0, ex, es', rfl, h1⟩ | ⟨_, h1⟩ | ⟨_, h1⟩
  rotate_left
  · cases h1
  · cases h1
  replace h1 := ifK_and h1
  obtain ⟨hes, h1⟩ := h1
  have := beq_of hes; subst this
  replace h1 := ifK_and h1
  obtain ⟨hex, h1⟩ := h1
  subst hex
  replace h1 := ifK_and h1
  obtain ⟨hm0, h1⟩ := h1
  have hm0 := blt_of hm0
  replace h1 := ifK_and h1
  obtain ⟨hpos, h1⟩ := h1
  have hpos := blt_of hpos
  rw [forceN_eq] at h1
  replace h1 := ifK_and h1
  obtain ⟨hcap, h1⟩ := h1
  have hcap := blt_of hcap
  replace h1 := ifK_and h1
  obtain ⟨b1, h1⟩ := h1
  have b1 := ble_of b1
  replace h1 := ifK_and h1
  obtain ⟨b2, h1⟩ := h1
  have b2 := ble_of b2
  have h1 := repK_some h1
  replace h1 := blkK_some h1
  obtain ⟨N, tr, hb, h1⟩ := h1
  rw [forceN_eq] at h1
  replace h1 := ifK_and h1
  obtain ⟨hle, h1⟩ := h1
  have hle := ble_of hle
  replace h1 := readK_some h1
  obtain ⟨old, hol, hog, h1⟩ := h1
  rw [appK_eq] at h1
  replace h1 := mkK_some h1
  obtain ⟨t', h', htr, hup, h1⟩ := h1
  simp only [Nat.add_eq, Nat.mul_eq] at *
  refine ⟨_, h', nx + 1, h1, hf.new hup, Nat.le_succ _, fun ρ A w next Q hfree hh hI hnext => ?_⟩
  rw [ho] at hh
  obtain ⟨hv, hw⟩ := h2 ρ A.eval (Ev.act A) (hh.sub (by simp [Op.operands, Call.operands]))
  obtain ⟨q, hq⟩ := hm ρ _ hw
  simp only [VR] at hv
  obtain ⟨L, cap, hL, hv, v1, v2, v3, v4⟩ := hv
  have := v2 trivial
  subst this
  have hnx := hfree nx (Nat.le_refl _) (Nat.lt_succ_self _)
  obtain ⟨ov, o1, o2, o3⟩ := (hI.blk hb hL).row hle hol hog
  have hlen : ov.length = n * ie.size := by rw [o1.length, hol]
  have hold : (Builtin.firstCells ie.size n (.slice (some ⟨L.b, L.o + p, none⟩) n cap)).run P w.drew = .ok ov.toArray w.drew := by
    have hrun := run_loadCells (P := P) (w := w.drew) L.b (L.o + p) ov (fun j hj => by rw [World.cell?_of_block (w := w) (by rfl), o3 j hj])
    rw [hlen] at hrun
    simp [Builtin.firstCells, hrun]
  have hzc : (Builtin.zeroCells z.cells m).toList = (List.replicate m z.cells.toList).flatten := madeCells_rep z.cells (by omega) m
  have hrun := run_appendz_new (P := P) (ty := o.type) (base := some ⟨L.b, L.o + p, none⟩) (q := q) ht hu hi hz hm0 hpos hold hcap b2 b1
  have hp : Pushed w _ _ := Pushed.drew (w := w) (o := .cells (ov.toArray ++ (Builtin.zeroCells z.cells m ++ Builtin.zeroCells z.cells (grownCap w (n + m) cap el - (n + m)))) el)
  have hzl : (List.replicate m z.cells.toList).flatten.length = m * ie.size := by simp [hsz]
  have hzv := (hzs ρ).rep m
  obtain ⟨s1, s2⟩ := new_step (pl := 1) hI hp (fun k _ hk => by omega) hnx (o1.append hzv)
    (fun v hv => by
      rcases List.mem_append.1 hv with h | h
      · exact o2 v h
      · obtain ⟨r, hr, h⟩ := List.mem_flatten.1 h
        rw [(List.mem_replicate.1 hr).2] at h
        exact h1c v h)
    (fun j hj => by
      have e : Builtin.zeroCells z.cells m = (List.replicate m z.cells.toList).flatten.toArray := by apply Array.ext'; rw [hzc]
      rw [e]
      exact get_app hj) (fun j hj => by rw [htr, if_pos hj]) (TyAt.of (by rw [htr, if_neg (by omega)])) hup
  rw [← hv, ← hq] at hrun
  refine wp_value (run_app ho hrun) (hnext _ _ _ s1 s2 ?_)
  have hge := grownCap_ge w (n + m) cap el
  have hfin : 0 + 0 + grownCap w (n + m) cap el * ie.size = (ov.toArray ++ (Builtin.zeroCells z.cells m ++ Builtin.zeroCells z.cells (grownCap w (n + m) cap el - (n + m)))).size := by
    simp only [Array.size_append, List.size_toArray, zeroCells_size, hsz]
    have e1 : grownCap w (n + m) cap el = (n + m) + (grownCap w (n + m) cap el - (n + m)) := by omega
    have e2 : grownCap w (n + m) cap el * ie.size = n * ie.size + m * ie.size + (grownCap w (n + m) cap el - (n + m)) * ie.size := by rw [← Nat.add_mul, ← Nat.add_mul, ← e1]
    omega
  simp only [VR]
  exact ⟨⟨w.heap.size, 0, _, 1⟩, grownCap w (n + m) cap el, if_pos rfl, rfl, hge, fun h => (by cases h), Nat.le_of_eq hfin, fun _ => rfl, grownCap_le_maxLen w (n + m) cap el (by unfold maxLen; omega), fun _ => hfin⟩
end
end Go.Proofs.YtdnahdcjnahfkaaGreatDoor.Ev
set_option linter.unusedVariables false
set_option linter.unusedSimpArgs false
namespace Go.Proofs.YtdnahdcjnahfkaaGreatDoor.Ev
open Go

section
variable {P : Program} {E : Env} {F : Facts} {o : Oper}
theorem cpy_ok {t u el : Nat} {ie : TypeInfo} {x y : Operand} {c d : COpd} (ho : o.op = .call ⟨.builtin .copy, #[x, y], #[t, u]⟩) (ht : P.underlying t = some (.slice el)) (hi : P.info? el = some ie) (hx : OpdOk E x c) (hy : OpdOk E y d) : EffOk P E o (.cpy ie.size c d) := fun fr h nx k hk hf => by
  obtain ⟨a, b, h1, h2⟩ := opd2_some hx hy hk
  replace h1 := slK_some h1
  rcases h1 with ⟨i, p, n, c0, ex, es', rfl, h1⟩ | ⟨rfl, h1⟩ | ⟨_, h1⟩
  · replace h1 := ifK_and h1
    obtain ⟨hes, h1⟩ := h1
    have := beq_of hes; subst this
    replace h1 := ifK_and h1
    obtain ⟨hnc, h1⟩ := h1
    have hnc := ble_of hnc
    replace h1 := srcRK_some (P := P) (E := E) h1
    obtain ⟨cs, r, h1, hr, hsrc⟩ := h1
    rw [forceN_eq] at h1
    replace h1 := wrxK_some (E := E) h1
    obtain ⟨N, N', tr, tr', h', hb, hby, hpn, hn', hfr, htr, hup, h1⟩ := h1
    simp only [Nat.mul_eq] at *
    refine ⟨_, h', nx, h1, hf.set hup (hf.lt hb), Nat.le_refl _, fun ρ A w next Q _ hh hI hnext => ?_⟩
    rw [ho] at hh
    obtain ⟨hv, hw⟩ := h2 ρ A.eval (Ev.act A) (hh.sub (by simp [Op.operands, Call.operands]))
    obtain ⟨vs, m, g1, g2, g3, g4, g6, g5⟩ := hsrc ρ w _ hI hw
    simp only [VR] at hv
    obtain ⟨L, cap, hL, hv, v1, v2, v3, v4⟩ := hv
    have hfc := g5 w rfl
    have hcl : cs.length = r * ie.size := by rw [← g1.length, g3]
    have hle : r * ie.size ≤ cap * ie.size := Nat.mul_le_mul_right _ (by omega)
    obtain ⟨s1, s2⟩ := writex_step (nx := nx) hI hb hL g1 g2 hpn (by omega) (by rw [hcl]; exact hn') (by rw [hcl]; exact hfr) htr hup hby
    have hst : (storeCells ⟨L.b, L.o + p, none⟩ vs).run P w = .ok () (w.setCells L.b (L.o + p) vs) := by
      have := run_storeCells_cells (P := P) L.b (L.o + p) vs 0 w (fun j hj => (hI.blk hb hL).there (by omega)) (fun j hj => (hI.blk hb hL).thaw (by omega)) g2
      simpa using this
    refine wp_value (v := .int .i64 (Int.ofNat r)) (w' := w.setCells L.b (L.o + p) vs) ?_ (hnext ρ _ _ s1 s2 (by simp only [VR]))
    rw [run_builtin ho]
    simp only [builtin, List.map_toArray, List.map_cons, List.map_nil, hv]
    have hcp : (Builtin.copy_ #[t, u] o.type #[.slice (some ⟨L.b, L.o + p, none⟩) n cap, A.eval y]).run P w = .ok (.int .i64 (Int.ofNat r)) (w.setCells L.b (L.o + p) vs) := by
      subst g6
      simp [Builtin.copy_, run_underlying ht, g4, run_sizeOf hi, hfc, hst, goInt]
    simp [hcp]
  · replace h1 := srcRK_some (P := P) (E := E) h1
    obtain ⟨cs, r, h1, hr, hsrc⟩ := h1
    refine ⟨_, h, nx, h1, hf, Nat.le_refl _, fun ρ A w next Q _ hh hI hnext => ?_⟩
    rw [ho] at hh
    obtain ⟨hv, hw⟩ := h2 ρ A.eval (Ev.act A) (hh.sub (by simp [Op.operands, Call.operands]))
    obtain ⟨vs, m, g1, g2, g3, g4, g6, g5⟩ := hsrc ρ w _ hI hw
    simp only [VR] at hv
    have hr0 : r = 0 := by omega
    subst hr0
    have hfc := g5 w rfl
    have hvs : vs = [] := by cases vs with | nil => rfl | cons _ _ => simp at g3
    subst hvs
    refine wp_value (v := .int .i64 0) (w' := w) ?_ (hnext ρ _ _ Stp.rfl' hI (by simp only [VR]))
    rw [run_builtin ho]
    simp only [builtin, List.map_toArray, List.map_cons, List.map_nil, hv]
    have hcp : (Builtin.copy_ #[t, u] o.type #[.slice none 0 0, A.eval y]).run P w = .ok (.int .i64 0) w := by
      have : Nat.min m 0 = 0 := Nat.min_eq_right (Nat.zero_le _)
      simp [Builtin.copy_, run_underlying ht, g4, run_sizeOf hi, this, hfc, goInt]
    simp [hcp]
  · cases h1
theorem clr_ok {t el : Nat} {ie : TypeInfo} {z : Value} {x : Operand} {zs : List AV} {c : COpd} (ho : o.op = .call ⟨.builtin .clear, #[x], #[t]⟩) (ht : P.underlying t = some (.slice el)) (hi : P.info? el = some ie) (hz : ie.zero = some z) (hsz : z.cells.size = ie.size) (hpos : 0 < ie.size) (hzs : ∀ ρ, VRs E ρ zs z.cells.toList)
    (h1c : ∀ u ∈ z.cells.toList, u.oneCell' = true) (hx : OpdOk E x c) : EffOk P E o (.clr ie.size zs c) := fun fr h nx k hk hf => by
  obtain ⟨a, h1, h2⟩ := hx fr _ hk
  have none_ : k und h nx = true → (∀ ρ v, VR E ρ a v → ∃ b cc, v = .slice b 0 cc) → ∃ r h' nx', k r h' nx' = true ∧ Fresh h' nx' ∧ nx ≤ nx' ∧ OpT P E o fr h.get nx r h'.get nx' := fun h1 hv =>
    ⟨_, h, nx, h1, hf, Nat.le_refl _, fun ρ A w next Q _ hh hI hnext => by
      rw [ho] at hh
      obtain ⟨b, cc, hv⟩ := hv ρ _ (h2 ρ A.eval (Ev.act A) (hh.sub (by simp [Op.operands, Call.operands])))
      refine wp_value (v := undef) (w' := w) ?_ (hnext ρ _ _ Stp.rfl' hI vr_und)
      rw [run_builtin ho]
      simp only [builtin, List.map_toArray, List.map_cons, List.map_nil, hv]
      have hcp : (Builtin.clear_ #[t] o.type #[.slice b 0 cc]).run P w = .ok undef w := by
        cases b <;> simp [Builtin.clear_, run_underlying ht, undef]
      simp [hcp]⟩
  replace h1 := slK_some h1
  rcases h1 with ⟨i, p, n, c0, ex, es', rfl, h1⟩ | ⟨rfl, h1⟩ | ⟨rfl, h1⟩
  · replace h1 := ifK_and h1
    obtain ⟨hes, h1⟩ := h1
    have := beq_of hes; subst this
    replace h1 := repK_some h1
    replace h1 := wrK_some (E := E) h1
    obtain ⟨N, tr, tr', h', hb, hby, hfit, htr, hup, h1⟩ := h1
    simp only [Nat.mul_eq] at *
    refine ⟨_, h', nx, h1, hf.set hup (hf.lt hb), Nat.le_refl _, fun ρ A w next Q _ hh hI hnext => ?_⟩
    rw [ho] at hh
    have hv := h2 ρ A.eval (Ev.act A) (hh.sub (by simp [Op.operands, Call.operands]))
    simp only [VR] at hv
    obtain ⟨L, cap, hL, hv, v1, v2, v3⟩ := hv
    have g1 := (hzs ρ).rep n
    have g2 : ∀ u ∈ (List.replicate n z.cells.toList).flatten, u.oneCell' = true := fun u hu => by
      replace hu := List.mem_flatten.1 hu
      obtain ⟨r, hr, hu⟩ := hu
      rw [(List.mem_replicate.1 hr).2] at hu
      exact h1c u hu
    have hlen : (List.replicate n z.cells.toList).flatten.length = n * ie.size := by simp [hsz]
    obtain ⟨s1, s2⟩ := write_step (nx := nx) hI hb hL g1 g2 (by rw [← g1.length, hlen]; exact hfit) htr hup hby
    have hst := run_store_blk (P := P) (hI.blk hb hL) (p := p) (vs := (List.replicate n z.cells.toList).flatten) (by rw [hlen]; exact hfit) g2
    refine wp_value (v := undef) (w' := w.setCells L.b (L.o + p) (List.replicate n z.cells.toList).flatten) ?_ (hnext ρ _ _ s1 s2 vr_und)
    rw [run_builtin ho]
    simp only [builtin, List.map_toArray, List.map_cons, List.map_nil, hv]
    have hzc : (Builtin.zeroCells z.cells n).toList = (List.replicate n z.cells.toList).flatten := madeCells_rep z.cells (by omega) n
    have hcp : (Builtin.clear_ #[t] o.type #[.slice (some ⟨L.b, L.o + p, none⟩) n cap]).run P w = .ok undef (w.setCells L.b (L.o + p) (List.replicate n z.cells.toList).flatten) := by
      cases n with
      | zero => simp [Builtin.clear_, run_underlying ht, undef, World.setCells]
      | succ n => simp [Builtin.clear_, run_underlying ht, undef, zeroValue, typeInfo, hi, hz, hzc, hst]
    simp [hcp]
  · exact none_ h1 fun ρ v hv => by simp only [VR] at hv; exact ⟨_, _, hv⟩
  · exact none_ h1 fun ρ v hv => by simp only [VR] at hv; exact hv
end
end Go.Proofs.YtdnahdcjnahfkaaGreatDoor.Ev
namespace Go.Proofs.YtdnahdcjnahfkaaGreatDoor.Ev
open Go

/-! ### What is run -/
/-- What is called: a function's value; a method of what lies behind an interface. -/
inductive CCal where
  | val (x : COpd)
  | inv (x : COpd) (g : Nat → (Nat → Bool) → Bool)
inductive COp where
  | p (x : POp)
  | r (x : ROp)
  | a (x : AOp)
  | e (x : EOp)
  | call (f : CCal) (xs : List COpd)
inductive COper where
  | mk (dst : Option Nat) (g : Option (Nat × Bool)) (op : COp)
/-- Such an operation of a region that draws: its number; a mask of the reads that are done again behind it. -/
inductive DOper where
  | mk (dst : Option Nat) (g : Option (Nat × Bool)) (op : COp) (ix am : Nat)
inductive CCode where
  | skip
  | reg (l : List COper)
  | drg (l : List DOper)
  | seq (a b : CCode)
  | cond (x : COpd) (a b : CCode)
  | block (i : Nat) (b : CCode)
  | loop (b : CCode)
  | exit (i : Nat)
  | ret
inductive CRes where
  | tmp (t : Nat)
  | c1 (t : Nat)
  | cn (n t : Nat)
abbrev KV := AV → T Blk → Nat → Bool
abbrev CallF := Nat → List AV → T Blk → Nat → KV → Bool
inductive FnE where
  | code (n : Nat) (rs : List CRes) (c : CCode)
  | orc (g : List AV → T Blk → Nat → KV → Bool)
  | mix (g : (List AV → T Blk → Nat → KV → Bool) → List AV → T Blk → Nat → KV → Bool) (n : Nat) (rs : List CRes) (c : CCode)
/-- How code ends. -/
inductive CX where
  | norm
  | exit (i : Nat)
  | ret
abbrev KX := CX → T AV → T Blk → Nat → Bool
abbrev KF := T AV → T Blk → Nat → Bool

/-! ### how -/
noncomputable def cP (F : Facts) (x : POp) (fr : T AV) (h : T Blk) (nx : Nat) (k : KV) : Bool := pureK F x fr fun v => k v h nx
noncomputable def cR (x : ROp) (fr : T AV) (h : T Blk) (nx : Nat) (k : KV) : Bool := readOp x fr h fun v => k v h nx
noncomputable def cA (x : AOp) (fr : T AV) (h : T Blk) (nx : Nat) (k : KV) : Bool := allocOp x fr fun f cs => mkFK f cs h nx fun h nx' => k (afAV f nx) h nx'
noncomputable def calK (fr : T AV) (c : CCal) (k : Nat → List AV → List AV → Bool) : Bool :=
  @CCal.rec (fun _ => Bool) (fun x => opdK fr (fun v => fnK v fun g a b => fnFuncK g fun i => k i a b) x) (fun x g => opdK fr (fun v => ifcK v (fun t u => g t fun i => k i [u] []) false) x) c
noncomputable def cC (call : CallF) (f : CCal) (xs : List COpd) (fr : T AV) (h : T Blk) (nx : Nat) (k : KV) : Bool :=
  calK fr f fun i a b => opdsK fr xs fun as => appK as b fun as => appK a as fun as => call i as h nx k
noncomputable def opK (F : Facts) (call : CallF) (c : COp) : T AV → T Blk → Nat → KV → Bool := @COp.rec (fun _ => T AV → T Blk → Nat → KV → Bool) (cP F) cR cA effOp (cC call) c
noncomputable def putK (v : AV) (fr : T AV) (k : T AV → Bool) (d : Option Nat) : Bool := @Option.rec Nat (fun _ => Bool) (k fr) (fun d => setK v 40 fr d k) d
/-- A guard's answer; what was not wanted itself answers nothing. -/
noncomputable def boolUK (x : AV) (k : Bool → Bool) (u : Bool) : Bool :=
  @AV.rec (fun _ => (Bool → Bool) → Bool → Bool) (fun _ => Bool) (fun b k _ => k b) (fun _ _ _ _ => false) (fun _ _ _ _ => false) (fun _ _ _ _ => false) (fun _ _ _ => false) (fun _ _ _ _ => false) (fun _ _ => false) (fun _ _ _ => false) (fun _ _ _ _ _ _ _ _ => false) (fun _ _ => false) (fun _ _ => false) (fun _ _ _ _ _ _ _ => false) (fun _ _ => false) (fun _ _ _ _ _ => false) (fun _ _ => false) (fun _ _ _ _ => false) (fun _ _ _ u => u) (fun _ _ => false) (fun _ _ _ _ => false) true (fun _ _ _ _ => true) x k u
theorem boolUK_some {x : AV} {k : Bool → Bool} {u : Bool} (h : boolUK x k u = true) : (∃ b, x = .bool b ∧ k b = true) ∨ ((∃ l, x = .tup l) ∧ u = true) := by
  cases x <;> first | exact .inl ⟨_, rfl, h⟩ | exact .inr ⟨⟨_, rfl⟩, h⟩ | cases h
noncomputable def guardK (fr : T AV) (yes no : Bool) (g : Option (Nat × Bool)) : Bool := @Option.rec (Nat × Bool) (fun _ => Bool) yes (fun p => getK (fun v => boolUK v (fun b => @Bool.rec (fun _ => Bool) (@Bool.rec (fun _ => Bool) yes no p.2) (@Bool.rec (fun _ => Bool) no yes p.2) b) no) fr p.1) g
noncomputable def operK (F : Facts) (call : CallF) (d : Option Nat) (g : Option (Nat × Bool)) (c : COp) (fr : T AV) (h : T Blk) (nx : Nat) (k : KF) : Bool :=
  guardK fr (opK F call c fr h nx fun v h nx => putK v fr (fun fr => k fr h nx) d) (putK und fr (fun fr => k fr h nx) d) g
noncomputable def regK (F : Facts) (call : CallF) (l : List COper) : T AV → T Blk → Nat → KF → Bool :=
  @List.rec COper (fun _ => T AV → T Blk → Nat → KF → Bool) (fun fr h nx k => k fr h nx) (fun o _ ih fr h nx k => @COper.rec (fun _ => Bool) (fun d g c => operK F call d g c fr h nx fun fr h nx => ih fr h nx k) o) l

/-! ### Are two values the same? -/
noncomputable def natsEq (k : Bool) (l : List Nat) : List Nat → Bool := @List.rec Nat (fun _ => List Nat → Bool) (fun m => @List.rec Nat (fun _ => Bool) k (fun _ _ _ => false) m) (fun x _ ih m => @List.rec Nat (fun _ => Bool) false (fun y ys _ => ifK (Nat.beq x y) (ih ys) false) m) l
noncomputable def intEq (k : Bool) (q : IntKind) (n : Int) (b : AV) : Bool := intK b fun q' m => ifK (kindEq q q') (ifK (beqI n m) k false) false
noncomputable def ptrEq (k : Bool) (i o : Nat) (b : AV) : Bool := ptrK b fun j p => ifK (Nat.beq i j) (ifK (Nat.beq o p) k false) false
noncomputable def strEq (k : Bool) (s : List Nat) (b : AV) : Bool := strK b fun t => natsEq k s t
noncomputable def nilN (b : AV) (k : Nat → Bool) : Bool :=
  @AV.casesOn (fun _ => Bool) b (fun _ => false) (fun _ _ => false) (fun _ _ => false) (fun _ _ => false) (fun _ => false) (fun _ _ => false) (k 0) (fun _ => false) (fun _ _ _ _ _ _ => false) (k 1) (k 4) (fun _ _ _ => false) (k 2) (fun _ _ => false) (k 3) (fun _ => false) (fun _ => false) false (fun _ _ => false)
noncomputable def isNil (k : Bool) (n : Nat) (b : AV) : Bool := nilN b fun m => ifK (Nat.beq n m) k false
noncomputable def boolEq (k : Bool) (x : Bool) (b : AV) : Bool := boolK b fun y => @Bool.rec (fun _ => Bool) (@Bool.rec (fun _ => Bool) k false y) (@Bool.rec (fun _ => Bool) false k y) x
noncomputable def symEq (k : Bool) (q : IntKind) (i : Nat) (b : AV) : Bool := numK b (fun _ _ => false) (fun q' j => ifK (kindEq q q') (ifK (Nat.beq i j) k false) false) (fun _ _ => false)
noncomputable def slEq (k : Bool) (i o n c : Nat) (ex : Bool) (es : Nat) (b : AV) : Bool :=
  slK b (fun i' o' n' c' ex' es' => ifK (Nat.beq i i') (ifK (Nat.beq o o') (ifK (Nat.beq n n') (ifK (Nat.beq c c') (ifK (Nat.beq es es') (@Bool.rec (fun _ => Bool) (@Bool.rec (fun _ => Bool) k false ex') (@Bool.rec (fun _ => Bool) false k ex') ex) false) false) false) false) false) false false
noncomputable def av0Eq (k : Bool) (a b : AV) : Bool :=
  @AV.casesOn (fun _ => Bool) a (fun _ => false) (fun q n => intEq k q n b) (fun _ _ => false) (fun _ _ => false) (fun s => strEq k s b) (fun i o => ptrEq k i o b) false (fun _ => false) (fun _ _ _ _ _ _ => false) false false (fun _ _ _ => false) false (fun _ _ => false) false (fun _ => false) (fun _ => false) false (fun _ _ => false)
noncomputable def ifcEq (k : Bool) (t : Nat) (v b : AV) : Bool := ifcK b (fun u w => ifK (Nat.beq t u) (av0Eq k v w) false) false
noncomputable def av1Eq (k : Bool) (a b : AV) : Bool :=
  @AV.casesOn (fun _ => Bool) a (fun x => boolEq k x b) (fun q n => intEq k q n b) (fun q i => symEq k q i b) (fun _ _ => false) (fun s => strEq k s b) (fun i o => ptrEq k i o b) (isNil k 0 b) (fun _ => false) (fun i o n c ex es => slEq k i o n c ex es b) (isNil k 1 b) (isNil k 4 b) (fun _ _ _ => false) (isNil k 2 b) (fun t v => ifcEq k t v b) (isNil k 3 b) (fun _ => false) (fun _ => false) false (fun _ _ => false)
noncomputable def avsEq (k : Bool) (l : List AV) : List AV → Bool := @List.rec AV (fun _ => List AV → Bool) (fun m => @List.rec AV (fun _ => Bool) k (fun _ _ _ => false) m) (fun x _ ih m => @List.rec AV (fun _ => Bool) false (fun y ys _ => av1Eq (ih ys) x y) m) l
noncomputable def avEq (k : Bool) (a b : AV) : Bool :=
  @AV.casesOn (fun _ => Bool) a (fun _ => av1Eq k a b) (fun _ _ => av1Eq k a b) (fun _ _ => av1Eq k a b) (fun _ _ => false) (fun _ => av1Eq k a b) (fun _ _ => av1Eq k a b) (av1Eq k a b) (fun _ => false) (fun _ _ _ _ _ _ => av1Eq k a b) (av1Eq k a b) (av1Eq k a b) (fun _ _ _ => false) (av1Eq k a b) (fun _ _ => av1Eq k a b) (av1Eq k a b) (fun l => aggK b fun m => avsEq k l m) (fun _ => false) false (fun _ _ => false)

theorem natsEq_some {k : Bool} : ∀ {l m : List Nat}, natsEq k l m = true → l = m ∧ k = true
  | [], [], h => ⟨rfl, h⟩
  | [], _ :: _, h => by cases h
  | _ :: _, [], h => by cases h
  | x :: l, y :: m, h => by
    obtain ⟨h1, h2⟩ := ifK_and (t := natsEq k l m) h
    obtain ⟨h3, h4⟩ := natsEq_some h2
    have := beq_of h1; subst this; subst h3
    exact ⟨rfl, h4⟩
theorem intEq_some {k : Bool} {q : IntKind} {n : Int} {b : AV} (h : intEq k q n b = true) : AV.int q n = b ∧ k = true := by
  replace h := intK_some (x := b) (k := fun q' m => ifK (kindEq q q') (ifK (beqI n m) k false) false) h
  obtain ⟨q', m, rfl, h⟩ := h
  obtain ⟨h1, h2⟩ := ifK_and h
  obtain ⟨h3, h4⟩ := ifK_and h2
  have := kindEq_of h1; subst this
  rw [beqI_eq] at h3
  have := of_decide_eq_true h3; subst this
  exact ⟨rfl, h4⟩
theorem ptrEq_some {k : Bool} {i o : Nat} {b : AV} (h : ptrEq k i o b = true) : AV.ptr i o = b ∧ k = true := by
  replace h := ptrK_some (x := b) (k := fun j p => ifK (Nat.beq i j) (ifK (Nat.beq o p) k false) false) h
  obtain ⟨j, p, rfl, h⟩ := h
  obtain ⟨h1, h2⟩ := ifK_and h
  obtain ⟨h3, h4⟩ := ifK_and h2
  have := beq_of h1; subst this
  have := beq_of h3; subst this
  exact ⟨rfl, h4⟩
theorem strEq_some {k : Bool} {s : List Nat} {b : AV} (h : strEq k s b = true) : AV.str s = b ∧ k = true := by
  replace h := strK_some (x := b) (k := fun t => natsEq k s t) h
  obtain ⟨t, rfl, h⟩ := h
  replace h := natsEq_some h
  obtain ⟨rfl, h⟩ := h
  exact ⟨rfl, h⟩
theorem isNil_some {k : Bool} {n : Nat} {b : AV} (h : isNil k n b = true) : k = true ∧ ((n = 0 ∧ b = .nilp) ∨ (n = 1 ∧ b = .nils) ∨ (n = 2 ∧ b = .nilf) ∨ (n = 3 ∧ b = .nili) ∨ (n = 4 ∧ b = .empt)) := by
  have go : ∀ m, ifK (Nat.beq n m) k false = true → k = true ∧ n = m := fun m h => by obtain ⟨h1, h2⟩ := ifK_and h; exact ⟨h2, beq_of h1⟩
  cases b with
  | nilp => obtain ⟨h1, h2⟩ := go 0 h; exact ⟨h1, .inl ⟨h2, rfl⟩⟩
  | nils => obtain ⟨h1, h2⟩ := go 1 h; exact ⟨h1, .inr (.inl ⟨h2, rfl⟩)⟩
  | nilf => obtain ⟨h1, h2⟩ := go 2 h; exact ⟨h1, .inr (.inr (.inl ⟨h2, rfl⟩))⟩
  | nili => obtain ⟨h1, h2⟩ := go 3 h; exact ⟨h1, .inr (.inr (.inr (.inl ⟨h2, rfl⟩)))⟩
  | empt => obtain ⟨h1, h2⟩ := go 4 h; exact ⟨h1, .inr (.inr (.inr (.inr ⟨h2, rfl⟩)))⟩
  | _ => cases h
theorem av0Eq_some {k : Bool} {a b : AV} (h : av0Eq k a b = true) : a = b ∧ k = true := by
  cases a with
  | int q n => exact intEq_some h
  | str s => exact strEq_some h
  | ptr i o => exact ptrEq_some h
  | _ => cases h
theorem av1Eq_some {k : Bool} {a b : AV} (h : av1Eq k a b = true) : a = b ∧ k = true := by
  cases a with
  | bool x =>
    replace h := boolK_some (x := b) (k := fun y => @Bool.rec (fun _ => Bool) (@Bool.rec (fun _ => Bool) k false y) (@Bool.rec (fun _ => Bool) false k y) x) h
    obtain ⟨y, rfl, h⟩ := h
    cases x <;> cases y <;> first | exact ⟨rfl, h⟩ | cases h
  | int q n => exact intEq_some h
  | sym q i =>
    replace h := numK_some (x := b) (k := fun _ _ => false) (s := fun q' j => ifK (kindEq q q') (ifK (Nat.beq i j) k false) false) (q := fun _ _ => false) h
    rcases h with ⟨_, _, _, h⟩ | ⟨q', j, rfl, h⟩ | ⟨_, _, _, h⟩
    · cases h
    · obtain ⟨h1, h2⟩ := ifK_and h
      obtain ⟨h3, h4⟩ := ifK_and h2
      have := kindEq_of h1; subst this
      have := beq_of h3; subst this
      exact ⟨rfl, h4⟩
    · cases h
  | str s => exact strEq_some h
  | ptr i o => exact ptrEq_some h
  | nilp => obtain ⟨h1, h2⟩ := isNil_some (n := 0) h; rcases h2 with ⟨_, h2⟩ | ⟨h2, _⟩ | ⟨h2, _⟩ | ⟨h2, _⟩ | ⟨h2, _⟩ <;> first | exact ⟨h2.symm, h1⟩ | cases h2
  | nils => obtain ⟨h1, h2⟩ := isNil_some (n := 1) h; rcases h2 with ⟨h2, _⟩ | ⟨_, h2⟩ | ⟨h2, _⟩ | ⟨h2, _⟩ | ⟨h2, _⟩ <;> first | exact ⟨h2.symm, h1⟩ | cases h2
  | nilf => obtain ⟨h1, h2⟩ := isNil_some (n := 2) h; rcases h2 with ⟨h2, _⟩ | ⟨h2, _⟩ | ⟨_, h2⟩ | ⟨h2, _⟩ | ⟨h2, _⟩ <;> first | exact ⟨h2.symm, h1⟩ | cases h2
  | nili => obtain ⟨h1, h2⟩ := isNil_some (n := 3) h; rcases h2 with ⟨h2, _⟩ | ⟨h2, _⟩ | ⟨h2, _⟩ | ⟨_, h2⟩ | ⟨h2, _⟩ <;> first | exact ⟨h2.symm, h1⟩ | cases h2
  | empt => obtain ⟨h1, h2⟩ := isNil_some (n := 4) h; rcases h2 with ⟨h2, _⟩ | ⟨h2, _⟩ | ⟨h2, _⟩ | ⟨h2, _⟩ | ⟨_, h2⟩ <;> first | exact ⟨h2.symm, h1⟩ | cases h2
  | sl i o n c ex es =>
    replace h := slK_some (x := b) (k := fun i' o' n' c' ex' es' => ifK (Nat.beq i i') (ifK (Nat.beq o o') (ifK (Nat.beq n n') (ifK (Nat.beq c c') (ifK (Nat.beq es es') (@Bool.rec (fun _ => Bool) (@Bool.rec (fun _ => Bool) k false ex') (@Bool.rec (fun _ => Bool) false k ex') ex) false) false) false) false) false) (nil := false) (em := false) h
    rcases h with ⟨i', o', n', c', ex', es', rfl, h⟩ | ⟨_, h⟩ | ⟨_, h⟩
    · replace h := ifK_and h
      obtain ⟨h1, h⟩ := h
      replace h := ifK_and h
      obtain ⟨h2, h⟩ := h
      replace h := ifK_and h
      obtain ⟨h3, h⟩ := h
      replace h := ifK_and h
      obtain ⟨h4, h⟩ := h
      replace h := ifK_and h
      obtain ⟨h5, h⟩ := h
      have := beq_of h1; subst this
      have := beq_of h2; subst this
      have := beq_of h3; subst this
      have := beq_of h4; subst this
      have := beq_of h5; subst this
      cases ex <;> cases ex' <;> first | exact ⟨rfl, h⟩ | cases h
    · cases h
    · cases h
  | ifc t v =>
    replace h := ifcK_some (x := b) (k := fun u w => ifK (Nat.beq t u) (av0Eq k v w) false) (nil := false) h
    rcases h with ⟨u, w, rfl, h⟩ | ⟨_, h⟩
    · obtain ⟨h1, h2⟩ := ifK_and h
      obtain ⟨h3, h4⟩ := av0Eq_some h2
      have := beq_of h1; subst this; subst h3
      exact ⟨rfl, h4⟩
    · cases h
  | _ => cases h
theorem avsEq_some {k : Bool} : ∀ {l m : List AV}, avsEq k l m = true → l = m ∧ k = true
  | [], [], h => ⟨rfl, h⟩
  | [], _ :: _, h => by cases h
  | _ :: _, [], h => by cases h
  | x :: l, y :: m, h => by
    obtain ⟨h1, h2⟩ := av1Eq_some (k := avsEq k l m) (a := x) (b := y) h
    obtain ⟨h3, h4⟩ := avsEq_some h2
    subst h1; subst h3
    exact ⟨rfl, h4⟩
theorem avEq_some {k : Bool} {a b : AV} (h : avEq k a b = true) : a = b ∧ k = true := by
  cases a with
  | agg l =>
    replace h := aggK_some (x := b) (k := fun m => avsEq k l m) h
    obtain ⟨m, rfl, h⟩ := h
    replace h := avsEq_some h
    obtain ⟨rfl, h⟩ := h
    exact ⟨rfl, h⟩
  | opq => cases h
  | glob => cases h
  | fn => cases h
  | tup => cases h
  | _ => exact av1Eq_some h

/-! ### A region that draws -/
abbrev Reads := List (Nat × T AV × AV × ROp)
/-- What was read, and might be read behind this, is read again. -/
noncomputable def againK (am : Nat) (h : T Blk) (k : Bool) (rl : Reads) : Bool :=
  @List.rec (Nat × T AV × AV × ROp) (fun _ => Bool) k (fun e _ ih => @Bool.rec (fun _ => Bool) ih (readOp e.2.2.2 e.2.1 h fun v => avEq ih e.2.2.1 v) (Nat.testBit am e.1)) rl
abbrev KD := T AV → T Blk → Nat → Reads → Bool
noncomputable def dP (F : Facts) (x : POp) (d : Option Nat) (fr : T AV) (h : T Blk) (nx : Nat) (rl : Reads) (k : KD) : Bool := pureK F x fr fun v => putK v fr (fun fr => k fr h nx rl) d
noncomputable def dR (ix : Nat) (x : ROp) (d : Option Nat) (fr : T AV) (h : T Blk) (nx : Nat) (rl : Reads) (k : KD) : Bool := readOp x fr h fun v => putK v fr (fun fr' => k fr' h nx ((ix, fr, v, x) :: rl)) d
noncomputable def dA (x : AOp) (d : Option Nat) (fr : T AV) (h : T Blk) (nx : Nat) (rl : Reads) (k : KD) : Bool := allocOp x fr fun f cs => mkFK f cs h nx fun h nx' => putK (afAV f nx) fr (fun fr => k fr h nx' rl) d
noncomputable def dE (am : Nat) (x : EOp) (d : Option Nat) (fr : T AV) (h : T Blk) (nx : Nat) (rl : Reads) (k : KD) : Bool := effOp x fr h nx fun v h nx => againK am h (putK v fr (fun fr => k fr h nx rl) d) rl
noncomputable def dC (call : CallF) (am : Nat) (f : CCal) (xs : List COpd) (d : Option Nat) (fr : T AV) (h : T Blk) (nx : Nat) (rl : Reads) (k : KD) : Bool := cC call f xs fr h nx fun v h nx => againK am h (putK v fr (fun fr => k fr h nx rl) d) rl
noncomputable def dOp (F : Facts) (call : CallF) (ix am : Nat) (c : COp) : Option Nat → T AV → T Blk → Nat → Reads → KD → Bool :=
  @COp.rec (fun _ => Option Nat → T AV → T Blk → Nat → Reads → KD → Bool) (dP F) (dR ix) dA (dE am) (dC call am) c
noncomputable def doperK (F : Facts) (call : CallF) (d : Option Nat) (g : Option (Nat × Bool)) (c : COp) (ix am : Nat) (fr : T AV) (h : T Blk) (nx : Nat) (rl : Reads) (k : KD) : Bool :=
  guardK fr (dOp F call ix am c d fr h nx rl k) (putK und fr (fun fr => k fr h nx rl) d) g
noncomputable def drgK (F : Facts) (call : CallF) (l : List DOper) : T AV → T Blk → Nat → Reads → KF → Bool :=
  @List.rec DOper (fun _ => T AV → T Blk → Nat → Reads → KF → Bool) (fun fr h nx _ k => k fr h nx) (fun o _ ih fr h nx rl k => @DOper.rec (fun _ => Bool) (fun d g c ix am => doperK F call d g c ix am fr h nx rl fun fr h nx rl => ih fr h nx rl k) o) l
end Go.Proofs.YtdnahdcjnahfkaaGreatDoor.Ev
set_option linter.unusedVariables false
set_option linter.unusedSimpArgs false
namespace Go.Proofs.YtdnahdcjnahfkaaGreatDoor.Ev
open Go

/-- The frame of an activation. -/
structure AInv (E : Env) (ρ : Nat → Option Loc) (N : Nat) (fr : Nat → AV → Prop) (a : Act) : Prop where
  defers : a.defers = []
  size : a.tmps.size = N
  at_ : ∀ t av, fr t av → t < N ∧ VR E ρ av (a.tmps.getD t undef)
def frOf (fr : T AV) : Nat → AV → Prop := fun t av => fr.get t = some av

/-- What was found, operation by operation, in one order. Classes: 0 looks at no memory, 1 reads, 2 makes a block, 3 may do anything. -/
structure Found where
  n : Nat
  ix : Nat → Nat
  cl : Nat → Nat
  v : Nat → AV
  dst : Nat → Option Nat
  fr : Nat → T AV
  h : Nat → T Blk
  nx : Nat → Nat
  blk : Nat → Blk
  rd : Nat → Nat → Prop
  dep : Nat → Nat → Prop

/-- The slots that the operation looks at hold what the tree says. -/
def Look (E : Env) (ρ : Nat → Option Loc) (fr : T AV) (rd : Nat → Prop) (a : Act) : Prop := ∀ t, rd t → ∀ av, fr.get t = some av → t < a.tmps.size ∧ VR E ρ av (a.tmps.getD t undef)

section
variable (P : Program) (E : Env) (ops : Array Oper) (Q : Exit → Act → World → Prop) (X : Found)
/-- It reads this in any world of which H is known. -/
def Found.reads (q : Nat) (H : Heap) : Prop := ∀ ρ a w (K : Act → World → Prop), Look E ρ (X.fr q) (X.rd q) a → Inv E ρ H w → (∀ u, VR E ρ (X.v q) u → K (a.put (X.dst q) u) w) → wpOp P ops Q (X.ix q) K a w
def Found.pures (q : Nat) : Prop := ∀ ρ a w (K : Act → World → Prop), Look E ρ (X.fr q) (X.rd q) a → (∀ u, VR E ρ (X.v q) u → K (a.put (X.dst q) u) w) → wpOp P ops Q (X.ix q) K a w
def Found.makes (q : Nat) : Prop := ∀ ρ a w (K : Act → World → Prop), Look E ρ (X.fr q) (X.rd q) a → (∀ u w' c el z m t pl, Pushed w w' (.cells c el z) → (∀ k, k < c.size + pl → ¬ (z.1 ≤ k ∧ k < z.2)) → X.blk q = .live m t →
    (∀ j, j < m → ∃ av v, t.get j = some av ∧ c[j]? = some v ∧ VR E ρ av v ∧ v.oneCell' = true) → TyAt E (t.get (m + 7)) m 0 c.size c el z → (∀ ρ', Ext ρ ρ' → ρ' (X.nx q) = some ⟨w.heap.size, 0, c.size, pl⟩ → VR E ρ' (X.v q) u) → K (a.put (X.dst q) u) w') → wpOp P ops Q (X.ix q) K a w
def Found.acts (q : Nat) : Prop := ∀ ρ a w (K : Act → World → Prop), (∀ i, X.nx q ≤ i → i < X.nx (q + 1) → ρ i = none) → Look E ρ (X.fr q) (X.rd q) a → Inv E ρ (X.h q).get w →
    (∀ ρ' u w', Stp ρ (X.h q).get w (X.nx q) ρ' (X.h (q + 1)).get w' (X.nx (q + 1)) → Inv E ρ' (X.h (q + 1)).get w' → VR E ρ' (X.v q) u → K (a.put (X.dst q) u) w') → wpOp P ops Q (X.ix q) K a w

/-- What is asked of it. -/
structure Found.Ok : Prop where
  size : X.n = ops.size
  ixlt : ∀ q, q < X.n → X.ix q < ops.size
  dsts : ∀ q, q < X.n → ∀ t, X.dst q = some t → True
  onto : ∀ i, i < ops.size → ∃ q, q < X.n ∧ X.ix q = i
  inj : ∀ q q', q < X.n → q' < X.n → X.ix q = X.ix q' → q = q'
  topo : ∀ q o, q < X.n → ops[X.ix q]? = some o → ∀ e ∈ o.after, Region.binds .any e = true → ∃ q', q' < q ∧ X.ix q' = e.on
  deps : ∀ q q' o, q < X.n → q' < X.n → X.dep q q' → ops[X.ix q']? = some o → ∀ listed : Array Bool, (∀ j oj, ops[j]? = some oj → listed.getD j false = true → ∀ e ∈ oj.after, Region.binds .any e = true → listed.getD e.on false = true) →
    (∀ e ∈ o.after, Region.binds .any e = true → listed.getD e.on false = true) → listed.getD (X.ix q) false = true
  ww : ∀ q q' t, q < q' → q' < X.n → X.dst q = some t → (X.rd q' t ∨ X.dst q' = some t) → X.dep q q'
  rw_ : ∀ q q' t, q < q' → q' < X.n → X.dst q' = some t → X.rd q t → X.dep q q'
  cls : ∀ q, q < X.n → X.cl q ≤ 3
  cc : ∀ q q', q < q' → q' < X.n → (X.cl q = 2 ∨ X.cl q = 3) → (X.cl q' = 3 ∨ X.cl q' = 1) → X.dep q q'
  frs : ∀ q t, q < X.n → (X.fr (q + 1)).get t = if X.dst q = some t then some (X.v q) else (X.fr q).get t
  keep : ∀ q, q < X.n → X.cl q < 2 → X.h (q + 1) = X.h q ∧ X.nx (q + 1) = X.nx q
  make : ∀ q, q < X.n → X.cl q = 2 → Upd (X.h q) (X.nx q) (X.blk q) (X.h (q + 1)) ∧ X.nx (q + 1) = X.nx q + 1 ∧ ∃ m t, X.blk q = .live m t
  up : ∀ q, q < X.n → X.nx q ≤ X.nx (q + 1)
  fresh : ∀ q, q ≤ X.n → Fresh (X.h q) (X.nx q)
  p0 : ∀ q, q < X.n → X.cl q = 0 → X.pures P E ops Q q
  p1 : ∀ q, q < X.n → X.cl q = 1 → X.reads P E ops Q q (X.h q).get
  p1' : ∀ q q', q < q' → q' < X.n → X.cl q = 1 → X.cl q' = 3 → ¬ X.dep q q' → X.reads P E ops Q q (X.h (q' + 1)).get
  p2 : ∀ q, q < X.n → X.cl q = 2 → X.makes P E ops Q q
  p3 : ∀ q, q < X.n → X.cl q = 3 → X.acts P E ops Q q
end

section
variable {P : Program} {E : Env} {ops : Array Oper} {Q : Exit → Act → World → Prop} {X : Found}
theorem Found.nx_le (hX : X.Ok P E ops Q) : ∀ {p q : Nat}, p ≤ q → q ≤ X.n → X.nx p ≤ X.nx q := by
  intro p q hpq hq
  induction q with
  | zero => rw [show p = 0 from by omega]; exact Nat.le_refl _
  | succ q ih =>
    rcases Nat.lt_or_ge p (q + 1) with h | h
    · exact Nat.le_trans (ih (by omega) (by omega)) (hX.up q (by omega))
    · rw [show p = q + 1 from by omega]; exact Nat.le_refl _
/-- From p to q nothing but blocks were made. -/
theorem Found.between (hX : X.Ok P E ops Q) {p : Nat} : ∀ {q : Nat}, p ≤ q → q ≤ X.n → (∀ q', p ≤ q' → q' < q → X.cl q' ≠ 3) → ∀ id b, (X.h q).get id = some b → (X.h p).get id = some b ∨ ∃ q', p ≤ q' ∧ q' < q ∧ X.cl q' = 2 ∧ id = X.nx q' ∧ b = X.blk q' := by
  intro q hpq hq hno id b hb
  induction q with
  | zero => left; rwa [show p = 0 from by omega]
  | succ q ih =>
    rcases Nat.lt_or_ge p (q + 1) with h | h
    · have hc := hX.cls q (by omega)
      have h3 := hno q (by omega) (by omega)
      have go : (X.h q).get id = some b → (X.h p).get id = some b ∨ ∃ q', p ≤ q' ∧ q' < q + 1 ∧ X.cl q' = 2 ∧ id = X.nx q' ∧ b = X.blk q' := fun hb => by
        rcases ih (by omega) (by omega) (fun q' h1 h2 => hno q' h1 (by omega)) hb with h | ⟨q', h1, h2, h3⟩
        · exact .inl h
        · exact .inr ⟨q', h1, by omega, h3⟩
      by_cases h2 : X.cl q = 2
      · obtain ⟨hu, _, _⟩ := hX.make q (by omega) h2
        rw [hu] at hb
        split at hb
        · rename_i e; injection hb with hb; exact .inr ⟨q, by omega, by omega, h2, e, hb.symm⟩
        · exact go hb
      · rw [(hX.keep q (by omega) (by omega)).1] at hb; exact go hb
    · left; rwa [show p = q + 1 from by omega]

/-- Of what is done: what a slot holds. -/
def Found.FrIs (X : Found) (S : Nat → Prop) (t : Nat) (av : AV) : Prop :=
  (∃ q, q < X.n ∧ S q ∧ X.dst q = some t ∧ X.v q = av ∧ ∀ q', q' < X.n → S q' → X.dst q' = some t → q' ≤ q) ∨ ((∀ q, q < X.n → S q → X.dst q ≠ some t) ∧ (X.fr 0).get t = some av)
theorem Found.fr_is (hX : X.Ok P E ops Q) : ∀ {q : Nat}, q ≤ X.n → ∀ t av, (X.fr q).get t = some av → X.FrIs (fun q' => q' < q) t av := by
  intro q hq t av hav
  induction q with
  | zero => exact .inr ⟨fun q' _ h => absurd h (Nat.not_lt_zero _), hav⟩
  | succ q ih =>
    rw [hX.frs q t (by omega)] at hav
    split at hav
    · rename_i e
      injection hav with hav
      exact .inl ⟨q, by omega, Nat.lt_succ_self _, e, hav, fun q' _ h _ => by omega⟩
    · rename_i e
      rcases ih (by omega) hav with ⟨q1, h1, h2, h3, h4, h5⟩ | ⟨h1, h2⟩
      · refine .inl ⟨q1, h1, by omega, h3, h4, fun q' a b c => ?_⟩
        by_cases hqq : q' = q
        · subst hqq; exact absurd c e
        · exact h5 q' a (by omega) c
      · refine .inr ⟨fun q' a b c => ?_, h2⟩
        by_cases hqq : q' = q
        · subst hqq; exact e c
        · exact h1 q' a (by omega) c

/-- Where a walk through the region stands: S is done, p is behind the last deed. -/
structure Stand (E : Env) (X : Found) (N : Nat) (ρ0 : Nat → Option Loc) (w0 : World) (S : Nat → Prop) (a : Act) (w : World) : Prop where
  go : ∃ (ρ : Nat → Option Loc) (p : Nat) (K : Heap), p ≤ X.n ∧ (∀ q, q < X.n → S q → X.cl q = 3 → q < p) ∧ (p = 0 ∨ ∃ e, p = e + 1 ∧ e < X.n ∧ X.cl e = 3 ∧ S e) ∧
    (∀ id m t, K id = some (.live m t) ↔ ((X.h p).get id = some (.live m t) ∨ ∃ q, q < X.n ∧ S q ∧ X.cl q = 2 ∧ p ≤ q ∧ id = X.nx q ∧ X.blk q = .live m t)) ∧
    Stp ρ0 (X.h 0).get w0 (X.nx 0) ρ K w (X.nx X.n) ∧ Inv E ρ K w ∧ (∀ q, q < X.n → ¬ S q → ∀ id, X.nx q ≤ id → id < X.nx (q + 1) → ρ id = none) ∧ AInv E ρ N (X.FrIs S) a

theorem AInv.put {ρ ρ' : Nat → Option Loc} {N : Nat} {S : Nat → Prop} {q : Nat} {a : Act} {u : Value} (hX : X.Ok P E ops Q) (hA : AInv E ρ N (X.FrIs S) a) (hx : Ext ρ ρ') (hq : q < X.n) (hd : ∀ t, X.dst q = some t → t < N) (hlast : ∀ q', q' < X.n → S q' → ∀ t, X.dst q = some t → X.dst q' = some t → q' < q) (hu : VR E ρ' (X.v q) u) :
    AInv E ρ' N (X.FrIs fun q' => S q' ∨ q' = q) (a.put (X.dst q) u) := by
  have hold : ∀ t av, X.FrIs S t av → t < N ∧ VR E ρ' av (a.tmps.getD t undef) := fun t av h => ⟨(hA.at_ t av h).1, (hA.at_ t av h).2.ext hx⟩
  cases hdst : X.dst q with
  | none =>
    refine ⟨hA.defers, hA.size, fun t av h => hold t av ?_⟩
    rcases h with ⟨q1, h1, h2, h3, h4, h5⟩ | ⟨h1, h2⟩
    · rcases h2 with h2 | rfl
      · exact .inl ⟨q1, h1, h2, h3, h4, fun q' a b c => h5 q' a (.inl b) c⟩
      · rw [hdst] at h3; cases h3
    · exact .inr ⟨fun q' a b => h1 q' a (.inl b), h2⟩
  | some d =>
    have hdN := hd d hdst
    refine ⟨hA.defers, by simp [Act.put, hA.size], fun t av h => ?_⟩
    by_cases htd : t = d
    · subst htd
      have hav : av = X.v q := by
        rcases h with ⟨q1, h1, h2, h3, h4, h5⟩ | ⟨h1, _⟩
        · rcases h2 with h2 | rfl
          · have := h5 q hq (.inr rfl) hdst
            have := hlast q1 h1 h2 t hdst h3
            omega
          · exact h4.symm
        · exact absurd hdst (h1 q hq (.inr rfl))
      subst hav
      refine ⟨hdN, ?_⟩
      have : t < a.tmps.size := by rw [hA.size]; exact hdN
      simpa [Act.put, this] using hu
    · have h0 : X.FrIs S t av := by
        rcases h with ⟨q1, h1, h2, h3, h4, h5⟩ | ⟨h1, h2⟩
        · rcases h2 with h2 | rfl
          · exact .inl ⟨q1, h1, h2, h3, h4, fun q' a b c => h5 q' a (.inl b) c⟩
          · rw [hdst] at h3; injection h3 with h3; exact absurd h3.symm htd
        · exact .inr ⟨fun q' a b => h1 q' a (.inl b), h2⟩
      refine ⟨(hold t av h0).1, ?_⟩
      have := (hold t av h0).2
      simpa [Act.put, Array.getElem?_setIfInBounds, Ne.symm htd] using this
end
end Go.Proofs.YtdnahdcjnahfkaaGreatDoor.Ev
namespace Go.Proofs.YtdnahdcjnahfkaaGreatDoor.Ev
open Go

section
variable {P : Program} {E : Env} {ops : Array Oper} {Q : Exit → Act → World → Prop} {X : Found} {N : Nat} {ρ0 : Nat → Option Loc} {w0 : World}

theorem stand_step (hX : X.Ok P E ops Q) (hdN : ∀ q t, q < X.n → X.dst q = some t → t < N) {listed : Array Bool} {q : Nat} {a : Act} {w : World}
    (hcl : ∀ j oj, ops[j]? = some oj → listed.getD j false = true → ∀ e ∈ oj.after, Region.binds .any e = true → listed.getD e.on false = true) (hq : q < X.n) (hr : X.ix q ∈ Region.ready .any ops listed)
    (hS : Stand E X N ρ0 w0 (fun q' => listed.getD (X.ix q') false = true) a w) : wpOp P ops Q (X.ix q) (Stand E X N ρ0 w0 fun q' => listed.getD (X.ix q') false = true ∨ q' = q) a w := by
  obtain ⟨ρ, p, K, hp, hlast, hpe, hK, hst, hI, hfree, hA⟩ := hS.go
  obtain ⟨hun, o, ho, hdirect⟩ := mem_ready.1 hr
  have notS : ¬ (listed.getD (X.ix q) false = true) := fun h => by
    rcases Nat.lt_or_ge (X.ix q) listed.size with h' | h'
    · simp [h'] at h hun; rw [h] at hun; cases hun
    · simp [Array.getElem?_eq_none h'] at hun
  have ready : ∀ q', q' < X.n → X.dep q' q → listed.getD (X.ix q') false = true := fun q' h1 h2 => hX.deps q' q o h1 hq h2 ho listed hcl hdirect
  have closed : ∀ q1 q2, q1 < X.n → q2 < X.n → X.dep q1 q2 → listed.getD (X.ix q2) false = true → listed.getD (X.ix q1) false = true := fun q1 q2 h1 h2 h3 h4 => by
    have hlt := hX.ixlt q2 h2
    exact hX.deps q1 q2 ops[X.ix q2] h1 h2 h3 (Array.getElem?_eq_getElem hlt) listed hcl (hcl _ _ (Array.getElem?_eq_getElem hlt) h4)
  have notdep : ∀ q', q' < X.n → listed.getD (X.ix q') false = true → ¬ X.dep q q' := fun q' h1 h2 h3 => notS (closed q q' hq h1 h3 h2)
  -- what its operands hold
  have look : Look E ρ (X.fr q) (X.rd q) a := by
    intro t ht av hav
    have hsz := hA.size
    rw [hsz]
    refine hA.at_ t av ?_
    have below : ∀ q', q' < X.n → listed.getD (X.ix q') false = true → X.dst q' = some t → q' < q := fun q' h1 h2 h3 => by
      rcases Nat.lt_trichotomy q' q with h | h | h
      · exact h
      · subst h; exact absurd h2 notS
      · exact absurd (hX.rw_ q q' t h h1 h3 ht) (notdep q' h1 h2)
    rcases Found.fr_is hX (Nat.le_of_lt hq) t av hav with ⟨q1, h1, h2, h3, h4, h5⟩ | ⟨h1, h2⟩
    · exact .inl ⟨q1, h1, ready q1 h1 (hX.ww q1 q t h2 hq h3 (.inl ht)), h3, h4, fun q' b c d => h5 q' b (below q' b c d) d⟩
    · exact .inr ⟨fun q' b c d => h1 q' b (below q' b c d) d, h2⟩
  have last : ∀ q', q' < X.n → listed.getD (X.ix q') false = true → ∀ t, X.dst q = some t → X.dst q' = some t → q' < q := fun q' h1 h2 t h3 h4 => by
    rcases Nat.lt_trichotomy q' q with h | h | h
    · exact h
    · subst h; exact absurd h2 notS
    · exact absurd (hX.ww q q' t h h1 h3 (.inr h4)) (notdep q' h1 h2)
  have put : ∀ {ρ' : Nat → Option Loc} {u : Value}, Ext ρ ρ' → VR E ρ' (X.v q) u → AInv E ρ' N (X.FrIs fun q' => listed.getD (X.ix q') false = true ∨ q' = q) (a.put (X.dst q) u) := fun hx hu => AInv.put hX hA hx hq (fun t => hdN q t hq) last hu
  have free' : ∀ q', q' < X.n → ¬ (listed.getD (X.ix q') false = true ∨ q' = q) → ∀ id, X.nx q' ≤ id → id < X.nx (q' + 1) → ρ id = none := fun q' h1 h2 => hfree q' h1 fun h => h2 (.inl h)
  -- an operation that leaves memory as it was
  have quiet : X.cl q < 2 → ∀ u, VR E ρ (X.v q) u → Stand E X N ρ0 w0 (fun q' => listed.getD (X.ix q') false = true ∨ q' = q) (a.put (X.dst q) u) w := fun hc u hu =>
    ⟨ρ, p, K, hp, fun q' h1 h2 h3 => by
      rcases h2 with h2 | rfl
      · exact hlast q' h1 h2 h3
      · omega,
    hpe.imp id (fun ⟨e, h1, h2, h3, h4⟩ => ⟨e, h1, h2, h3, .inl h4⟩),
    fun id m t => by
      rw [hK]
      constructor
      · rintro (h | ⟨q', h1, h2, h3⟩)
        · exact .inl h
        · exact .inr ⟨q', h1, .inl h2, h3⟩
      · rintro (h | ⟨q', h1, h2, h3, h4⟩)
        · exact .inl h
        · rcases h2 with h2 | rfl
          · exact .inr ⟨q', h1, h2, h3, h4⟩
          · omega,
    hst, hI, free', put (Ext.refl ρ) hu⟩
  -- where q stands behind p nothing but blocks were made between
  have above : (∀ q', q' < q → q' < X.n → X.cl q' = 3 → X.dep q' q) → p ≤ q → (∀ q', p ≤ q' → q' < q → X.cl q' = 2 → X.dep q' q) → Less (X.h q).get K := fun h1 h2 h3 id m t hb => by
    rw [hK]
    have hno : ∀ q', p ≤ q' → q' < q → X.cl q' ≠ 3 := fun q' a b c => by
      have := hlast q' (by omega) (ready q' (by omega) (h1 q' b (by omega) c)) c
      omega
    rcases Found.between hX h2 (Nat.le_of_lt hq) hno id _ hb with h | ⟨q', a, b, c, d, e⟩
    · exact .inl h
    · exact .inr ⟨q', by omega, ready q' (by omega) (h3 q' a b c), c, a, d, e.symm⟩
  have base : Less (X.h p).get K := fun id m t hb => by rw [hK]; exact .inl hb
  have hc := hX.cls q hq
  rcases (by omega : X.cl q = 0 ∨ X.cl q = 1 ∨ X.cl q = 2 ∨ X.cl q = 3) with h0 | h1 | h2 | h3
  · exact hX.p0 q hq h0 ρ a w _ look (quiet (by omega))
  · rcases Nat.lt_or_ge q p with hlt | hge
    · rcases hpe with rfl | ⟨e, rfl, he, hce, hSe⟩
      · omega
      · have hne : q ≠ e := fun h => by subst h; omega
        exact hX.p1' q e (by omega) he h1 hce (notdep e he hSe) ρ a w _ look (hI.less base) (quiet (by omega))
    · exact hX.p1 q hq h1 ρ a w _ look (hI.less (above (fun q' b c d => hX.cc q' q b hq (.inr d) (.inr h1)) hge fun q' _ b c => hX.cc q' q b hq (.inl c) (.inr h1))) (quiet (by omega))
  · have hge : p ≤ q := by
      rcases Nat.lt_or_ge q p with hlt | hge
      · rcases hpe with rfl | ⟨e, rfl, he, hce, hSe⟩
        · omega
        · have hne : q ≠ e := fun h => by subst h; omega
          exact absurd (hX.cc q e (by omega) he (.inl h2) (.inl hce)) (notdep e he hSe)
      · exact hge
    obtain ⟨hu, hnx, m0, t0, hblk⟩ := hX.make q hq h2
    refine hX.p2 q hq h2 ρ a w _ look fun u w' c el z m t pl hp' hz hb hcells hT hv => ?_
    have hρ : ρ (X.nx q) = none := hfree q hq notS _ (Nat.le_refl _) (by omega)
    -- no block has that number yet
    have hno : ∀ m t, ¬ K (X.nx q) = some (.live m t) := fun m t h => by
      obtain ⟨L, hL, _⟩ := hI.at_ _ _ _ h
      rw [hρ] at hL; cases hL
    let K' : Heap := fun j => if j = X.nx q then some (X.blk q) else K j
    have e1 : ∀ j, j ≠ X.nx q → K' j = K j := fun j hj => by simp [K', hj]
    have e2 : K' (X.nx q) = some (.live m t) := by simp [K', hb]
    have hext : Ext ρ (ρset ρ (X.nx q) ⟨w.heap.size, 0, c.size, pl⟩) := ρset_ext hρ
    have s1 := Stp.push (pl := pl) (H := K) (H' := K') hp' hρ e1 e2
    refine ⟨ρset ρ (X.nx q) ⟨w.heap.size, 0, c.size, pl⟩, p, K', hp, fun q' a1 a2 a3 => ?_, hpe.imp id (fun ⟨e, h1, h2, h3, h4⟩ => ⟨e, h1, h2, h3, .inl h4⟩), fun id m' t' => ?_, ?_, hI.push hp' hz hρ e1 e2 hcells hT, fun q' a1 a2 id a3 a4 => ?_, put hext (hv _ hext (by simp [ρset]))⟩
    · rcases a2 with a2 | rfl
      · exact hlast q' a1 a2 a3
      · omega
    · by_cases hid : id = X.nx q
      · subst hid
        rw [e2]
        constructor
        · intro h; injection h with h
          exact .inr ⟨q, hq, .inr rfl, h2, hge, rfl, by rw [hb]; exact h⟩
        · rintro (h | ⟨q', b1, b2, b3, b4, b5, b6⟩)
          · exact absurd (base _ _ _ h) (hno m' t')
          · rcases b2 with b2 | rfl
            · exact absurd ((hK _ _ _).2 (.inr ⟨q', b1, b2, b3, b4, b5, b6⟩)) (hno m' t')
            · rw [← hb, b6]
      · rw [e1 id hid, hK]
        constructor
        · rintro (h | ⟨q', b1, b2, b3⟩)
          · exact .inl h
          · exact .inr ⟨q', b1, .inl b2, b3⟩
        · rintro (h | ⟨q', b1, b2, b3, b4, b5, b6⟩)
          · exact .inl h
          · rcases b2 with b2 | rfl
            · exact .inr ⟨q', b1, b2, b3, b4, b5, b6⟩
            · exact absurd b5 hid
    · have up1 := Found.nx_le hX (Nat.zero_le q) (Nat.le_of_lt hq)
      have up2 := Found.nx_le hX hq (Nat.le_refl X.n)
      rw [hnx] at up2
      exact ⟨hst.le, hst.free, fun i hi => by rw [s1.same i (by omega), hst.same i hi], s1.os.trans hst.os, s1.tape.trans hst.tape, s1.output.trans hst.output, Nat.le_trans hst.size s1.size,
        fun b hb0 hn => (s1.keep b (Nat.lt_of_lt_of_le hb0 hst.size) fun i n' t' L hi hL hLb => by
          rcases hst.own i n' t' L hi hL with h | ⟨j, m', u', M, h3, h4, h5⟩
          · omega
          · exact hn j m' u' M h3 h4 (h5.trans hLb)).trans (hst.keep b hb0 hn),
        fun i n' t' L hi hL => by
          rcases s1.own i n' t' L hi hL with h | ⟨j, m', u', M, h3, h4, h5⟩
          · exact .inl (Nat.le_trans hst.size h)
          · rcases hst.own j m' u' M h3 h4 with h | ⟨j', m'', u'', M', h6, h7, h8⟩
            · exact .inl (by omega)
            · exact .inr ⟨j', m'', u'', M', h6, h7, h8.trans h5⟩⟩
    · have hne : id ≠ X.nx q := by
        rcases Nat.lt_trichotomy q' q with h | h | h
        · have := Found.nx_le hX (p := q' + 1) (q := q) h (Nat.le_of_lt hq); omega
        · exact absurd (.inr h) a2
        · have := Found.nx_le hX (p := q + 1) (q := q') h (Nat.le_of_lt a1); omega
      unfold ρset; rw [if_neg hne]
      exact free' q' a1 a2 id a3 a4
  · have hge : p ≤ q := by
      rcases Nat.lt_or_ge q p with hlt | hge
      · rcases hpe with rfl | ⟨e, rfl, he, hce, hSe⟩
        · omega
        · have hne : q ≠ e := fun h => by subst h; exact notS hSe
          exact absurd (hX.cc q e (by omega) he (.inr h3) (.inl hce)) (notdep e he hSe)
      · exact hge
    have hless : Less (X.h q).get K := above (fun q' b c d => hX.cc q' q b hq (.inr d) (.inl h3)) hge fun q' _ b c => hX.cc q' q b hq (.inl c) (.inl h3)
    refine hX.p3 q hq h3 ρ a w _ (hfree q hq notS) look (hI.less hless) fun ρ' u w' s1 hI' hv => ?_
    have hext := s1.ext
    have up := hX.up q hq
    -- the blocks made early, which stay as they are
    have early : ∀ q', q' < X.n → listed.getD (X.ix q') false = true → X.cl q' = 2 → q + 1 ≤ q' → ∀ m t, X.blk q' = .live m t → K (X.nx q') = some (.live m t) ∧ X.nx (q + 1) ≤ X.nx q' := fun q' b1 b2 b3 b4 m t b5 =>
      ⟨(hK _ _ _).2 (.inr ⟨q', b1, b2, b3, by omega, rfl, b5⟩), Found.nx_le hX b4 (Nat.le_of_lt b1)⟩
    let K' : Heap := fun j => @ite _ (∃ q', q' < X.n ∧ listed.getD (X.ix q') false = true ∧ X.cl q' = 2 ∧ q + 1 ≤ q' ∧ j = X.nx q') (Classical.propDecidable _) (K j) ((X.h (q + 1)).get j)
    have k1 : ∀ j m t, K' j = some (.live m t) ↔ ((X.h (q + 1)).get j = some (.live m t)) ∨ ∃ q', q' < X.n ∧ (listed.getD (X.ix q') false = true ∨ q' = q) ∧ X.cl q' = 2 ∧ q + 1 ≤ q' ∧ j = X.nx q' ∧ X.blk q' = .live m t := fun j m t => by
      by_cases hj : ∃ q', q' < X.n ∧ listed.getD (X.ix q') false = true ∧ X.cl q' = 2 ∧ q + 1 ≤ q' ∧ j = X.nx q'
      · have : K' j = K j := if_pos hj
        rw [this]
        obtain ⟨q', b1, b2, b3, b4, rfl⟩ := hj
        obtain ⟨_, _, m1, t1, b5⟩ := hX.make q' b1 b3
        obtain ⟨c1, c2⟩ := early q' b1 b2 b3 b4 m1 t1 b5
        rw [c1]
        constructor
        · intro h; injection h with h
          exact .inr ⟨q', b1, .inl b2, b3, b4, rfl, by rw [b5]; exact h⟩
        · rintro (h | ⟨q2, d1, d2, d3, d4, d5, d6⟩)
          · rw [hX.fresh (q + 1) (by omega) _ c2] at h; cases h
          · rcases d2 with d2 | rfl
            · have := (early q2 d1 d2 d3 d4 m t d6).1
              rw [← d5, c1] at this; exact this
            · omega
      · have : K' j = (X.h (q + 1)).get j := if_neg hj
        rw [this]
        constructor
        · exact .inl
        · rintro (h | ⟨q2, d1, d2, d3, d4, d5, d6⟩)
          · exact h
          · rcases d2 with d2 | rfl
            · exact absurd ⟨q2, d1, d2, d3, d4, d5⟩ hj
            · omega
    -- of such a block: it lies elsewhere, and is as it was
    have apart : ∀ q', q' < X.n → listed.getD (X.ix q') false = true → X.cl q' = 2 → q + 1 ≤ q' → ∀ m t, X.blk q' = .live m t → ∃ L, ρ (X.nx q') = some L ∧ ρ' (X.nx q') = some L ∧ L.b < w.heap.size ∧ BlkAt E ρ' w' L m t ∧
        ∀ i n' t' M, (X.h q).get i = some (.live n' t') → ρ i = some M → M.b ≠ L.b := fun q' b1 b2 b3 b4 m t b5 => by
      obtain ⟨c1, c2⟩ := early q' b1 b2 b3 b4 m t b5
      obtain ⟨L, hL, hB⟩ := hI.at_ _ _ _ c1
      have hne : ∀ i n' t' M, (X.h q).get i = some (.live n' t') → ρ i = some M → M.b ≠ L.b := fun i n' t' M hi hM => by
        refine hI.inj i (X.nx q') n' t' m t (hless _ _ _ hi) c1 (fun e => ?_) M L hM hL
        rw [e, hX.fresh q (Nat.le_of_lt hq) _ (by omega)] at hi; cases hi
      refine ⟨L, hL, hext _ _ hL, hB.lt, (hB.ext hext).same (s1.keep L.b hB.lt hne), hne⟩
    refine ⟨ρ', q + 1, K', hq, fun q' a1 a2 a3 => ?_, .inr ⟨q, rfl, hq, h3, .inr rfl⟩, k1, ?_, ⟨fun i n' t' hi => ?_, fun i j n' t' m' u' hi hj hne L M hL hM => ?_⟩, fun q' a1 a2 id a3 a4 => ?_, put hext hv⟩
    · rcases a2 with a2 | rfl
      · have := hlast q' a1 a2 a3; omega
      · omega
    · have up1 := Found.nx_le hX (Nat.zero_le q) (Nat.le_of_lt hq)
      have up2 : X.nx (q + 1) ≤ X.nx X.n := Found.nx_le hX hq (Nat.le_refl X.n)
      have image : ∀ i n' t' L, K i = some (.live n' t') → ρ i = some L → w0.heap.size ≤ L.b ∨ ∃ j m u M, (X.h 0).get j = some (.live m u) ∧ ρ0 j = some M ∧ M.b = L.b := hst.own
      refine ⟨hst.le, hst.free, fun i hi => by rw [s1.same i (by omega), hst.same i hi], s1.os.trans hst.os, s1.tape.trans hst.tape, s1.output.trans hst.output, Nat.le_trans hst.size s1.size, fun b hb0 hn => ?_, fun i n' t' L hi hL => ?_⟩
      · refine (s1.keep b (Nat.lt_of_lt_of_le hb0 hst.size) fun i n' t' L hi hL hLb => ?_).trans (hst.keep b hb0 hn)
        rcases image i n' t' L (hless _ _ _ hi) hL with h | ⟨j, m', u', M, h3, h4, h5⟩
        · omega
        · exact hn j m' u' M h3 h4 (h5.trans hLb)
      · rcases (k1 i n' t').1 hi with hi | ⟨q', d1, d2, d3, d4, rfl, d6⟩
        · rcases s1.own i n' t' L hi hL with h | ⟨j, m', u', M, h3, h4, h5⟩
          · exact .inl (Nat.le_trans hst.size h)
          · rcases image j m' u' M (hless _ _ _ h3) h4 with h | ⟨j', m'', u'', M', h6, h7, h8⟩
            · exact .inl (by omega)
            · exact .inr ⟨j', m'', u'', M', h6, h7, h8.trans h5⟩
        · rcases d2 with d2 | rfl
          · obtain ⟨L0, e1, e2, e3, _, _⟩ := apart q' d1 d2 d3 d4 n' t' d6
            rw [e2] at hL; injection hL with hL; subst hL
            exact image _ _ _ _ (early q' d1 d2 d3 d4 n' t' d6).1 e1
          · omega
    · rcases (k1 i n' t').1 hi with hi | ⟨q', d1, d2, d3, d4, rfl, d6⟩
      · exact hI'.at_ i n' t' hi
      · rcases d2 with d2 | rfl
        · obtain ⟨L0, e1, e2, e3, e4, _⟩ := apart q' d1 d2 d3 d4 n' t' d6
          exact ⟨L0, e2, e4⟩
        · omega
    · -- two blocks are two
      have one : ∀ i j n' t' m' u' L M, (X.h (q + 1)).get i = some (.live n' t') → (∃ q', q' < X.n ∧ listed.getD (X.ix q') false = true ∧ X.cl q' = 2 ∧ q + 1 ≤ q' ∧ j = X.nx q' ∧ X.blk q' = .live m' u') → ρ' i = some L → ρ' j = some M → L.b ≠ M.b := by
        rintro i _ n' t' m' u' L M hi ⟨q', d1, d2, d3, d4, rfl, d6⟩ hL hM
        obtain ⟨L0, e1, e2, e3, e4, e5⟩ := apart q' d1 d2 d3 d4 m' u' d6
        rw [e2] at hM; injection hM with hM; subst hM
        rcases s1.own i n' t' L hi hL with h | ⟨j, m'', u'', M', h3, h4, h5⟩
        · omega
        · rw [← h5]; exact e5 j m'' u'' M' h3 h4
      rcases (k1 i n' t').1 hi with hi' | ⟨q1, c1, c2, c3, c4, c5, c6⟩
      · rcases (k1 j m' u').1 hj with hj' | ⟨q2, d1, d2, d3, d4, d5, d6⟩
        · exact hI'.inj i j n' t' m' u' hi' hj' hne L M hL hM
        · rcases d2 with d2 | rfl
          · exact one i j n' t' m' u' L M hi' ⟨q2, d1, d2, d3, d4, d5, d6⟩ hL hM
          · omega
      · rcases c2 with c2 | rfl
        · rcases (k1 j m' u').1 hj with hj' | ⟨q2, d1, d2, d3, d4, d5, d6⟩
          · exact Ne.symm (one j i m' u' n' t' M L hj' ⟨q1, c1, c2, c3, c4, c5, c6⟩ hM hL)
          · rcases d2 with d2 | rfl
            · subst c5; subst d5
              obtain ⟨L0, e1, e2, _, _, _⟩ := apart q1 c1 c2 c3 c4 n' t' c6
              obtain ⟨M0, f1, f2, _, _, _⟩ := apart q2 d1 d2 d3 d4 m' u' d6
              rw [e2] at hL; injection hL with hL; subst hL
              rw [f2] at hM; injection hM with hM; subst hM
              exact hI.inj _ _ n' t' m' u' (early q1 c1 c2 c3 c4 n' t' c6).1 (early q2 d1 d2 d3 d4 m' u' d6).1 hne _ _ e1 f1
            · omega
        · omega
    · rw [s1.same id (by
        rcases Nat.lt_trichotomy q' q with h | h | h
        · have := Found.nx_le hX (p := q' + 1) (q := q) h (Nat.le_of_lt hq); omega
        · exact absurd (.inr h) a2
        · have := Found.nx_le hX (p := q + 1) (q := q') h (Nat.le_of_lt a1); omega)]
      exact free' q' a1 a2 id a3 a4

theorem FrIs.all (hX : X.Ok P E ops Q) {S : Nat → Prop} (hS : ∀ q, q < X.n → S q) {t : Nat} {av : AV} (h : (X.fr X.n).get t = some av) : X.FrIs S t av := by
  rcases Found.fr_is hX (Nat.le_refl _) t av h with ⟨q, h1, h2, h3, h4, h5⟩ | ⟨h1, h2⟩
  · exact .inl ⟨q, h1, hS q h1, h3, h4, fun q' a _ c => h5 q' a a c⟩
  · exact .inr ⟨fun q a _ => h1 q a a, h2⟩
/-- Whatever order is drawn: at its end the world is as it was found. -/
theorem found_any (hX : X.Ok P E ops Q) (hdN : ∀ q t, q < X.n → X.dst q = some t → t < N)
    (hQ : ∀ ρ' a' w', Stp ρ0 (X.h 0).get w0 (X.nx 0) ρ' (X.h X.n).get w' (X.nx X.n) → AInv E ρ' N (frOf (X.fr X.n)) a' → Inv E ρ' (X.h X.n).get w' → Q .normal a' w') :
    ∀ (fuel : Nat) (listed : Array Bool) (a : Act) (w : World), listed.size = ops.size → ops.size - fuel ≤ (listed.toList.filter id).length → (∀ j oj, ops[j]? = some oj → listed.getD j false = true → ∀ e ∈ oj.after, Region.binds .any e = true → listed.getD e.on false = true) →
      Stand E X N ρ0 w0 (fun q => listed.getD (X.ix q) false = true) a w → wpAny P .any ops Q fuel listed a w := by
  -- where nothing is ready all is done
  have fin : ∀ (listed : Array Bool) (a : Act) (w : World), listed.size = ops.size → Region.ready .any ops listed = [] → Stand E X N ρ0 w0 (fun q => listed.getD (X.ix q) false = true) a w → Q .normal a w := by
    intro listed a w hsz hr hS
    have all : ∀ q, q < X.n → listed.getD (X.ix q) false = true := by
      intro q
      induction q using Nat.strongRecOn with
      | ind q ih =>
        intro hq
        have hlt := hX.ixlt q hq
        have hget := Array.getElem?_eq_getElem hlt
        cases hb : listed.getD (X.ix q) false with
        | true => rfl
        | false =>
          exfalso
          have : X.ix q ∈ Region.ready .any ops listed := mem_ready.2 ⟨by simp [hsz, hlt] at hb ⊢; exact hb, _, hget, fun e he hbd => by
            obtain ⟨q', h1, h2⟩ := hX.topo q _ hq hget e he hbd
            rw [← h2]; exact ih q' h1 (by omega)⟩
          rw [hr] at this; cases this
    obtain ⟨ρ, p, K, hp, hlast, hpe, hK, hst, hI, hfree, hA⟩ := hS.go
    have hless : Less (X.h X.n).get K := fun id m t hb => by
      rw [hK]
      rcases Found.between hX hp (Nat.le_refl _) (fun q' h1 h2 h3 => by have := hlast q' h2 (all q' h2) h3; omega) id _ hb with h | ⟨q', h1, h2, h3, h4, h5⟩
      · exact .inl h
      · exact .inr ⟨q', h2, all q' h2, h3, h1, h4, h5.symm⟩
    exact hQ ρ a w ⟨hst.le, hst.free, hst.same, hst.os, hst.tape, hst.output, hst.size, hst.keep, fun i n t L hi hL => hst.own i n t L (hless _ _ _ hi) hL⟩ ⟨hA.defers, hA.size, fun t av h => hA.at_ t av (FrIs.all hX all h)⟩ (hI.less hless)
  intro fuel
  induction fuel with
  | zero =>
    intro listed a w hsz hn hcl hS
    have hall : ∀ j, j < ops.size → listed.getD j true = true := by
      intro j hj
      have hlen : (listed.toList.filter id).length = listed.toList.length := by
        have := List.length_filter_le id listed.toList
        simp only [Array.length_toList] at *
        omega
      have := List.length_filter_eq_length_iff.1 hlen
      have hj' : j < listed.size := by omega
      have := this listed[j] (by simp)
      simpa [hj'] using this
    have hr : Region.ready .any ops listed = [] := by
      cases h : Region.ready .any ops listed with
      | nil => rfl
      | cons j r =>
        have hj : j ∈ Region.ready .any ops listed := by rw [h]; exact List.mem_cons_self
        obtain ⟨h1, o, h2, _⟩ := mem_ready.1 hj
        rw [hall j (Array.getElem?_eq_some_iff.1 h2).1] at h1; cases h1
    exact ⟨hr, fin listed a w hsz hr hS⟩
  | succ fuel ih =>
    intro listed a w hsz hn hcl hS
    refine ⟨fun hr => fin listed a w hsz hr hS, fun i hi => ?_⟩
    obtain ⟨hun, o, ho, hall⟩ := mem_ready.1 hi
    have hlt : i < ops.size := (Array.getElem?_eq_some_iff.1 ho).1
    obtain ⟨q, hq, rfl⟩ := hX.onto i hlt
    refine wpOp_mono (fun a' w' h' => ?_) (stand_step hX hdN hcl hq hi hS)
    refine ih _ a' w' (by simpa using hsz) ?_ ?_ ?_
    · have hlt' : X.ix q < listed.size := by omega
      have hf : listed[X.ix q] = false := by simpa [hlt'] using hun
      have hc : ((listed.setIfInBounds (X.ix q) true).toList.filter id).length = (listed.toList.filter id).length + 1 := by
        rw [Array.toList_setIfInBounds]
        have key : ∀ (l : List Bool) (j : Nat), l[j]? = some false → ((l.set j true).filter id).length = (l.filter id).length + 1 := by
          intro l
          induction l with
          | nil => intro j h; simp at h
          | cons b l ih =>
            intro j h
            cases j with
            | zero => simp at h; subst h; simp
            | succ j =>
              have := ih j (by simpa using h)
              cases b <;> simp [this]
        exact key _ _ (by simp [hlt', hf])
      omega
    · intro j oj hj hl e he hb
      by_cases hij : X.ix q = j
      · subst hij
        have : oj = o := Option.some.inj (hj.symm.trans ho)
        subst this
        exact getD_set_true (hall e he hb)
      · rw [getD_set_ne false hij] at hl
        exact getD_set_true (hcl j oj hj hl e he hb)
    · have hset : ∀ q', q' < X.n → ((listed.setIfInBounds (X.ix q) true).getD (X.ix q') false = true ↔ (listed.getD (X.ix q') false = true ∨ q' = q)) := fun q' hq' => by
        by_cases hqq : q' = q
        · subst hqq
          have hlt' : X.ix q' < listed.size := by omega
          simp [hlt']
        · have hne : X.ix q ≠ X.ix q' := fun e => hqq (hX.inj q' q hq' hq e.symm)
          rw [getD_set_ne false hne]
          simp [hqq]
      obtain ⟨ρ, p, K, hp, hlast, hpe, hK, hst, hI, hfree, hA⟩ := h'.go
      refine ⟨ρ, p, K, hp, fun q' a1 a2 a3 => hlast q' a1 ((hset q' a1).1 a2) a3, hpe.imp id (fun ⟨e, h1, h2, h3, h4⟩ => ⟨e, h1, h2, h3, (hset e h2).2 h4⟩), fun id m t => ?_, hst, hI, fun q' a1 a2 => hfree q' a1 fun h => a2 ((hset q' a1).2 h), ⟨hA.defers, hA.size, fun t av h => hA.at_ t av ?_⟩⟩
      · rw [hK]
        constructor
        · rintro (h | ⟨q', h1, h2, h3⟩)
          · exact .inl h
          · exact .inr ⟨q', h1, (hset q' h1).2 h2, h3⟩
        · rintro (h | ⟨q', h1, h2, h3⟩)
          · exact .inl h
          · exact .inr ⟨q', h1, (hset q' h1).1 h2, h3⟩
      · rcases h with ⟨q1, h1, h2, h3, h4, h5⟩ | ⟨h1, h2⟩
        · exact .inl ⟨q1, h1, (hset q1 h1).1 h2, h3, h4, fun q' a b c => h5 q' a ((hset q' a).2 b) c⟩
        · exact .inr ⟨fun q' a b => h1 q' a ((hset q' a).2 b), h2⟩
end
end Go.Proofs.YtdnahdcjnahfkaaGreatDoor.Ev
namespace Go.Proofs.YtdnahdcjnahfkaaGreatDoor.Ev
open Go

/-- What a contract says: it returns, a value and a world of which this holds. -/
def Ret (Φ : Value → World → Prop) : Ending → World → Prop := fun e w' => ∃ v, e = .returned v ∧ Φ v w'
/-- A call's contract, as the evaluator knows it. -/
def CallT (P : Program) (E : Env) (f : Nat) (as : List AV) (H : Heap) (nx : Nat) (r : AV) (H' : Heap) (nx' : Nat) : Prop :=
  ∀ ρ w vs, (∀ i, nx ≤ i → i < nx' → ρ i = none) → Inv E ρ H w → VRs E ρ as vs → Calls P f vs.toArray w (Ret fun v w' => ∃ ρ', Stp ρ H w nx ρ' H' w' nx' ∧ Inv E ρ' H' w' ∧ VR E ρ' r v)
def FnHas (P : Program) (f : Nat) : Prop := ∃ fn, P.funcs[f]? = some fn ∧ fn.body.isSome = true ∧ (fn.name == "runtime.NumGoroutine") = false
/-- A function that has no body here, and answers at once. -/
def CallV (P : Program) (E : Env) (f : Nat) (as : List AV) (H : Heap) (nx : Nat) (r : AV) (H' : Heap) (nx' : Nat) : Prop :=
  ∀ ρ w vs, (∀ i, nx ≤ i → i < nx' → ρ i = none) → Inv E ρ H w → VRs E ρ as vs → ∃ v w' ρ', (callFunc f vs.toArray).run P w = .ok (.value v) w' ∧ Stp ρ H w nx ρ' H' w' nx' ∧ Inv E ρ' H' w' ∧ VR E ρ' r v
def CallR (P : Program) (E : Env) (f : Nat) (as : List AV) (H : Heap) (nx : Nat) (r : AV) (H' : Heap) (nx' : Nat) : Prop := (FnHas P f ∧ CallT P E f as H nx r H' nx') ∨ CallV P E f as H nx r H' nx'
def CallOk (P : Program) (E : Env) (call : CallF) : Prop :=
  ∀ f as h nx k, call f as h nx k = true → Fresh h nx → ∃ r h' nx', k r h' nx' = true ∧ Fresh h' nx' ∧ nx ≤ nx' ∧ CallR P E f as h.get nx r h'.get nx'
theorem FnHas.enter {P : Program} {f : Nat} (hf : FnHas P f) (vs : Array Value) (w : World) : (callFunc f vs).run P w = .ok (.enter f vs) w := by
  obtain ⟨fn, h1, h2, h3⟩ := hf
  have h3' : ¬ fn.name = "runtime.NumGoroutine" := by simpa using h3
  have h2' : ¬ fn.body = none := by intro e; rw [e] at h2; cases h2
  simp [callFunc, h1, h3', h2']
theorem CallR.body {P : Program} {E : Env} {f : Nat} {as : List AV} {H H' : Heap} {nx nx' : Nat} {r : AV} (h : CallR P E f as H nx r H' nx') (hf : FnHas P f) : CallT P E f as H nx r H' nx' := by
  rcases h with ⟨_, h⟩ | h
  · exact h
  · intro ρ w vs h1 h2 h3
    obtain ⟨v, w', ρ', hr, _⟩ := h ρ w vs h1 h2 h3
    rw [hf.enter] at hr; cases hr
/-- What is called. -/
def CalRel (P : Program) (E : Env) (o : Oper) : CCal → Array Operand → Prop
  | .val f, args => ∃ g ts, o.op = .call ⟨.value g, args, ts⟩ ∧ OpdOk E g f
  | .inv c gg, args => ∃ x nm ts, o.op = .call ⟨.invoke x nm, args, ts⟩ ∧ OpdOk E x c ∧ ∀ t k, gg t k = true → ∃ i, k i = true ∧ ∀ v w, (method (P.types.size + Made.depth) t v nm).run P w = .ok (i, v) w
/-- What is run for an operation fits it. -/
def OpRel (P : Program) (E : Env) (F : Facts) (o : Oper) : COp → Prop
  | .p x => PureOk P E F o x
  | .r x => ReadOk P E o x
  | .a x => AllocOk P E o x
  | .e x => EffOk P E o x
  | .call f xs => ∃ args, CalRel P E o f args ∧ OpdsOk E args.toList xs

section
variable {P : Program} {E : Env} {F : Facts} {o : Oper} {ρ : Nat → Option Loc} {N : Nat}
theorem AInv.holds {fr : T AV} {a : Act} (h : AInv E ρ N (frOf fr) a) (xs : List Operand) : Holds E ρ fr a.eval xs := fun t _ av hav => (h.at_ t av hav).2
theorem AInv.upd {ρ' : Nat → Option Loc} {fr fr' : T AV} {a : Act} {d : Nat} {r : AV} {v : Value} (h : AInv E ρ N (frOf fr) a) (hx : Ext ρ ρ') (hd : d < N) (hu : Upd fr d r fr') (hv : VR E ρ' r v) : AInv E ρ' N (frOf fr') (a.put (some d) v) := by
  refine ⟨h.defers, by simp [Act.put, h.size], fun t av hav => ?_⟩
  unfold frOf at hav
  rw [hu] at hav
  have hsz := h.size
  by_cases e : t = d
  · subst e
    rw [if_pos rfl] at hav; injection hav with hav; subst hav
    have : t < a.tmps.size := by omega
    exact ⟨hd, by simpa [Act.put, this] using hv⟩
  · rw [if_neg e] at hav
    have := h.at_ t av hav
    refine ⟨this.1, ?_⟩
    have h2 := this.2.ext hx
    simpa [Act.put, Array.getElem?_setIfInBounds, Ne.symm e] using h2
theorem AInv.ext {ρ' : Nat → Option Loc} {fr : Nat → AV → Prop} {a : Act} (h : AInv E ρ N fr a) (hx : Ext ρ ρ') : AInv E ρ' N fr a := ⟨h.defers, h.size, fun t av hav => ⟨(h.at_ t av hav).1, (h.at_ t av hav).2.ext hx⟩⟩

theorem pure_opT {fr : T AV} {r : AV} {H : Heap} {nx : Nat} (h : PureT P E o fr r) : OpT P E o fr H nx r H nx := fun ρ a w next Q _ hh hI hn => by
  obtain ⟨v, hv, hr⟩ := h ρ a.eval (Ev.act a) hh
  exact wp_value (hr w) (hn ρ v w Stp.rfl' hI hv)
theorem read_opT {fr : T AV} {r : AV} {H : Heap} {nx : Nat} (h : ReadT P E o fr H r) : OpT P E o fr H nx r H nx := fun ρ a w next Q _ hh hI hn => by
  obtain ⟨v, hv, hr⟩ := h ρ a.eval w (Ev.act a) hh hI
  exact wp_value hr (hn ρ v w Stp.rfl' hI hv)
theorem alloc_opT {fr : T AV} {f : AF} {cs : List AV} {h h' : T Blk} {nx : Nat} {t : T AV} (hA : AllocT P E o fr f cs) (ht : ∀ j, j < cs.length → t.get j = cs[j]?) (hT : t.get (cs.length + 7) = afKey f) (hu : Upd h nx (.live cs.length t) h') : OpT P E o fr h.get nx (afAV f nx) h'.get (nx + 1) := fun ρ a w next Q hfree hh hI hn => by
  obtain ⟨v, w', c, el, z, vs, pl, hr, hp, hz, hv, h1, hc, hres, hty⟩ := hA ρ a.eval w (Ev.act a) hh
  have hnx := hfree nx (Nat.le_refl _) (Nat.lt_succ_self _)
  obtain ⟨s1, s2⟩ := new_step hI hp hz hnx hv h1 hc ht (by rw [hT]; exact hty) hu
  exact wp_value hr (hn _ v w' s1 s2 (hres _ _ (if_pos rfl)))
theorem run_value {e : Operand → Value} {g : Operand} {args : Array Operand} {ts : Array TypeId} {f : Nat} {a b : List Value} {w : World} (ho : o.op = .call ⟨.value g, args, ts⟩) (hg : e g = .func (.func f) a.toArray b.toArray) :
    (execOp e o).run P w = (callFunc f (a ++ args.toList.map e ++ b).toArray).run P w := by
  have e1 : a.toArray ++ (Array.map e args ++ b.toArray) = (a ++ (args.toList.map e ++ b)).toArray := by apply Array.ext'; simp
  simp only [execOp, ho, resolve, hg, Deferred.ofValue, invoke]
  simp [e1]
theorem run_invoke {e : Operand → Value} {x : Operand} {nm : String} {args : Array Operand} {ts : Array TypeId} {f t : Nat} {v : Value} {w : World} (ho : o.op = .call ⟨.invoke x nm, args, ts⟩) (hx : e x = .iface t v)
    (hm : ∀ w, (method (P.types.size + Made.depth) t v nm).run P w = .ok (f, v) w) : (execOp e o).run P w = (callFunc f ([v] ++ args.toList.map e ++ []).toArray).run P w := by
  have h1 : (#[Value.iface t v] ++ args.map e).extract 1 (#[Value.iface t v] ++ args.map e).size = args.map e := by
    apply Array.ext'; simp
    exact List.take_of_length_le (by simp)
  have h0 : (#[Value.iface t v] ++ args.map e)[0]? = some (Value.iface t v) := by rw [Array.getElem?_append_left (by simp)]; rfl
  have h2 : ([v] ++ args.toList.map e ++ []).toArray = #[v] ++ args.map e := by apply Array.ext'; simp
  rw [h2]
  simp only [execOp, ho, resolve, hx, invoke, Sem.run_bind, Sem.run_pure, Result.andThen_ok, h0, h1, callMethod, run_program, hm]
theorem calK_some {c : CCal} {args : Array Operand} (hr : CalRel P E o c args) {fr : T AV} {k : Nat → List AV → List AV → Bool} (h : calK fr c k = true) :
    ∃ i a b, k i a b = true ∧ ∀ ρ e, Ev e → Holds E ρ fr e o.op.operands.toList → ∃ a' b', VRs E ρ a a' ∧ VRs E ρ b b' ∧ ∀ w, (execOp e o).run P w = (callFunc i (a' ++ args.toList.map e ++ b').toArray).run P w := by
  cases c with
  | val f =>
    obtain ⟨g, ts, ho, hg⟩ := hr
    obtain ⟨v, h, hv⟩ := hg fr (fun v => fnK v fun g a b => fnFuncK g fun i => k i a b) h
    replace h := fnK_some h
    obtain ⟨gf, a, b, rfl, h⟩ := h
    replace h := fnFuncK_some h
    obtain ⟨i, rfl, h⟩ := h
    refine ⟨i, a, b, h, fun ρ e he hh => ?_⟩
    rw [ho] at hh
    have hgv := hv ρ e he (hh.sub (by simp [Op.operands, Call.operands]))
    simp only [VR] at hgv
    obtain ⟨a', b', h1, h2, hgv⟩ := hgv
    exact ⟨a', b', h1, h2, fun w => run_value ho hgv⟩
  | inv x gg =>
    obtain ⟨y, nm, ts, ho, hx, hm⟩ := hr
    obtain ⟨v, h, hv⟩ := hx fr (fun v => ifcK v (fun t u => gg t fun i => k i [u] []) false) h
    replace h := ifcK_some h
    rcases h with ⟨t, u, rfl, h⟩ | ⟨_, h⟩
    · obtain ⟨i, h, hi⟩ := hm t _ h
      refine ⟨i, [u], [], h, fun ρ e he hh => ?_⟩
      rw [ho] at hh
      have hgv := hv ρ e he (hh.sub (by simp [Op.operands, Call.operands]))
      simp only [VR] at hgv
      obtain ⟨u', hu, hgv⟩ := hgv
      exact ⟨[u'], [], VRs.cons hu VRs.nil, VRs.nil, fun w => run_invoke ho hgv (hi u')⟩
    · cases h
theorem CalRel.args {c : CCal} {args : Array Operand} (hr : CalRel P E o c args) : ∀ x ∈ args.toList, x ∈ o.op.operands.toList := by
  cases c with
  | val f => obtain ⟨g, ts, ho, _⟩ := hr; rw [ho]; intro x hx; simp only [Op.operands, Call.operands, Array.toList_append]; exact List.mem_append_right _ hx
  | inv x gg => obtain ⟨y, nm, ts, ho, _⟩ := hr; rw [ho]; intro x hx; simp only [Op.operands, Call.operands, Array.toList_append]; exact List.mem_append_right _ hx
theorem call_opR {fr : T AV} {c : CCal} {args : Array Operand} {f : Nat} {a b as : List AV} {H H' : Heap} {nx nx' : Nat} {r : AV} (hr : CalRel P E o c args)
    (hg : ∀ ρ e, Ev e → Holds E ρ fr e o.op.operands.toList → ∃ a' b', VRs E ρ a a' ∧ VRs E ρ b b' ∧ ∀ w, (execOp e o).run P w = (callFunc f (a' ++ args.toList.map e ++ b').toArray).run P w)
    (has : ∀ ρ e, Ev e → Holds E ρ fr e args.toList → VRs E ρ as (args.toList.map e)) (hC : CallR P E f (a ++ as ++ b) H nx r H' nx') : OpT P E o fr H nx r H' nx' := fun ρ A w next Q hfree hh hI hn => by
  have hav := has ρ A.eval (Ev.act A) (hh.sub hr.args)
  obtain ⟨a', b', h1, h2, hrun⟩ := hg ρ A.eval (Ev.act A) hh
  rcases hC with ⟨hf, hC⟩ | hC
  · have hr := hrun w
    rw [hf.enter] at hr
    unfold Oper.wp
    rw [hr]
    show Calls P f _ w _
    refine (hC ρ w _ hfree hI ((h1.append hav).append h2)).mono ?_
    rintro e w' ⟨v, rfl, ρ', s1, s2, s3⟩
    exact hn ρ' v w' s1 s2 s3
  · have hr := hrun w
    obtain ⟨v, w', ρ', hv, s1, s2, s3⟩ := hC ρ w _ hfree hI ((h1.append hav).append h2)
    rw [hv] at hr
    exact wp_value hr (hn ρ' v w' s1 s2 s3)
theorem opK_some {call : CallF} (hc : CallOk P E call) {c : COp} (hr : OpRel P E F o c) {fr : T AV} {h : T Blk} {nx : Nat} {k : KV} (hk : opK F call c fr h nx k = true) (hf : Fresh h nx) :
    ∃ r h' nx', k r h' nx' = true ∧ Fresh h' nx' ∧ nx ≤ nx' ∧ OpT P E o fr h.get nx r h'.get nx' := by
  cases c with
  | p x =>
    obtain ⟨r, h1, h2⟩ := hr fr (fun v => k v h nx) hk
    exact ⟨r, h, nx, h1, hf, Nat.le_refl _, pure_opT h2⟩
  | r x =>
    obtain ⟨r, h1, h2⟩ := hr fr h (fun v => k v h nx) hk
    exact ⟨r, h, nx, h1, hf, Nat.le_refl _, read_opT h2⟩
  | a x =>
    obtain ⟨f, cs, h1, h2⟩ := hr fr (fun f cs => mkFK f cs h nx fun h nx' => k (afAV f nx) h nx') hk
    obtain ⟨t, h', ht, hT, hu, h1⟩ := mkFK_some h1
    exact ⟨_, h', nx + 1, h1, hf.new hu, Nat.le_succ _, alloc_opT h2 ht hT hu⟩
  | e x => exact hr fr h nx k hk hf
  | call f xs =>
    obtain ⟨args, hg, ha⟩ := hr
    replace hk := calK_some hg hk
    obtain ⟨i, a, b, hk, hv⟩ := hk
    obtain ⟨as, hk, has⟩ := ha fr (fun as => appK as b fun as => appK a as fun as => call i as h nx k) hk
    rw [appK_eq, appK_eq] at hk
    obtain ⟨r, h', nx', h1, h2, h3, h4⟩ := hc i _ h nx k hk hf
    rw [← List.append_assoc] at h4
    exact ⟨r, h', nx', h1, h2, h3, call_opR hg hv has h4⟩
end

/-! ### A row of operations, in its order -/
def GuardRel (ops : Array Oper) (o : Oper) (g : Option (Nat × Bool)) : Prop := (o.guard = none ∧ g = none) ∨ ∃ j want s oj, o.guard = some (j, want) ∧ g = some (s, want) ∧ ops[j]? = some oj ∧ oj.dst = some s
structure OperRel (P : Program) (E : Env) (F : Facts) (ops : Array Oper) (N : Nat) (o : Oper) (d : Option Nat) (g : Option (Nat × Bool)) (c : COp) : Prop where
  dst : o.dst = d
  lt : ∀ t, d = some t → t < N
  guard : GuardRel ops o g
  op : OpRel P E F o c
inductive RegRel (P : Program) (E : Env) (F : Facts) (ops : Array Oper) (N : Nat) : List Oper → List COper → Prop where
  | nil : RegRel P E F ops N [] []
  | cons {o : Oper} {d : Option Nat} {g : Option (Nat × Bool)} {c : COp} {l : List Oper} {cl : List COper} (h : OperRel P E F ops N o d g c) (hs : RegRel P E F ops N l cl) : RegRel P E F ops N (o :: l) (.mk d g c :: cl)

section
variable {P : Program} {E : Env} {F : Facts} {N : Nat}
theorem guardK_some {ops : Array Oper} {o : Oper} {g : Option (Nat × Bool)} {fr : T AV} {yes no : Bool} (hg : GuardRel ops o g) (h : guardK fr yes no g = true) :
    (yes = true ∧ ∀ ρ a, Look E ρ fr (fun t => ∃ p, g = some p ∧ t = p.1) a → Region.wanted o (yielded ops a.tmps) = true) ∨ (no = true ∧ ∀ ρ a, Look E ρ fr (fun t => ∃ p, g = some p ∧ t = p.1) a → Region.wanted o (yielded ops a.tmps) = false) := by
  rcases hg with ⟨h1, rfl⟩ | ⟨j, want, s, oj, h1, rfl, h3, h4⟩
  · exact .inl ⟨h, fun ρ a _ => by simp [Region.wanted, h1]⟩
  · obtain ⟨av, hav, h⟩ := getK_some (k := fun v => boolUK v (fun b => @Bool.rec (fun _ => Bool) (@Bool.rec (fun _ => Bool) yes no want) (@Bool.rec (fun _ => Bool) no yes want) b) no) (t := fr) (i := s) h
    replace h := boolUK_some h
    rcases h with ⟨b, rfl, h⟩ | ⟨⟨l, rfl⟩, h⟩
    rotate_left
    · refine .inr ⟨h, fun ρ a hl => ?_⟩
      obtain ⟨hlt, hv⟩ := hl s ⟨_, rfl, rfl⟩ _ hav
      simp only [VR] at hv
      obtain ⟨l', _, hv⟩ := hv
      have : a.tmps[s]? = some (.tuple l'.toArray) := by
        simp only [Array.getD_eq_getD_getElem?] at hv
        rw [Array.getElem?_eq_getElem hlt] at hv ⊢
        simpa using hv
      simp [Region.wanted, h1, yielded, h3, h4, this]
    have key : ∀ ρ a, Look E ρ fr (fun t => ∃ p, some (s, want) = some p ∧ t = p.1) a → Region.wanted o (yielded ops a.tmps) = (b == want) := fun ρ a hl => by
      obtain ⟨hlt, hv⟩ := hl s ⟨_, rfl, rfl⟩ _ hav
      simp only [VR] at hv
      have : a.tmps[s]? = some (.bool b) := by
        simp only [Array.getD_eq_getD_getElem?] at hv
        rw [Array.getElem?_eq_getElem hlt] at hv ⊢
        simpa using hv
      simp [Region.wanted, h1, yielded, h3, h4, this]
    cases b <;> cases want
    · exact .inl ⟨h, fun ρ a hl => key ρ a hl⟩
    · exact .inr ⟨h, fun ρ a hl => key ρ a hl⟩
    · exact .inr ⟨h, fun ρ a hl => key ρ a hl⟩
    · exact .inl ⟨h, fun ρ a hl => key ρ a hl⟩
theorem AInv.look {ρ : Nat → Option Loc} {fr : T AV} {a : Act} (h : AInv E ρ N (frOf fr) a) (rd : Nat → Prop) : Look E ρ fr rd a := fun t _ av hav => by rw [h.size]; exact h.at_ t av hav
theorem putK_some {v : AV} {fr : T AV} {k : T AV → Bool} {d : Option Nat} (h : putK v fr k d = true) : ∃ fr', k fr' = true ∧ ((d = none ∧ fr' = fr) ∨ ∃ t, d = some t ∧ Upd fr t v fr') := by
  cases d with
  | none => exact ⟨fr, h, .inl ⟨rfl, rfl⟩⟩
  | some t =>
    change setK v 40 fr t k = true at h
    obtain ⟨fr', hu, h⟩ := setK_some h
    exact ⟨fr', h, .inr ⟨t, rfl, hu⟩⟩
theorem AInv.putd {ρ ρ' : Nat → Option Loc} {fr fr' : T AV} {a : Act} {d : Option Nat} {r : AV} {v : Value} (h : AInv E ρ N (frOf fr) a) (hx : Ext ρ ρ') (hd : ∀ t, d = some t → t < N) (hu : (d = none ∧ fr' = fr) ∨ ∃ t, d = some t ∧ Upd fr t r fr') (hv : VR E ρ' r v) : AInv E ρ' N (frOf fr') (a.put d v) := by
  rcases hu with ⟨rfl, rfl⟩ | ⟨t, rfl, hu⟩
  · exact h.ext hx
  · exact h.upd hx (hd t rfl) hu hv
/-- From a frame and a memory to another. -/
def RegT (E : Env) (N : Nat) (fr : T AV) (H : Heap) (nx : Nat) (fr' : T AV) (H' : Heap) (nx' : Nat) (go : (Act → World → Prop) → Act → World → Prop) : Prop :=
  ∀ ρ a w (K : Act → World → Prop), (∀ i, nx ≤ i → i < nx' → ρ i = none) → AInv E ρ N (frOf fr) a → Inv E ρ H w → (∀ ρ' a' w', Stp ρ H w nx ρ' H' w' nx' → AInv E ρ' N (frOf fr') a' → Inv E ρ' H' w' → K a' w') → go K a w
theorem regK_some {ops : Array Oper} {call : CallF} (hc : CallOk P E call) : ∀ {l : List Oper} {cl : List COper}, RegRel P E F ops N l cl → ∀ {fr : T AV} {h : T Blk} {nx : Nat} {k : KF}, regK F call cl fr h nx k = true → Fresh h nx →
    ∃ fr' h' nx', k fr' h' nx' = true ∧ Fresh h' nx' ∧ nx ≤ nx' ∧ ∀ (Q : Exit → Act → World → Prop), RegT E N fr h.get nx fr' h'.get nx' fun K a w => (∀ a w, K a w → Q .normal a w) → wpList P ops Q l a w := by
  intro l cl hr
  induction hr with
  | nil => intro fr h nx k hk hf; exact ⟨fr, h, nx, hk, hf, Nat.le_refl _, fun Q ρ a w K _ hA hI hK hq => hq _ _ (hK ρ a w Stp.rfl' hA hI)⟩
  | @cons o d g c l cl ho hs ih =>
    intro fr h nx k hk hf
    change operK F call d g c fr h nx (fun fr h nx => regK F call cl fr h nx k) = true at hk
    replace hk := guardK_some (E := E) ho.guard hk
    rcases hk with ⟨hk, hw⟩ | ⟨hk, hw⟩
    · obtain ⟨r, h1, nx1, hk, hf1, hle1, hT⟩ := opK_some hc ho.op hk hf
      obtain ⟨fr1, hk, hu⟩ := putK_some hk
      obtain ⟨fr', h', nx', hk, hf', hle', hrest⟩ := ih hk hf1
      refine ⟨fr', h', nx', hk, hf', Nat.le_trans hle1 hle', fun Q ρ a w K hfree hA hI hK hq => ?_⟩
      simp only [wpList]
      rw [if_pos (hw ρ a (hA.look _))]
      refine .inl (hT ρ a w _ Q (fun i a b => hfree i a (by omega)) (hA.holds _) hI fun ρ' v w' s1 hI' hv => ?_)
      rw [ho.dst]
      refine hrest Q ρ' _ w' K (fun i a b => ?_) (hA.putd s1.ext ho.lt hu hv) hI' (fun ρ'' a'' w'' s2 => hK ρ'' a'' w'' (s1.trans s2)) hq
      rw [s1.same i (by omega)]; exact hfree i (by omega) b
    · obtain ⟨fr1, hk, hu⟩ := putK_some hk
      obtain ⟨fr', h', nx', hk, hf', hle', hrest⟩ := ih hk hf
      refine ⟨fr', h', nx', hk, hf', hle', fun Q ρ a w K hfree hA hI hK hq => ?_⟩
      simp only [wpList]
      rw [if_neg (by rw [hw ρ a (hA.look _)]; simp), ho.dst]
      exact hrest Q ρ _ w K hfree (hA.putd (Ext.refl ρ) ho.lt hu vr_und) hI hK hq
end
end Go.Proofs.YtdnahdcjnahfkaaGreatDoor.Ev
