/- The evaluator: what is taken from contracts. -/
import Derived.Test.YtdnahdcjnahfkaaGreatDoorEvX2
import Derived.LoopN
namespace Go.Proofs.YtdnahdcjnahfkaaGreatDoor.Ev
open Go

def Closed (ops : Array Oper) (listed : Array Bool) : Prop := ∀ j oj, ops[j]? = some oj → listed.getD j false = true → ∀ e ∈ oj.after, Region.binds .any e = true → listed.getD e.on false = true
def DepOn (ops : Array Oper) (j b : Nat) : Prop := ∀ oj, ops[j]? = some oj → ∀ listed : Array Bool, Closed ops listed → (∀ e ∈ oj.after, Region.binds .any e = true → listed.getD e.on false = true) → listed.getD b false = true
/-- What is known of an operation before the run: what it hangs on, the slots that it looks at, its own slot, its class. -/
structure SeenE where
  ix : Nat
  mask : Nat
  rM : Nat
  dM : Nat
  cls : Nat
noncomputable def copCls (c : COp) : Nat := @COp.rec (fun _ => Nat) (fun _ => 0) (fun _ => 1) (fun _ => 2) (fun _ => 3) (fun _ _ => 3) c
/-- They need no order. -/
structure Loose (x s : SeenE) (am : Nat) : Prop where
  ww : ∀ t, x.dM.testBit t = true → s.rM.testBit t = true ∨ s.dM.testBit t = true → False
  rw_ : ∀ t, s.dM.testBit t = true → x.rM.testBit t = true → False
  cc : (x.cls = 2 ∨ x.cls = 3) → (s.cls = 3 ∨ s.cls = 1) → False
  am : x.cls = 1 → s.cls = 3 → am.testBit x.ix = true
def Rd (o : Oper) (g : Option (Nat × Bool)) (t : Nat) : Prop := Operand.tmp t ∈ o.op.operands.toList ∨ ∃ p, g = some p ∧ t = p.1
structure DHead (P : Program) (E : Env) (F : Facts) (ops : Array Oper) (N : Nat) (seen : List SeenE) (s : SeenE) (o : Oper) (d : Option Nat) (g : Option (Nat × Bool)) (c : COp) (ix am : Nat) : Prop where
  get : ops[ix]? = some o
  rel : OperRel P E F ops N o d g c
  hix : s.ix = ix
  cls : s.cls = copCls c
  dM : ∀ t, d = some t → s.dM.testBit t = true
  rM : ∀ t, Rd o g t → s.rM.testBit t = true
  mask : ∀ b, s.mask.testBit b = true → DepOn ops ix b
  new : ∀ x ∈ seen, x.ix ≠ ix
  topo : ∀ e ∈ o.after, Region.binds .any e = true → ∃ x ∈ seen, x.ix = e.on
  conf : ∀ x ∈ seen, s.mask.testBit x.ix = true ∨ Loose x s am
inductive DRel (P : Program) (E : Env) (F : Facts) (ops : Array Oper) (N : Nat) : List SeenE → List DOper → Prop where
  | nil {seen : List SeenE} (all : ∀ i, i < ops.size → ∃ s ∈ seen, s.ix = i) (len : seen.length = ops.size) : DRel P E F ops N seen []
  | cons {seen : List SeenE} {s : SeenE} {o : Oper} {d : Option Nat} {g : Option (Nat × Bool)} {c : COp} {ix am : Nat} {l : List DOper} (h : DHead P E F ops N seen s o d g c ix am) (hs : DRel P E F ops N (s :: seen) l) : DRel P E F ops N seen (.mk d g c ix am :: l)

def Found.push (ops : Array Oper) (X : Found) (ix cl : Nat) (v : AV) (dst : Option Nat) (fr : T AV) (h : T Blk) (nx : Nat) (blk : Blk) (rd : Nat → Prop) : Found where
  n := X.n + 1
  ix q := if q = X.n then ix else X.ix q
  cl q := if q = X.n then cl else X.cl q
  v q := if q = X.n then v else X.v q
  dst q := if q = X.n then dst else X.dst q
  fr q := if q = X.n + 1 then fr else X.fr q
  h q := if q = X.n + 1 then h else X.h q
  nx q := if q = X.n + 1 then nx else X.nx q
  blk q := if q = X.n then blk else X.blk q
  rd q := if q = X.n then rd else X.rd q
  dep q q' := DepOn ops (if q' = X.n then ix else X.ix q') (if q = X.n then ix else X.ix q)
structure Found.One (P : Program) (E : Env) (ops : Array Oper) (N : Nat) (X : Found) (q : Nat) : Prop where
  oper : ∃ o, ops[X.ix q]? = some o ∧ ∀ e ∈ o.after, Region.binds .any e = true → ∃ q', q' < q ∧ X.ix q' = e.on
  dst : ∀ t, X.dst q = some t → t < N
  cls : X.cl q ≤ 3
  frs : ∀ t, (X.fr (q + 1)).get t = if X.dst q = some t then some (X.v q) else (X.fr q).get t
  keep : X.cl q < 2 → X.h (q + 1) = X.h q ∧ X.nx (q + 1) = X.nx q
  make : X.cl q = 2 → Upd (X.h q) (X.nx q) (X.blk q) (X.h (q + 1)) ∧ X.nx (q + 1) = X.nx q + 1 ∧ ∃ m t, X.blk q = .live m t
  up : X.nx q ≤ X.nx (q + 1)
  fresh : Fresh (X.h q) (X.nx q)
  p0 : X.cl q = 0 → ∀ Q, X.pures P E ops Q q
  p1 : X.cl q = 1 → ∀ Q, X.reads P E ops Q q (X.h q).get
  p2 : X.cl q = 2 → ∀ Q, X.makes P E ops Q q
  p3 : X.cl q = 3 → ∀ Q, X.acts P E ops Q q
structure Found.Two (P : Program) (E : Env) (ops : Array Oper) (X : Found) (q q' : Nat) : Prop where
  ne : X.ix q ≠ X.ix q'
  ww : ∀ t, X.dst q = some t → (X.rd q' t ∨ X.dst q' = some t) → X.dep q q'
  rw_ : ∀ t, X.dst q' = some t → X.rd q t → X.dep q q'
  cc : (X.cl q = 2 ∨ X.cl q = 3) → (X.cl q' = 3 ∨ X.cl q' = 1) → X.dep q q'
  p1' : X.cl q = 1 → X.cl q' = 3 → ¬ X.dep q q' → ∀ Q, X.reads P E ops Q q (X.h (q' + 1)).get

structure Agree (X Y : Found) : Prop where
  ix : ∀ q, q < X.n → Y.ix q = X.ix q
  cl : ∀ q, q < X.n → Y.cl q = X.cl q
  v : ∀ q, q < X.n → Y.v q = X.v q
  dst : ∀ q, q < X.n → Y.dst q = X.dst q
  blk : ∀ q, q < X.n → Y.blk q = X.blk q
  rd : ∀ q, q < X.n → Y.rd q = X.rd q
  fr : ∀ q, q ≤ X.n → Y.fr q = X.fr q
  h : ∀ q, q ≤ X.n → Y.h q = X.h q
  nx : ∀ q, q ≤ X.n → Y.nx q = X.nx q
theorem agree_push {ops : Array Oper} {X : Found} {ix cl : Nat} {v : AV} {dst : Option Nat} {fr : T AV} {h : T Blk} {nx : Nat} {blk : Blk} {rd : Nat → Prop} : Agree X (X.push ops ix cl v dst fr h nx blk rd) := by
  constructor <;> intro q hq <;> simp only [Found.push] <;> rw [if_neg (by omega)]

section
variable {P : Program} {E : Env} {ops : Array Oper} {N : Nat} {X Y : Found}
theorem Found.One.agree {q : Nat} (A : Agree X Y) (hq : q < X.n) (h : X.One P E ops N q) : Y.One P E ops N q := by
  have i := A.ix q hq
  have c := A.cl q hq
  have v := A.v q hq
  have d := A.dst q hq
  have b := A.blk q hq
  have r := A.rd q hq
  have f1 := A.fr q (Nat.le_of_lt hq)
  have f2 := A.fr (q + 1) hq
  have h1 := A.h q (Nat.le_of_lt hq)
  have h2 := A.h (q + 1) hq
  have n1 := A.nx q (Nat.le_of_lt hq)
  have n2 := A.nx (q + 1) hq
  constructor
  · obtain ⟨o, h1, h2⟩ := h.oper
    rw [i]
    refine ⟨o, h1, fun e he hb => ?_⟩
    obtain ⟨q', a, b⟩ := h2 e he hb
    exact ⟨q', a, by rw [A.ix q' (by omega)]; exact b⟩
  · rw [d]; exact h.dst
  · rw [c]; exact h.cls
  · rw [d, v, f1, f2]; exact h.frs
  · rw [c, h1, h2, n1, n2]; exact h.keep
  · rw [c, h1, h2, n1, n2, b]; exact h.make
  · rw [n1, n2]; exact h.up
  · rw [h1, n1]; exact h.fresh
  · intro hc Q; unfold Found.pures; rw [i, v, d, f1, r]; exact h.p0 (c ▸ hc) Q
  · intro hc Q; unfold Found.reads; rw [i, v, d, f1, r, h1]; exact h.p1 (c ▸ hc) Q
  · intro hc Q; unfold Found.makes; rw [i, v, d, f1, r, n1, b]; exact h.p2 (c ▸ hc) Q
  · intro hc Q; unfold Found.acts; rw [i, v, d, f1, r, n1, n2, h1, h2]; exact h.p3 (c ▸ hc) Q
theorem reads_agree {q : Nat} (A : Agree X Y) (hq : q < X.n) {Q : Exit → Act → World → Prop} {H : Heap} (h : X.reads P E ops Q q H) : Y.reads P E ops Q q H := by
  unfold Found.reads; rw [A.ix q hq, A.v q hq, A.dst q hq, A.fr q (Nat.le_of_lt hq), A.rd q hq]; exact h
theorem Found.Two.agree {q q' : Nat} (A : Agree X Y) (hd : ∀ q q', X.dep q q' = DepOn ops (X.ix q') (X.ix q)) (hd' : ∀ q q', Y.dep q q' = DepOn ops (Y.ix q') (Y.ix q)) (hqq : q < q') (hq : q' < X.n) (h : X.Two P E ops q q') : Y.Two P E ops q q' := by
  have hq0 : q < X.n := by omega
  have de : Y.dep q q' = X.dep q q' := by rw [hd, hd', A.ix q hq0, A.ix q' hq]
  constructor
  · rw [A.ix q hq0, A.ix q' hq]; exact h.ne
  · rw [A.dst q hq0, A.dst q' hq, A.rd q' hq, de]; exact h.ww
  · rw [A.dst q' hq, A.rd q hq0, de]; exact h.rw_
  · rw [A.cl q hq0, A.cl q' hq, de]; exact h.cc
  · rw [A.cl q hq0, A.cl q' hq, de, A.h (q' + 1) hq]; exact fun a b c Q => reads_agree A hq0 (h.p1' a b c Q)
end

/-- What was found up to here. -/
structure Part (P : Program) (E : Env) (ops : Array Oper) (N : Nat) (fr0 : T AV) (h0 : T Blk) (nx0 : Nat) (X : Found) (seen : List SeenE) (rl : Reads) (fr : T AV) (h : T Blk) (nx : Nat) : Prop where
  f0 : X.fr 0 = fr0
  g0 : X.h 0 = h0
  n0 : X.nx 0 = nx0
  fr_ : X.fr X.n = fr
  h_ : X.h X.n = h
  nx_ : X.nx X.n = nx
  fresh : Fresh h nx
  len : seen.length = X.n
  one : ∀ q, q < X.n → X.One P E ops N q
  two : ∀ q q', q < q' → q' < X.n → X.Two P E ops q q'
  dep : ∀ q q', X.dep q q' = DepOn ops (X.ix q') (X.ix q)
  sn : ∀ q, q < X.n → ∃ s ∈ seen, s.ix = X.ix q ∧ (∀ t, X.rd q t → s.rM.testBit t = true) ∧ (∀ t, X.dst q = some t → s.dM.testBit t = true) ∧ (X.cl q = s.cls ∨ X.cl q = 0)
  back : ∀ s ∈ seen, ∃ q, q < X.n ∧ X.ix q = s.ix
  reads : ∀ q, q < X.n → X.cl q = 1 → ∃ x o, (X.ix q, X.fr q, X.v q, x) ∈ rl ∧ ReadOk P E o x ∧ ∀ Q H, ReadT P E o (X.fr q) H (X.v q) → X.reads P E ops Q q H
  rlo : ∀ e ∈ rl, ∃ o, ReadOk P E o e.2.2.2

section
variable {P : Program} {E : Env} {F : Facts} {ops : Array Oper} {N : Nat} {fr0 : T AV} {h0 : T Blk} {nx0 : Nat}
theorem Part.step {X : Found} {seen : List SeenE} {rl rl' : Reads} {fr fr' : T AV} {h h' : T Blk} {nx nx' : Nat} {s : SeenE} {o : Oper} {d : Option Nat} {g : Option (Nat × Bool)} {c : COp} {ix am cl : Nat} {v : AV} {blk : Blk}
    (hP : Part P E ops N fr0 h0 nx0 X seen rl fr h nx) (hH : DHead P E F ops N seen s o d g c ix am) (hcl : cl = s.cls ∨ cl = 0) (hle : cl ≤ 3) (hfr : ∀ t, fr'.get t = if d = some t then some v else fr.get t)
    (keep : cl < 2 → h' = h ∧ nx' = nx) (make : cl = 2 → Upd h nx blk h' ∧ nx' = nx + 1 ∧ ∃ m t, blk = .live m t) (up : nx ≤ nx') (fresh : Fresh h' nx')
    (p0 : cl = 0 → ∀ Q, (X.push ops ix cl v d fr' h' nx' blk (Rd o g)).pures P E ops Q X.n)
    (p1 : cl = 1 → (∀ Q, (X.push ops ix cl v d fr' h' nx' blk (Rd o g)).reads P E ops Q X.n h.get) ∧ ∃ x, rl' = (ix, fr, v, x) :: rl ∧ ReadOk P E o x ∧ ∀ Q H, ReadT P E o fr H v → (X.push ops ix cl v d fr' h' nx' blk (Rd o g)).reads P E ops Q X.n H)
    (p2 : cl = 2 → ∀ Q, (X.push ops ix cl v d fr' h' nx' blk (Rd o g)).makes P E ops Q X.n)
    (p3 : cl = 3 → (∀ Q, (X.push ops ix cl v d fr' h' nx' blk (Rd o g)).acts P E ops Q X.n) ∧ ∀ e ∈ rl, am.testBit e.1 = true → ∀ o, ReadOk P E o e.2.2.2 → ReadT P E o e.2.1 h'.get e.2.2.1)
    (prl : cl ≠ 1 → rl' = rl) :
    Part P E ops N fr0 h0 nx0 (X.push ops ix cl v d fr' h' nx' blk (Rd o g)) (s :: seen) rl' fr' h' nx' := by
  have A : Agree X (X.push ops ix cl v d fr' h' nx' blk (Rd o g)) := agree_push
  have hd' : ∀ q q', (X.push ops ix cl v d fr' h' nx' blk (Rd o g)).dep q q' = DepOn ops ((X.push ops ix cl v d fr' h' nx' blk (Rd o g)).ix q') ((X.push ops ix cl v d fr' h' nx' blk (Rd o g)).ix q) := fun q q' => rfl
  have e1 : (X.push ops ix cl v d fr' h' nx' blk (Rd o g)).ix X.n = ix := by simp [Found.push]
  have e2 : (X.push ops ix cl v d fr' h' nx' blk (Rd o g)).cl X.n = cl := by simp [Found.push]
  have e3 : (X.push ops ix cl v d fr' h' nx' blk (Rd o g)).v X.n = v := by simp [Found.push]
  have e4 : (X.push ops ix cl v d fr' h' nx' blk (Rd o g)).dst X.n = d := by simp [Found.push]
  have e5 : (X.push ops ix cl v d fr' h' nx' blk (Rd o g)).rd X.n = Rd o g := by simp [Found.push]
  have e6 : (X.push ops ix cl v d fr' h' nx' blk (Rd o g)).fr (X.n + 1) = fr' := by simp [Found.push]
  have e7 : (X.push ops ix cl v d fr' h' nx' blk (Rd o g)).h (X.n + 1) = h' := by simp [Found.push]
  have e8 : (X.push ops ix cl v d fr' h' nx' blk (Rd o g)).nx (X.n + 1) = nx' := by simp [Found.push]
  have e9 : (X.push ops ix cl v d fr' h' nx' blk (Rd o g)).blk X.n = blk := by simp [Found.push]
  have f1 := A.fr X.n (Nat.le_refl _)
  have f2 := A.h X.n (Nat.le_refl _)
  have f3 := A.nx X.n (Nat.le_refl _)
  rw [hP.fr_] at f1; rw [hP.h_] at f2; rw [hP.nx_] at f3
  have hn : (X.push ops ix cl v d fr' h' nx' blk (Rd o g)).n = X.n + 1 := rfl
  generalize X.push ops ix cl v d fr' h' nx' blk (Rd o g) = Y at *
  have cut : ∀ q, q < Y.n → q < X.n ∨ q = X.n := fun q hq => by omega
  refine ⟨?_, ?_, ?_, ?_, ?_, ?_, fresh, ?_, ?_, ?_, hd', ?_, ?_, ?_, ?_⟩
  · rw [A.fr 0 (Nat.zero_le _)]; exact hP.f0
  · rw [A.h 0 (Nat.zero_le _)]; exact hP.g0
  · rw [A.nx 0 (Nat.zero_le _)]; exact hP.n0
  · rw [hn]; exact e6
  · rw [hn]; exact e7
  · rw [hn]; exact e8
  · rw [hn, ← hP.len]; rfl
  · intro q hq
    rcases cut q hq with hq | rfl
    · exact (hP.one q hq).agree A hq
    · refine ⟨⟨o, by rw [e1]; exact hH.get, fun e he hb => ?_⟩, by rw [e4]; exact hH.rel.lt, by rw [e2]; exact hle, by rw [e4, e6, e3, f1]; exact hfr, by rw [e2, e7, e8, f2, f3]; exact keep, by rw [e2, e7, e8, f2, f3, e9]; exact make, by rw [e8, f3]; exact up, by rw [f2, f3]; exact hP.fresh,
        by rw [e2]; exact p0, by rw [e2, f2]; exact fun hc => (p1 hc).1, by rw [e2]; exact p2, by rw [e2]; exact fun hc => (p3 hc).1⟩
      obtain ⟨x, hx, h1⟩ := hH.topo e he hb
      obtain ⟨q', h2, h3⟩ := hP.back x hx
      exact ⟨q', h2, by rw [A.ix q' h2, h3, h1]⟩
  · intro q q' hqq hq'
    rcases cut q' hq' with hq' | rfl
    · exact (hP.two q q' hqq hq').agree A hP.dep hd' hqq hq'
    · obtain ⟨x, hx, x1, x2, x3, x4⟩ := hP.sn q hqq
      have hdep : Y.dep q X.n = DepOn ops ix (X.ix q) := by rw [hd', e1, A.ix q hqq]
      have key : Y.dep q X.n ∨ Loose x s am := by
        rcases hH.conf x hx with h | h
        · left; rw [hdep, ← x1]; exact hH.mask _ h
        · exact .inr h
      constructor
      · rw [A.ix q hqq, e1, ← x1]; exact hH.new x hx
      · rw [A.dst q hqq, e5, e4]
        intro t h1 h2
        rcases key with k | k
        · exact k
        · refine (k.ww t (x3 t h1) ?_).elim
          rcases h2 with h2 | h2
          · exact .inl (hH.rM t h2)
          · exact .inr (hH.dM t h2)
      · rw [e4, A.rd q hqq]
        intro t h1 h2
        rcases key with k | k
        · exact k
        · exact (k.rw_ t (hH.dM t h1) (x2 t h2)).elim
      · rw [A.cl q hqq, e2]
        intro h1 h2
        rcases key with k | k
        · exact k
        · refine (k.cc ?_ ?_).elim
          · rcases x4 with x4 | x4
            · rwa [← x4]
            · omega
          · rcases hcl with hcl | hcl
            · rwa [← hcl]
            · omega
      · rw [A.cl q hqq, e2, e7]
        intro h1 h2 h3 Q
        rcases key with k | k
        · exact absurd k h3
        · have h4 := k.am (by rcases x4 with x4 | x4 <;> omega) (by rcases hcl with hcl | hcl <;> omega)
          obtain ⟨y, oy, hy, hok, hrd⟩ := hP.reads q hqq h1
          exact reads_agree A hqq (hrd Q _ ((p3 h2).2 _ hy (by rw [← x1]; exact h4) oy hok))
  · intro q hq
    rcases cut q hq with hq | rfl
    · obtain ⟨x, hx, h1⟩ := hP.sn q hq
      refine ⟨x, List.mem_cons_of_mem _ hx, ?_⟩
      rw [A.ix q hq, A.rd q hq, A.dst q hq, A.cl q hq]; exact h1
    · refine ⟨s, List.mem_cons_self, ?_⟩
      rw [e1, e5, e4, e2]; exact ⟨hH.hix, hH.rM, hH.dM, hcl⟩
  · intro x hx
    rcases List.mem_cons.1 hx with rfl | hx
    · exact ⟨X.n, by omega, by rw [e1, hH.hix]⟩
    · obtain ⟨q, h1, h2⟩ := hP.back x hx
      exact ⟨q, by omega, by rw [A.ix q h1]; exact h2⟩
  · intro q hq hc
    rcases cut q hq with hq | rfl
    · rw [A.cl q hq] at hc
      obtain ⟨y, oy, hy, hok, hrd⟩ := hP.reads q hq hc
      refine ⟨y, oy, ?_, hok, ?_⟩
      · rw [A.ix q hq, A.fr q (by omega), A.v q hq]
        by_cases h1 : cl = 1
        · obtain ⟨_, x, h2, _⟩ := p1 h1
          rw [h2]; exact List.mem_cons_of_mem _ hy
        · rw [prl h1]; exact hy
      · rw [A.fr q (by omega), A.v q hq]; exact fun Q H h => reads_agree A hq (hrd Q H h)
    · rw [e2] at hc
      obtain ⟨_, x, h2, h3, h4⟩ := p1 hc
      refine ⟨x, o, ?_, h3, ?_⟩
      · rw [e1, f1, e3, h2]; exact List.mem_cons_self
      · rw [f1, e3]; exact h4
  · intro e he
    by_cases h1 : cl = 1
    · obtain ⟨_, x, h2, h3, _⟩ := p1 h1
      rw [h2] at he
      rcases List.mem_cons.1 he with rfl | he
      · exact ⟨o, h3⟩
      · exact hP.rlo e he
    · rw [prl h1] at he; exact hP.rlo e he
end
end Go.Proofs.YtdnahdcjnahfkaaGreatDoor.Ev
namespace Go.Proofs.YtdnahdcjnahfkaaGreatDoor.Ev
open Go

section
variable {P : Program} {E : Env} {F : Facts} {ops : Array Oper} {N : Nat} {fr0 : T AV} {h0 : T Blk} {nx0 : Nat}
theorem againK_some {am : Nat} {h : T Blk} {k : Bool} : ∀ {rl : Reads}, (∀ e ∈ rl, ∃ o, ReadOk P E o e.2.2.2) → againK am h k rl = true → k = true ∧ ∀ e ∈ rl, am.testBit e.1 = true → ∀ o, ReadOk P E o e.2.2.2 → ReadT P E o e.2.1 h.get e.2.2.1
  | [], _, h => ⟨h, fun e he => by cases he⟩
  | e :: rl, hr, hk => by
    change @Bool.rec (fun _ => Bool) (againK am h k rl) (readOp e.2.2.2 e.2.1 h fun v => avEq (againK am h k rl) e.2.2.1 v) (Nat.testBit am e.1) = true at hk
    cases hb : Nat.testBit am e.1 with
    | false =>
      rw [hb] at hk
      obtain ⟨h1, h2⟩ := againK_some (fun e he => hr e (List.mem_cons_of_mem _ he)) hk
      refine ⟨h1, fun x hx hbx => ?_⟩
      rcases List.mem_cons.1 hx with rfl | hx
      · rw [hb] at hbx; cases hbx
      · exact h2 x hx hbx
    | true =>
      rw [hb] at hk
      have go : ∀ o, ReadOk P E o e.2.2.2 → againK am h k rl = true ∧ ReadT P E o e.2.1 h.get e.2.2.1 := fun o ho => by
        obtain ⟨r, h1, h2⟩ := ho e.2.1 h (fun v => avEq (againK am h k rl) e.2.2.1 v) hk
        obtain ⟨h3, h4⟩ := avEq_some h1
        rw [h3]; exact ⟨h4, h2⟩
      obtain ⟨o, ho⟩ := hr e List.mem_cons_self
      obtain ⟨h1, h2⟩ := againK_some (fun e he => hr e (List.mem_cons_of_mem _ he)) (go o ho).1
      refine ⟨h1, fun x hx hbx o' ho' => ?_⟩
      rcases List.mem_cons.1 hx with rfl | hx
      · exact (go o' ho').2
      · exact h2 x hx hbx o' ho'

theorem wpOp_yes {o : Oper} {i : Nat} {Q : Exit → Act → World → Prop} {K : Act → World → Prop} {a : Act} {w : World} (h : ops[i]? = some o) (hw : Region.wanted o (yielded ops a.tmps) = true) (hk : o.wp P a w K Q) : wpOp P ops Q i K a w := by
  unfold wpOp; rw [h]; simp only [hw, if_true]; exact .inl hk
theorem wpOp_no {o : Oper} {i : Nat} {Q : Exit → Act → World → Prop} {K : Act → World → Prop} {a : Act} {w : World} (h : ops[i]? = some o) (hw : Region.wanted o (yielded ops a.tmps) = false) (hk : K (a.put o.dst undef) w) : wpOp P ops Q i K a w := by
  unfold wpOp; rw [h]; simp only [hw]; exact hk
theorem look_holds {o : Oper} {g : Option (Nat × Bool)} {ρ : Nat → Option Loc} {fr : T AV} {a : Act} (h : Look E ρ fr (Rd o g) a) : Holds E ρ fr a.eval o.op.operands.toList := fun t ht av hav => (h t (.inl ht) av hav).2
theorem look_guard {o : Oper} {g : Option (Nat × Bool)} {ρ : Nat → Option Loc} {fr : T AV} {a : Act} (h : Look E ρ fr (Rd o g) a) : Look E ρ fr (fun t => ∃ p, g = some p ∧ t = p.1) a := fun t ht av hav => h t (.inr ht) av hav
theorem put_frs {v : AV} {fr fr' : T AV} {d : Option Nat} (h : (d = none ∧ fr' = fr) ∨ ∃ t, d = some t ∧ Upd fr t v fr') : ∀ t, fr'.get t = if d = some t then some v else fr.get t := by
  intro t
  rcases h with ⟨rfl, rfl⟩ | ⟨s, rfl, hu⟩
  · rfl
  · rw [hu]
    by_cases e : t = s
    · subst e; simp
    · simp [e, Ne.symm e]

theorem Part.fin {X : Found} {seen : List SeenE} {rl : Reads} {fr : T AV} {h : T Blk} {nx : Nat} (hP : Part P E ops N fr0 h0 nx0 X seen rl fr h nx) (all : ∀ i, i < ops.size → ∃ s ∈ seen, s.ix = i) (len : seen.length = ops.size) (Q : Exit → Act → World → Prop) : X.Ok P E ops Q where
  size := by rw [← hP.len, len]
  ixlt q hq := by obtain ⟨o, h, _⟩ := (hP.one q hq).oper; exact (Array.getElem?_eq_some_iff.1 h).1
  dsts _ _ _ _ := trivial
  onto i hi := by
    obtain ⟨s, hs, e⟩ := all i hi
    obtain ⟨q, h1, h2⟩ := hP.back s hs
    exact ⟨q, h1, by rw [h2, e]⟩
  inj q q' hq hq' e := by
    rcases Nat.lt_trichotomy q q' with h | h | h
    · exact absurd e (hP.two q q' h hq').ne
    · exact h
    · exact absurd e.symm (hP.two q' q h hq).ne
  topo q o hq ho e he hb := by
    obtain ⟨o', h1, h2⟩ := (hP.one q hq).oper
    rw [ho] at h1; injection h1 with h1; subst h1
    exact h2 e he hb
  deps q q' o hq hq' hd ho listed hcl hdir := by
    rw [hP.dep] at hd
    exact hd o ho listed hcl hdir
  ww q q' t h h' := (hP.two q q' h h').ww t
  rw_ q q' t h h' := (hP.two q q' h h').rw_ t
  cls q hq := (hP.one q hq).cls
  cc q q' h h' := (hP.two q q' h h').cc
  frs q t hq := (hP.one q hq).frs t
  keep q hq := (hP.one q hq).keep
  make q hq := (hP.one q hq).make
  up q hq := (hP.one q hq).up
  fresh q hq := by
    rcases Nat.lt_or_ge q X.n with h | h
    · exact (hP.one q h).fresh
    · rw [show q = X.n by omega, hP.h_, hP.nx_]; exact hP.fresh
  p0 q hq hc := (hP.one q hq).p0 hc Q
  p1 q hq hc := (hP.one q hq).p1 hc Q
  p1' q q' h h' hc hc' hd := (hP.two q q' h h').p1' hc hc' hd Q
  p2 q hq hc := (hP.one q hq).p2 hc Q
  p3 q hq hc := (hP.one q hq).p3 hc Q

theorem drgK_some {call : CallF} (hc : CallOk P E call) : ∀ {seen : List SeenE} {l : List DOper}, DRel P E F ops N seen l → ∀ {X : Found} {rl : Reads} {fr : T AV} {h : T Blk} {nx : Nat} {k : KF}, Part P E ops N fr0 h0 nx0 X seen rl fr h nx → drgK F call l fr h nx rl k = true →
    ∃ X' fr' h' nx' rl' seen', k fr' h' nx' = true ∧ Part P E ops N fr0 h0 nx0 X' seen' rl' fr' h' nx' ∧ (∀ i, i < ops.size → ∃ s ∈ seen', s.ix = i) ∧ seen'.length = ops.size := by
  intro seen l hD
  induction hD with
  | @nil seen all len => intro X rl fr h nx k hP hk; exact ⟨X, fr, h, nx, rl, seen, hk, hP, all, len⟩
  | @cons seen s o d g c ix am l hH hs ih =>
    intro X rl fr h nx k hP hk
    change guardK fr (dOp F call ix am c d fr h nx rl fun fr h nx rl => drgK F call l fr h nx rl k) (putK und fr (fun fr => drgK F call l fr h nx rl k) d) g = true at hk
    have hdst := hH.rel.dst
    have n1 : X.n ≠ X.n + 1 := by omega
    have efr := hP.fr_
    have eh := hP.h_
    have enx := hP.nx_
    replace hk := guardK_some (E := E) hH.rel.guard hk
    rcases hk with ⟨hk, hw⟩ | ⟨hk, hw⟩
    · have hop := hH.rel.op
      have hcls := hH.cls
      cases c with
      | p x =>
        obtain ⟨r, hk, hT⟩ := hop fr (fun v => putK v fr (fun fr => drgK F call l fr h nx rl k) d) hk
        obtain ⟨fr1, hk, hu⟩ := putK_some hk
        refine ih (hP.step (cl := 0) (v := r) (blk := .dead) hH (.inr rfl) (by omega) (put_frs hu) (fun _ => ⟨rfl, rfl⟩) (by simp) (Nat.le_refl _) hP.fresh ?_ (by simp) (by simp) (by simp) (fun _ => rfl)) hk
        intro _ Q ρ a w K hl hK
        simp only [Found.push, if_pos, if_neg n1, efr] at hl hK ⊢
        obtain ⟨v, hv, hr⟩ := hT ρ a.eval (Ev.act a) (look_holds hl)
        exact wpOp_yes hH.get (hw ρ a (look_guard hl)) (wp_value (hr w) (by rw [hdst]; exact hK v hv))
      | r x =>
        obtain ⟨r, hk, hT⟩ := hop fr h (fun v => putK v fr (fun fr' => drgK F call l fr' h nx ((ix, fr, v, x) :: rl) k) d) hk
        obtain ⟨fr1, hk, hu⟩ := putK_some hk
        have key : ∀ Q H, ReadT P E o fr H r → (X.push ops ix 1 r d fr1 h nx .dead (Rd o g)).reads P E ops Q X.n H := by
          intro Q H hT ρ a w K hl hI hK
          simp only [Found.push, if_pos, if_neg n1, efr] at hl hK ⊢
          obtain ⟨v, hv, hr⟩ := hT ρ a.eval w (Ev.act a) (look_holds hl) hI
          exact wpOp_yes hH.get (hw ρ a (look_guard hl)) (wp_value hr (by rw [hdst]; exact hK v hv))
        exact ih (hP.step (cl := 1) (v := r) (blk := .dead) hH (.inl hcls.symm) (by omega) (put_frs hu) (fun _ => ⟨rfl, rfl⟩) (by simp) (Nat.le_refl _) hP.fresh (by simp) (fun _ => ⟨fun Q => key Q _ hT, x, rfl, hop, key⟩) (by simp) (by simp) (fun h => absurd rfl h)) hk
      | a x =>
        obtain ⟨f, cs, hk, hT⟩ := hop fr (fun f cs => mkFK f cs h nx fun h nx' => putK (afAV f nx) fr (fun fr => drgK F call l fr h nx' rl k) d) hk
        obtain ⟨t, h1, ht, hTy, hu1, hk⟩ := mkFK_some hk
        obtain ⟨fr1, hk, hu⟩ := putK_some hk
        refine ih (hP.step (cl := 2) (v := afAV f nx) (blk := .live cs.length t) hH (.inl hcls.symm) (by omega) (put_frs hu) (by simp) (fun _ => ⟨hu1, rfl, _, _, rfl⟩) (by omega) (hP.fresh.new hu1) (by simp) (by simp) ?_ (by simp) (fun _ => rfl)) hk
        intro _ Q ρ a w K hl hK
        simp only [Found.push, if_pos, if_neg n1, efr, enx] at hl hK ⊢
        obtain ⟨v, w', ce, el, z, vs, pl, hr, hp, hz, hv, h1', hce, hres, hty⟩ := hT ρ a.eval w (Ev.act a) (look_holds hl)
        refine wpOp_yes hH.get (hw ρ a (look_guard hl)) (wp_value hr ?_)
        rw [hdst]
        refine hK v w' ce el z cs.length t pl hp hz rfl ?_ (by rw [hTy]; exact hty) fun ρ' _ hρ => hres ρ' _ hρ
        intro j hj
        obtain ⟨u, hu1, hu2⟩ := hv.get (i := j) (x := cs[j]) (by simp [hj])
        refine ⟨cs[j], u, by rw [ht j hj]; simp [hj], ?_, hu2, h1' u (List.mem_of_getElem? hu1)⟩
        rw [hce j (by rw [hv.length]; exact hj)]; exact hu1
      | e x =>
        obtain ⟨r, h1, nx1, hk, hf1, hle, hT⟩ := opK_some (k := fun v h nx => againK am h (putK v fr (fun fr => drgK F call l fr h nx rl k) d) rl) hc hop hk hP.fresh
        obtain ⟨hk, hag⟩ := againK_some hP.rlo hk
        obtain ⟨fr1, hk, hu⟩ := putK_some hk
        refine ih (hP.step (cl := 3) (v := r) (blk := .dead) hH (.inl hcls.symm) (by omega) (put_frs hu) (by simp) (by simp) hle hf1 (by simp) (by simp) (by simp) (fun _ => ⟨?_, hag⟩) (fun _ => rfl)) hk
        intro Q ρ a w K hfree hl hI hK
        simp only [Found.push, if_pos, if_neg n1, efr, eh, enx] at hfree hl hI hK ⊢
        refine wpOp_yes hH.get (hw ρ a (look_guard hl)) (hT ρ a w K Q hfree (look_holds hl) hI fun ρ' v w' s1 s2 s3 => ?_)
        rw [hdst]; exact hK ρ' v w' s1 s2 s3
      | call f xs =>
        obtain ⟨r, h1, nx1, hk, hf1, hle, hT⟩ := opK_some (k := fun v h nx => againK am h (putK v fr (fun fr => drgK F call l fr h nx rl k) d) rl) hc hop hk hP.fresh
        obtain ⟨hk, hag⟩ := againK_some hP.rlo hk
        obtain ⟨fr1, hk, hu⟩ := putK_some hk
        refine ih (hP.step (cl := 3) (v := r) (blk := .dead) hH (.inl hcls.symm) (by omega) (put_frs hu) (by simp) (by simp) hle hf1 (by simp) (by simp) (by simp) (fun _ => ⟨?_, hag⟩) (fun _ => rfl)) hk
        intro Q ρ a w K hfree hl hI hK
        simp only [Found.push, if_pos, if_neg n1, efr, eh, enx] at hfree hl hI hK ⊢
        refine wpOp_yes hH.get (hw ρ a (look_guard hl)) (hT ρ a w K Q hfree (look_holds hl) hI fun ρ' v w' s1 s2 s3 => ?_)
        rw [hdst]; exact hK ρ' v w' s1 s2 s3
    · obtain ⟨fr1, hk, hu⟩ := putK_some hk
      refine ih (hP.step (cl := 0) (v := und) (blk := .dead) hH (.inr rfl) (by omega) (put_frs hu) (fun _ => ⟨rfl, rfl⟩) (by simp) (Nat.le_refl _) hP.fresh ?_ (by simp) (by simp) (by simp) (fun _ => rfl)) hk
      intro _ Q ρ a w K hl hK
      simp only [Found.push, if_pos, if_neg n1, efr] at hl hK ⊢
      exact wpOp_no hH.get (hw ρ a (look_guard hl)) (by rw [hdst]; exact hK undef vr_und)

/-- A region that draws, run. -/
theorem drg_region {call : CallF} (hc : CallOk P E call) (hm : P.follows .mixedOrders = true) {l : List DOper} (hD : DRel P E F ops N [] l) {fr : T AV} {h : T Blk} {nx : Nat} {k : KF} (hk : drgK F call l fr h nx [] k = true) (hf : Fresh h nx) :
    ∃ fr' h' nx', k fr' h' nx' = true ∧ Fresh h' nx' ∧ nx ≤ nx' ∧ ∀ (Q : Exit → Act → World → Prop) (id : Nat), RegT E N fr h.get nx fr' h'.get nx' fun K a w => (∀ a w, K a w → Q .normal a w) → (Code.region id ops true).wp P Q a w := by
  have hP0 : Part P E ops N fr h nx ⟨0, fun _ => 0, fun _ => 0, fun _ => und, fun _ => none, fun _ => fr, fun _ => h, fun _ => nx, fun _ => .dead, fun _ _ => False, fun _ _ => DepOn ops 0 0⟩ [] [] fr h nx :=
    ⟨rfl, rfl, rfl, rfl, rfl, rfl, hf, rfl, fun q hq => absurd hq (Nat.not_lt_zero _), fun _ q hqq hq => absurd hq (Nat.not_lt_zero _), fun _ _ => rfl, fun q hq => absurd hq (Nat.not_lt_zero _), fun s hs => (List.not_mem_nil hs).elim, fun q hq => absurd hq (Nat.not_lt_zero _), fun e he => (List.not_mem_nil he).elim⟩
  obtain ⟨X, fr', h', nx', rl', seen', hk, hP, all, len⟩ := drgK_some hc hD hP0 hk
  have hle : nx ≤ nx' := by
    have := Found.nx_le (hP.fin all len fun _ _ _ => True) (Nat.zero_le X.n) (Nat.le_refl _)
    rwa [hP.n0, hP.nx_] at this
  refine ⟨fr', h', nx', hk, hP.fresh, hle, fun Q id ρ a w K hfree hA hI hK hq => ?_⟩
  have hX := hP.fin all len Q
  refine wp_region_any hm (found_any (N := N) (ρ0 := ρ) (w0 := { w with drawn := w.drawn + 1 }) hX (fun q t h => (hP.one q h).dst t) ?_ ops.size _ a _ (by simp) (by omega) ?_ ?_)
  · rw [hP.g0, hP.n0, hP.h_, hP.nx_, hP.fr_]
    intro ρ' a' w' s1 s2 s3
    exact hq _ _ (hK ρ' a' w' ⟨s1.le, s1.free, s1.same, s1.os, s1.tape, s1.output, s1.size, s1.keep, s1.own⟩ s2 s3)
  · intro j oj hj hl
    simp [Array.getElem?_replicate] at hl
    split at hl <;> simp at hl
  · have hno : ∀ q, ¬ ((Array.replicate ops.size false).getD (X.ix q) false = true) := fun q h => by
      simp [Array.getElem?_replicate] at h
      split at h <;> simp at h
    refine ⟨ρ, 0, (X.h 0).get, Nat.zero_le _, fun q _ h => absurd h (hno q), .inl rfl, fun id m t => ?_, ?_, ?_, ?_, ?_⟩
    · refine ⟨.inl, ?_⟩
      rintro (h | ⟨q, _, h, _⟩)
      · exact h
      · exact absurd h (hno q)
    · rw [hP.n0, hP.nx_]
      exact ⟨hle, hfree, fun _ _ => rfl, rfl, rfl, rfl, Nat.le_refl _, fun _ _ _ => rfl, fun i n t L h1 h2 => .inr ⟨i, n, t, L, h1, h2, rfl⟩⟩
    · rw [hP.g0]; exact ⟨hI.at_, hI.inj⟩
    · intro q hq _ i h1 h2
      refine hfree i (Nat.le_trans ?_ h1) (Nat.lt_of_lt_of_le h2 ?_)
      · have := Found.nx_le hX (Nat.zero_le q) (by omega); rwa [hP.n0] at this
      · have := Found.nx_le hX (show q + 1 ≤ X.n by omega) (Nat.le_refl _); rwa [hP.nx_] at this
    · refine ⟨hA.defers, hA.size, fun t av h => hA.at_ t av ?_⟩
      rcases h with ⟨q, _, h, _⟩ | ⟨_, h⟩
      · exact absurd h (hno q)
      · rwa [hP.f0] at h
end
end Go.Proofs.YtdnahdcjnahfkaaGreatDoor.Ev
set_option linter.unusedVariables false
set_option linter.unusedSimpArgs false
namespace Go.Proofs.YtdnahdcjnahfkaaGreatDoor.Ev
open Go

noncomputable def res1 (r : CRes) : T AV → T Blk → (AV → Bool) → Bool := @CRes.rec (fun _ => T AV → T Blk → (AV → Bool) → Bool) (fun t fr _ k => getK k fr t) (fun t => rLd1 (.tmp t)) (fun n t => rLdn n (.tmp t)) r
noncomputable def resK (rs : List CRes) (fr : T AV) (h : T Blk) : (List AV → Bool) → Bool := @List.rec CRes (fun _ => (List AV → Bool) → Bool) (fun k => k []) (fun r _ ih k => res1 r fr h fun v => ih fun vs => k (v :: vs)) rs
noncomputable def oneV (vs : List AV) (k : AV → Bool) : Bool := @List.rec AV (fun _ => Bool) (k (.tup [])) (fun v rest _ => @List.rec AV (fun _ => Bool) (k v) (fun _ _ _ => k (.tup vs)) rest) vs
/-- By how it ended. -/
noncomputable def cxK (n : Bool) (e : Nat → Bool) (r : Bool) (x : CX) : Bool := @CX.rec (fun _ => Bool) n e r x
noncomputable def loopK (body : T AV → T Blk → Nat → KX → Bool) (fuel : Nat) : T AV → T Blk → Nat → KX → Bool :=
  @Nat.rec (fun _ => T AV → T Blk → Nat → KX → Bool) (fun _ _ _ _ => false) (fun _ ih fr h nx k => body fr h nx fun x fr h nx => cxK (ih fr h nx k) (fun i => k (.exit i) fr h nx) (k .ret fr h nx) x) fuel
noncomputable def codeK (F : Facts) (call : CallF) (fuel : Nat) (c : CCode) : T AV → T Blk → Nat → KX → Bool :=
  @CCode.rec (fun _ => T AV → T Blk → Nat → KX → Bool) (fun fr h nx k => k .norm fr h nx) (fun l fr h nx k => regK F call l fr h nx fun fr h nx => k .norm fr h nx) (fun l fr h nx k => drgK F call l fr h nx [] fun fr h nx => k .norm fr h nx)
    (fun _ _ iha ihb fr h nx k => iha fr h nx fun x fr h nx => cxK (ihb fr h nx k) (fun i => k (.exit i) fr h nx) (k .ret fr h nx) x)
    (fun x _ _ iha ihb fr h nx k => opdK fr (fun v => boolK v fun t => @Bool.rec (fun _ => Bool) (ihb fr h nx k) (iha fr h nx k) t) x)
    (fun i _ ih fr h nx k => ih fr h nx fun x fr h nx => cxK (k .norm fr h nx) (fun j => ifK (Nat.beq j i) (k .norm fr h nx) (k (.exit j) fr h nx)) (k .ret fr h nx) x)
    (fun _ ih fr h nx k => loopK ih fuel fr h nx k) (fun i fr h nx k => k (.exit i) fr h nx) (fun fr h nx k => k .ret fr h nx) c
noncomputable def endK (rs : List CRes) (k : KV) (x : CX) (fr : T AV) (h : T Blk) (nx : Nat) : Bool :=
  cxK (resK rs fr h fun vs => oneV vs fun v => k v h nx) (fun _ => false) (resK rs fr h fun vs => oneV vs fun v => k v h nx) x
noncomputable def bodyK (F : Facts) (call : CallF) (fuel : Nat) (n : Nat) (rs : List CRes) (c : CCode) (as : List AV) (h : T Blk) (nx : Nat) (k : KV) : Bool :=
  lenK as 0 fun m => ifK (Nat.ble m n) (writeK as .l 0 fun fr => codeK F call fuel c fr h nx fun x fr h nx => endK rs k x fr h nx) false
noncomputable def fnK' (F : Facts) (call : CallF) (fuel : Nat) (e : FnE) : List AV → T Blk → Nat → KV → Bool :=
  @FnE.rec (fun _ => List AV → T Blk → Nat → KV → Bool) (fun n rs c => bodyK F call fuel n rs c) (fun g => g) (fun g n rs c => g (bodyK F call fuel n rs c)) e
noncomputable def callK (F : Facts) (fuel : Nat) (ft : T FnE) (d : Nat) : CallF :=
  @Nat.rec (fun _ => CallF) (fun _ _ _ _ _ => false) (fun _ ih i as h nx k => getK (fun e => fnK' F ih fuel e as h nx k) ft i) d

/-- What is never run. -/
noncomputable def badC : CCode := .reg [.mk none none (.p (.eqp 3 false (.const .nilp) (.const .nilp)))]
def CX.to : CX → Exit
  | .norm => .normal
  | .exit i => .exit i
  | .ret => .ret
inductive CodeRel (P : Program) (E : Env) (F : Facts) (N : Nat) : Code → CCode → Prop where
  | skip : CodeRel P E F N .skip .skip
  | label (l : Nat) : CodeRel P E F N (.label l) .skip
  | reg {id : Nat} {ops : Array Oper} {l : List COper} (h : RegRel P E F ops N ops.toList l) : CodeRel P E F N (.region id ops false) (.reg l)
  | drg {id : Nat} {ops : Array Oper} {l : List DOper} (h : DRel P E F ops N [] l) : CodeRel P E F N (.region id ops true) (.drg l)
  | seq {a b : Code} {ca cb : CCode} (ha : CodeRel P E F N a ca) (hb : CodeRel P E F N b cb) : CodeRel P E F N (.seq a b) (.seq ca cb)
  | cond {x : Operand} {a b : Code} {cx : COpd} {ca cb : CCode} (hx : OpdOk E x cx) (ha : CodeRel P E F N a ca) (hb : CodeRel P E F N b cb) : CodeRel P E F N (.cond x a b) (.cond cx ca cb)
  | block {i : Nat} {a : Code} {ca : CCode} (h : CodeRel P E F N a ca) : CodeRel P E F N (.block i a) (.block i ca)
  | loop {a : Code} {ca : CCode} (h : CodeRel P E F N a ca) : CodeRel P E F N (.loop a) (.loop ca)
  | exit (i : Nat) : CodeRel P E F N (.exit i) (.exit i)
  | ret : CodeRel P E F N .ret .ret
  | bad (c : Code) : CodeRel P E F N c badC
inductive ResRel (P : Program) : List ResultVar → List CRes → Prop where
  | nil : ResRel P [] []
  | tmp {t : Nat} {l : List ResultVar} {cl : List CRes} (h : ResRel P l cl) : ResRel P (.tmp t :: l) (.tmp t :: cl)
  | c1 {t ct : Nat} {l : List ResultVar} {cl : List CRes} (hg : ∀ w, (isAgg ct).run P w = .ok false w) (h : ResRel P l cl) : ResRel P (.cell t ct :: l) (.c1 t :: cl)
  | cn {t ct : Nat} {it : TypeInfo} {l : List ResultVar} {cl : List CRes} (hg : ∀ w, (isAgg ct).run P w = .ok true w) (hi : P.info? ct = some it) (h : ResRel P l cl) : ResRel P (.cell t ct :: l) (.cn it.size t :: cl)
inductive FnRel (P : Program) (E : Env) (F : Facts) (i : Nat) : FnE → Prop where
  | code {fn : Func} {b : Code} {rs : List CRes} {c : CCode} (hf : P.funcs[i]? = some fn) (hb : fn.body = some b) (hn : (fn.name == "runtime.NumGoroutine") = false) (hr : ResRel P fn.results.toList rs) (hc : CodeRel P E F fn.ntmps b c) : FnRel P E F i (.code fn.ntmps rs c)
  | orc {g : List AV → T Blk → Nat → KV → Bool} (hg : ∀ as h nx k, g as h nx k = true → Fresh h nx → ∃ r h' nx', k r h' nx' = true ∧ Fresh h' nx' ∧ nx ≤ nx' ∧ CallR P E i as h.get nx r h'.get nx') : FnRel P E F i (.orc g)
  | mix {g : (List AV → T Blk → Nat → KV → Bool) → List AV → T Blk → Nat → KV → Bool} {fn : Func} {b : Code} {rs : List CRes} {c : CCode} (hf : P.funcs[i]? = some fn) (hb : fn.body = some b) (hn : (fn.name == "runtime.NumGoroutine") = false) (hr : ResRel P fn.results.toList rs) (hc : CodeRel P E F fn.ntmps b c)
      (hg : ∀ run : List AV → T Blk → Nat → KV → Bool, (∀ as h nx k, run as h nx k = true → Fresh h nx → ∃ r h' nx', k r h' nx' = true ∧ Fresh h' nx' ∧ nx ≤ nx' ∧ CallR P E i as h.get nx r h'.get nx') →
        ∀ as h nx k, g run as h nx k = true → Fresh h nx → ∃ r h' nx', k r h' nx' = true ∧ Fresh h' nx' ∧ nx ≤ nx' ∧ CallR P E i as h.get nx r h'.get nx') : FnRel P E F i (.mix g fn.ntmps rs c)

section
variable {P : Program} {E : Env} {F : Facts} {N : Nat}
/-- What code does. -/
def CodeT (P : Program) (E : Env) (N : Nat) (c : Code) (fr : T AV) (H : Heap) (nx : Nat) (x : CX) (fr' : T AV) (H' : Heap) (nx' : Nat) : Prop :=
  ∀ (Q : Exit → Act → World → Prop), RegT E N fr H nx fr' H' nx' fun K a w => (∀ a w, K a w → Q x.to a w) → c.wp P Q a w
theorem RegT.seq {fr fr1 fr' : T AV} {H H1 H' : Heap} {nx nx1 nx' : Nat} {g1 g2 g : (Act → World → Prop) → Act → World → Prop} (hle1 : nx ≤ nx1) (hle2 : nx1 ≤ nx') (h1 : RegT E N fr H nx fr1 H1 nx1 g1) (h2 : RegT E N fr1 H1 nx1 fr' H' nx' g2) (hg : ∀ K a w, g1 (g2 K) a w → g K a w) : RegT E N fr H nx fr' H' nx' g :=
  fun ρ a w K hfree hA hI hK => hg _ _ _ (h1 ρ a w _ (fun i a b => hfree i a (by omega)) hA hI fun ρ1 a1 w1 s1 hA1 hI1 =>
    h2 ρ1 a1 w1 K (fun i a b => by rw [s1.same i (by omega)]; exact hfree i (by omega) b) hA1 hI1 fun ρ2 a2 w2 s2 hA2 hI2 => hK ρ2 a2 w2 (s1.trans s2) hA2 hI2)
theorem RegT.skip {fr : T AV} {H : Heap} {nx : Nat} {g : (Act → World → Prop) → Act → World → Prop} (hg : ∀ (K : Act → World → Prop) a w, K a w → g K a w) : RegT E N fr H nx fr H nx g := fun ρ a w K _ hA hI hK => hg _ _ _ (hK ρ a w Stp.rfl' hA hI)
theorem RegT.of {fr fr' : T AV} {H H' : Heap} {nx nx' : Nat} {g g' : (Act → World → Prop) → Act → World → Prop} (h : RegT E N fr H nx fr' H' nx' g) (hg : ∀ K a w, g K a w → g' K a w) : RegT E N fr H nx fr' H' nx' g' := fun ρ a w K hf hA hI hK => hg _ _ _ (h ρ a w K hf hA hI hK)

theorem loopK_some {c : Code} {body : T AV → T Blk → Nat → KX → Bool}
    (hb : ∀ {fr : T AV} {h : T Blk} {nx : Nat} {k : KX}, body fr h nx k = true → Fresh h nx → ∃ x fr' h' nx', k x fr' h' nx' = true ∧ Fresh h' nx' ∧ nx ≤ nx' ∧ CodeT P E N c fr h.get nx x fr' h'.get nx') :
    ∀ {fuel : Nat} {fr : T AV} {h : T Blk} {nx : Nat} {k : KX}, loopK body fuel fr h nx k = true → Fresh h nx →
      ∃ x fr' h' nx', k x fr' h' nx' = true ∧ Fresh h' nx' ∧ nx ≤ nx' ∧ ∀ (Q : Exit → Act → World → Prop), RegT E N fr h.get nx fr' h'.get nx' fun K a w => (∀ a w, K a w → Q x.to a w) → Code.rounds P c Q fuel a w := by
  intro fuel
  induction fuel with
  | zero => intro fr h nx k hk; cases hk
  | succ fuel ih =>
    intro fr h nx k hk hf
    obtain ⟨x, fr1, h1, nx1, hk, hf1, hle, hT⟩ := hb (k := fun x fr h nx => cxK (loopK body fuel fr h nx k) (fun i => k (.exit i) fr h nx) (k .ret fr h nx) x) hk hf
    cases x with
    | norm =>
      obtain ⟨x', fr', h', nx', hk, hf', hle', hT'⟩ := ih (k := k) hk hf1
      exact ⟨x', fr', h', nx', hk, hf', by omega, fun Q => RegT.seq hle hle' (hT (Exit.then (Code.rounds P c Q fuel) Q)) (hT' Q) fun K a w h hq => by rw [rounds_succ]; exact h fun a w hk => hk hq⟩
    | exit i => exact ⟨.exit i, fr1, h1, nx1, hk, hf1, hle, fun Q => (hT (Exit.then (Code.rounds P c Q fuel) Q)).of fun K a w h hq => by rw [rounds_succ]; exact h hq⟩
    | ret => exact ⟨.ret, fr1, h1, nx1, hk, hf1, hle, fun Q => (hT (Exit.then (Code.rounds P c Q fuel) Q)).of fun K a w h hq => by rw [rounds_succ]; exact h hq⟩

theorem codeK_some {call : CallF} (hc : CallOk P E call) (hm : P.follows .mixedOrders = true) {fuel : Nat} {c : Code} {cc : CCode} (hr : CodeRel P E F N c cc) : ∀ {fr : T AV} {h : T Blk} {nx : Nat} {k : KX}, codeK F call fuel cc fr h nx k = true → Fresh h nx →
    ∃ x fr' h' nx', k x fr' h' nx' = true ∧ Fresh h' nx' ∧ nx ≤ nx' ∧ CodeT P E N c fr h.get nx x fr' h'.get nx' := by
  induction hr with
  | skip => intro fr h nx k hk hf; exact ⟨.norm, fr, h, nx, hk, hf, Nat.le_refl _, fun Q => RegT.skip fun K a w hK hq => wp_skip (hq _ _ hK)⟩
  | label l => intro fr h nx k hk hf; exact ⟨.norm, fr, h, nx, hk, hf, Nat.le_refl _, fun Q => RegT.skip fun K a w hK hq => wp_label (hq _ _ hK)⟩
  | exit i => intro fr h nx k hk hf; exact ⟨.exit i, fr, h, nx, hk, hf, Nat.le_refl _, fun Q => RegT.skip fun K a w hK hq => wp_exit (hq _ _ hK)⟩
  | ret => intro fr h nx k hk hf; exact ⟨.ret, fr, h, nx, hk, hf, Nat.le_refl _, fun Q => RegT.skip fun K a w hK hq => wp_ret (hq _ _ hK)⟩
  | bad c =>
    intro fr h nx k hk hf
    have : (false : Bool) = true := hk
    cases this
  | reg hl =>
    intro fr h nx k hk hf
    obtain ⟨fr', h', nx', hk, hf', hle, hT⟩ := regK_some hc hl (k := fun fr h nx => k .norm fr h nx) hk hf
    exact ⟨.norm, fr', h', nx', hk, hf', hle, fun Q => (hT Q).of fun K a w h hq => wp_region_list (h hq)⟩
  | @drg id ops l hl =>
    intro fr h nx k hk hf
    obtain ⟨fr', h', nx', hk, hf', hle, hT⟩ := drg_region hc hm hl (k := fun fr h nx => k .norm fr h nx) hk hf
    exact ⟨.norm, fr', h', nx', hk, hf', hle, fun Q => hT Q id⟩
  | @seq a b ca cb ha hb iha ihb =>
    intro fr h nx k hk hf
    obtain ⟨x, fr1, h1, nx1, hk, hf1, hle, hT⟩ := iha (k := fun x fr h nx => cxK (codeK F call fuel cb fr h nx k) (fun i => k (.exit i) fr h nx) (k .ret fr h nx) x) hk hf
    cases x with
    | norm =>
      obtain ⟨x', fr', h', nx', hk, hf', hle', hT'⟩ := ihb (k := k) hk hf1
      exact ⟨x', fr', h', nx', hk, hf', by omega, fun Q => RegT.seq hle hle' (hT (Exit.then (b.wp P Q) Q)) (hT' Q) fun K a w h hq => wp_seq (h fun a w hk => hk hq)⟩
    | exit i => exact ⟨.exit i, fr1, h1, nx1, hk, hf1, hle, fun Q => (hT (Exit.then (b.wp P Q) Q)).of fun K a w h hq => wp_seq (h hq)⟩
    | ret => exact ⟨.ret, fr1, h1, nx1, hk, hf1, hle, fun Q => (hT (Exit.then (b.wp P Q) Q)).of fun K a w h hq => wp_seq (h hq)⟩
  | @cond x a b cx ca cb hx ha hb iha ihb =>
    intro fr h nx k hk hf
    obtain ⟨v, hk, hv⟩ := hx fr (fun v => boolK v fun t => @Bool.rec (fun _ => Bool) (codeK F call fuel cb fr h nx k) (codeK F call fuel ca fr h nx k) t) hk
    replace hk := boolK_some hk
    obtain ⟨t, rfl, hk⟩ := hk
    have hev : ∀ (ρ : Nat → Option Loc) (A : Act), AInv E ρ N (frOf fr) A → A.eval x = .bool t := fun ρ A hA => by
      have := hv ρ A.eval (Ev.act A) (hA.holds _)
      simpa only [VR] using this
    cases t with
    | false =>
      obtain ⟨x', fr', h', nx', hk, hf', hle', hT'⟩ := ihb (k := k) hk hf
      exact ⟨x', fr', h', nx', hk, hf', hle', fun Q ρ A w K hfree hA hI hK hq => wp_cond_false (hev ρ A hA) (hT' Q ρ A w K hfree hA hI hK hq)⟩
    | true =>
      obtain ⟨x', fr', h', nx', hk, hf', hle', hT'⟩ := iha (k := k) hk hf
      exact ⟨x', fr', h', nx', hk, hf', hle', fun Q ρ A w K hfree hA hI hK hq => wp_cond_true (hev ρ A hA) (hT' Q ρ A w K hfree hA hI hK hq)⟩
  | @block i a ca ha ih =>
    intro fr h nx k hk hf
    obtain ⟨x, fr1, h1, nx1, hk, hf1, hle, hT⟩ := ih (k := fun x fr h nx => cxK (k .norm fr h nx) (fun j => ifK (Nat.beq j i) (k .norm fr h nx) (k (.exit j) fr h nx)) (k .ret fr h nx) x) hk hf
    cases x with
    | norm => exact ⟨.norm, fr1, h1, nx1, hk, hf1, hle, fun Q => (hT (Exit.inBlock i Q)).of fun K a w h hq => wp_block (h hq)⟩
    | ret => exact ⟨.ret, fr1, h1, nx1, hk, hf1, hle, fun Q => (hT (Exit.inBlock i Q)).of fun K a w h hq => wp_block (h hq)⟩
    | exit j =>
      by_cases e : j = i
      · subst e
        have : Nat.beq j j = true := by simp
        change ifK (Nat.beq j j) (k .norm fr1 h1 nx1) (k (.exit j) fr1 h1 nx1) = true at hk
        rw [this] at hk
        exact ⟨.norm, fr1, h1, nx1, hk, hf1, hle, fun Q => (hT (Exit.inBlock j Q)).of fun K a w h hq => wp_block (h fun a w hk => by simp only [CX.to, Exit.inBlock, if_true]; exact hq a w hk)⟩
      · have : Nat.beq j i = false := by cases hb : Nat.beq j i with | false => rfl | true => exact absurd (beq_of hb) e
        change ifK (Nat.beq j i) (k .norm fr1 h1 nx1) (k (.exit j) fr1 h1 nx1) = true at hk
        rw [this] at hk
        exact ⟨.exit j, fr1, h1, nx1, hk, hf1, hle, fun Q => (hT (Exit.inBlock i Q)).of fun K a w h hq => wp_block (h fun a w hk => by simp only [CX.to, Exit.inBlock, if_neg e]; exact hq a w hk)⟩
  | @loop a ca ha ih =>
    intro fr h nx k hk hf
    obtain ⟨x, fr', h', nx', hk, hf', hle, hT⟩ := loopK_some (P := P) (E := E) (N := N) (c := a) (body := codeK F call fuel ca) (fun hk hf => ih hk hf) (fuel := fuel) (k := k) hk hf
    exact ⟨x, fr', h', nx', hk, hf', hle, fun Q => (hT Q).of fun K a w h hq => wp_loop_rounds fuel (h hq)⟩

def ResV (P : Program) (tmps : Array Value) (w : World) (r : ResultVar) (v : Value) : Prop :=
  (match r with | .tmp t => pure (tmps.getD t undef) | .cell a t => do loadVar t (← asAddr (tmps.getD a undef)) : Sem Value).run P w = .ok v w
theorem res_run {w : World} {fn : Func} {tmps : Array Value} : ∀ (rs : List ResultVar) (vs : List Value), fn.results.toList = rs → rs.length = vs.length → (∀ (i : Nat) (r : ResultVar) (v : Value), rs[i]? = some r → vs[i]? = some v → ResV P tmps w r v) →
    (results fn tmps).run P w = .ok (if h : vs.toArray.size = 1 then vs.toArray[0] else .tuple vs.toArray) w := by
  intro rs vs h hl hall
  have key : ∀ (rs : List ResultVar) (vs : List Value), rs.length = vs.length → (∀ (i : Nat) (r : ResultVar) (v : Value), rs[i]? = some r → vs[i]? = some v → ResV P tmps w r v) →
      (rs.mapM (fun (r : ResultVar) => (match r with | .tmp t => pure (tmps.getD t undef) | .cell a t => do loadVar t (← asAddr (tmps.getD a undef)) : Sem Value))).run P w = .ok vs w := by
    intro rs
    induction rs with
    | nil => intro vs hl _; cases vs with | nil => rfl | cons v vs => cases hl
    | cons r rs ih =>
      intro vs hl hall
      cases vs with
      | nil => cases hl
      | cons v vs =>
        have h0 : ResV P tmps w r v := hall 0 r v rfl rfl
        have h1 := ih vs (by simpa using hl) (fun i r v hr hv => hall (i + 1) r v (by simpa using hr) (by simpa using hv))
        unfold ResV at h0
        simp only [List.mapM_cons, Sem.run_bind, h0, Result.andThen_ok, h1]
        rfl
  have h' : fn.results = rs.toArray := by rw [← h]
  unfold results
  rw [h', List.mapM_toArray]
  have := key rs vs hl hall
  simp only [Sem.run_bind, Sem.run_map]
  refine (congrArg (fun r => Result.andThen (Result.andThen r _) _) this).trans ?_
  simp only [Result.andThen_ok]
  rfl
theorem rLd1_some {t ct : Nat} {fr : T AV} {h : T Blk} {k : AV → Bool} (hg : ∀ w, (isAgg ct).run P w = .ok false w) (hk : rLd1 (.tmp t) fr h k = true) :
    ∃ av, k av = true ∧ ∀ ρ (a : Act) w, AInv E ρ N (frOf fr) a → Inv E ρ h.get w → ∃ v, VR E ρ av v ∧ ResV P a.tmps w (.cell t ct) v := by
  replace hk := getK_some (k := fun v => ptrK v fun i p => blkK h i fun n t => ifK (Nat.blt p n) (getK k t p) false) (t := fr) (i := t) hk
  obtain ⟨x, hx, hk⟩ := hk
  replace hk := ptrK_some hk
  obtain ⟨i, p, rfl, hk⟩ := hk
  replace hk := blkK_some hk
  obtain ⟨n, tr, hb, hk⟩ := hk
  obtain ⟨hlt, h1⟩ := ifK_and hk
  obtain ⟨av, hav, h1⟩ := getK_some h1
  have hlt := blt_of hlt
  refine ⟨av, h1, fun ρ a w hA hI => ?_⟩
  have hv := (hA.at_ t _ hx).2
  simp only [VR] at hv
  obtain ⟨L, hL, hv⟩ := hv
  obtain ⟨v, hc, hr, _⟩ := (hI.blk hb hL).cell hlt hav
  exact ⟨v, hr, by unfold ResV; simp only []; rw [hv]; simp [asAddr, loadVar, hg, hc]⟩
theorem rLdn_some {t ct : Nat} {it : TypeInfo} {fr : T AV} {h : T Blk} {k : AV → Bool} (hg : ∀ w, (isAgg ct).run P w = .ok true w) (hi : P.info? ct = some it) (hk : rLdn it.size (.tmp t) fr h k = true) :
    ∃ av, k av = true ∧ ∀ ρ (a : Act) w, AInv E ρ N (frOf fr) a → Inv E ρ h.get w → ∃ v, VR E ρ av v ∧ ResV P a.tmps w (.cell t ct) v := by
  replace hk := getK_some (k := fun v => ptrK v fun i p => blkK h i fun n t => ifK (Nat.ble (Nat.add p it.size) n) (readK t it.size p fun l => k (.agg l)) false) (t := fr) (i := t) hk
  obtain ⟨x, hx, hk⟩ := hk
  replace hk := ptrK_some hk
  obtain ⟨i, p, rfl, hk⟩ := hk
  replace hk := blkK_some hk
  obtain ⟨n, tr, hb, hk⟩ := hk
  obtain ⟨hle, h1⟩ := ifK_and hk
  obtain ⟨l, hl, hlg, h1⟩ := readK_some h1
  have hle := ble_of hle
  refine ⟨_, h1, fun ρ a w hA hI => ?_⟩
  have hv := (hA.at_ t _ hx).2
  simp only [VR] at hv
  obtain ⟨L, hL, hv⟩ := hv
  obtain ⟨vs, g1, _, g3⟩ := (hI.blk hb hL).row hle hl hlg
  have hlen : vs.length = it.size := by rw [g1.length, hl]
  refine ⟨.agg vs.toArray, by simp only [VR]; exact ⟨vs, g1, rfl⟩, ?_⟩
  have hcells := run_loadCells (P := P) (w := w) L.b (L.o + p) vs g3
  rw [hlen] at hcells
  unfold ResV; simp only []; rw [hv]; simp [asAddr, loadVar, hg, run_sizeOf hi, hcells]
theorem resK_some {rs : List ResultVar} {crs : List CRes} (hr : ResRel P rs crs) : ∀ {fr : T AV} {h : T Blk} {k : List AV → Bool}, resK crs fr h k = true →
    ∃ as, k as = true ∧ ∀ ρ (a : Act) w, AInv E ρ N (frOf fr) a → Inv E ρ h.get w → ∃ vs, VRs E ρ as vs ∧ rs.length = vs.length ∧ ∀ (i : Nat) (r : ResultVar) (v : Value), rs[i]? = some r → vs[i]? = some v → ResV P a.tmps w r v := by
  have cons : ∀ {r : ResultVar} {l : List ResultVar} {av : AV} {as : List AV} {fr : T AV} {h : T Blk}, (∀ ρ (a : Act) w, AInv E ρ N (frOf fr) a → Inv E ρ h.get w → ∃ v, VR E ρ av v ∧ ResV P a.tmps w r v) →
      (∀ ρ (a : Act) w, AInv E ρ N (frOf fr) a → Inv E ρ h.get w → ∃ vs, VRs E ρ as vs ∧ l.length = vs.length ∧ ∀ (i : Nat) (r : ResultVar) (v : Value), l[i]? = some r → vs[i]? = some v → ResV P a.tmps w r v) →
      ∀ ρ (a : Act) w, AInv E ρ N (frOf fr) a → Inv E ρ h.get w → ∃ vs, VRs E ρ (av :: as) vs ∧ (r :: l).length = vs.length ∧ ∀ (i : Nat) (r' : ResultVar) (v : Value), (r :: l)[i]? = some r' → vs[i]? = some v → ResV P a.tmps w r' v := by
    intro r l av as fr h h1 h2 ρ a w hA hI
    obtain ⟨v, hv, hr⟩ := h1 ρ a w hA hI
    obtain ⟨vs, hvs, hl, hrs⟩ := h2 ρ a w hA hI
    refine ⟨v :: vs, VRs.cons hv hvs, by simp [hl], fun i r' v' h1 h2 => ?_⟩
    cases i with
    | zero => simp at h1 h2; subst h1; subst h2; exact hr
    | succ i => exact hrs i r' v' (by simpa using h1) (by simpa using h2)
  induction hr with
  | nil => intro fr h k hk; exact ⟨[], hk, fun ρ a w _ _ => ⟨[], VRs.nil, rfl, fun i r v h => by simp at h⟩⟩
  | @tmp t l cl hs ih =>
    intro fr h k hk
    replace hk := getK_some (k := fun v => resK cl fr h fun vs => k (v :: vs)) (t := fr) (i := t) hk
    obtain ⟨v, hv, hk⟩ := hk
    obtain ⟨as, hk, h2⟩ := ih hk
    exact ⟨v :: as, hk, cons (fun ρ a w hA hI => ⟨_, (hA.at_ t v hv).2, rfl⟩) h2⟩
  | @c1 t ct l cl hg hs ih =>
    intro fr h k hk
    obtain ⟨v, hk, h1⟩ := rLd1_some (E := E) (N := N) hg (k := fun v => resK cl fr h fun vs => k (v :: vs)) hk
    obtain ⟨as, hk, h2⟩ := ih hk
    exact ⟨v :: as, hk, cons h1 h2⟩
  | @cn t ct it l cl hg hi hs ih =>
    intro fr h k hk
    obtain ⟨v, hk, h1⟩ := rLdn_some (E := E) (N := N) hg hi (k := fun v => resK cl fr h fun vs => k (v :: vs)) hk
    obtain ⟨as, hk, h2⟩ := ih hk
    exact ⟨v :: as, hk, cons h1 h2⟩
theorem oneV_some {as : List AV} {k : AV → Bool} (h : oneV as k = true) : ∃ r, k r = true ∧ ∀ ρ vs, VRs E ρ as vs → VR E ρ r (if h : vs.toArray.size = 1 then vs.toArray[0] else .tuple vs.toArray) := by
  match as, h with
  | [], h =>
    refine ⟨_, h, fun ρ vs hv => ?_⟩
    simp only [VRs] at hv; subst hv
    simp only [VR]; exact ⟨[], VRs.nil, by simp⟩
  | [x], h =>
    refine ⟨_, h, fun ρ vs hv => ?_⟩
    simp only [VRs] at hv
    obtain ⟨v, r, h1, h2, rfl⟩ := hv
    subst h2
    simpa using h1
  | x :: y :: l, h =>
    refine ⟨_, h, fun ρ vs hv => ?_⟩
    have hl := hv.length
    have : ¬ vs.toArray.size = 1 := by simp; simp at hl; omega
    rw [dif_neg this]
    simp only [VR]; exact ⟨vs, hv, rfl⟩

theorem bodyK_some {call : CallF} (ih : CallOk P E call) (hm : P.follows .mixedOrders = true) {fuel f : Nat} {fn : Func} {b : Code} {rs : List CRes} {c : CCode} (hf : P.funcs[f]? = some fn) (hb : fn.body = some b) (hn : (fn.name == "runtime.NumGoroutine") = false) (hr : ResRel P fn.results.toList rs) (hc : CodeRel P E F fn.ntmps b c)
    {as : List AV} {h : T Blk} {nx : Nat} {k : KV} (hk : bodyK F call fuel fn.ntmps rs c as h nx k = true) (hfr : Fresh h nx) : ∃ r h' nx', k r h' nx' = true ∧ Fresh h' nx' ∧ nx ≤ nx' ∧ CallR P E f as h.get nx r h'.get nx' := by
  have hhas : FnHas P f := ⟨fn, hf, by rw [hb]; rfl, hn⟩
  change lenK as 0 (fun m => ifK (Nat.ble m fn.ntmps) (writeK as .l 0 fun fr => codeK F call fuel c fr h nx fun x fr h nx => endK rs k x fr h nx) false) = true at hk
  rw [lenK_eq] at hk
  obtain ⟨hle, hk⟩ := ifK_and hk
  have hle := ble_of hle
  rw [Nat.zero_add] at hle
  obtain ⟨fr0, hfr0, hk⟩ := writeK_some hk
  obtain ⟨x, fr', h', nx', hk, hf', hle', hT⟩ := codeK_some ih hm hc (k := fun x fr h nx => endK rs k x fr h nx) hk hfr
  have start : ∀ ρ vs, VRs E ρ as vs → AInv E ρ fn.ntmps (frOf fr0) { tmps := vs.toArray ++ Array.replicate (fn.ntmps - vs.toArray.size) undef, defers := [] } := by
    intro ρ vs hvs
    have hl := hvs.length
    refine ⟨rfl, by simp; omega, fun t av h => ?_⟩
    unfold frOf at h
    rw [hfr0] at h
    have hgl : (T.l : T AV).get t = none := by cases t <;> rfl
    by_cases ht : t < as.length
    · rw [if_pos ⟨Nat.zero_le _, by omega⟩, Nat.sub_zero] at h
      obtain ⟨u, hu, hv⟩ := hvs.get h
      refine ⟨by omega, ?_⟩
      have hlt : t < vs.length := by omega
      simp only [Array.getD_eq_getD_getElem?]
      rw [Array.getElem?_append_left (by simpa using hlt)]
      simpa [hu] using hv
    · rw [if_neg (by omega), hgl] at h; cases h
  have fin : x.to = .normal ∨ x.to = .ret → (resK rs fr' h' fun vs => oneV vs fun v => k v h' nx') = true → ∃ r h'' nx'', k r h'' nx'' = true ∧ Fresh h'' nx'' ∧ nx ≤ nx'' ∧ CallR P E f as h.get nx r h''.get nx'' := by
    intro hx hk
    obtain ⟨rs', hk, hR⟩ := resK_some (E := E) (N := fn.ntmps) hr hk
    obtain ⟨r, hk, hr1⟩ := oneV_some (E := E) hk
    refine ⟨r, h', nx', hk, hf', hle', .inl ⟨hhas, fun ρ w vs hfree hI hvs => ?_⟩⟩
    refine calls_of_wp hf hb (hT _ ρ _ w (fun a w' => ∃ ρ', Stp ρ h.get w nx ρ' h'.get w' nx' ∧ AInv E ρ' fn.ntmps (frOf fr') a ∧ Inv E ρ' h'.get w') hfree (start ρ vs hvs) hI (fun ρ' a' w' s1 s2 s3 => ⟨ρ', s1, s2, s3⟩) ?_)
    rintro a' w' ⟨ρ', s1, s2, s3⟩
    obtain ⟨vs', g1, g2, g3⟩ := hR ρ' a' w' s2 s3
    have hrun := res_run (P := P) (fn := fn) (tmps := a'.tmps) _ vs' rfl g2 g3
    rcases hx with hx | hx <;> rw [hx] <;> exact ⟨s2.defers, _, hrun, _, rfl, ρ', s1, s3, hr1 ρ' vs' g1⟩
  cases x with
  | norm => exact fin (.inl rfl) hk
  | ret => exact fin (.inr rfl) hk
  | exit i => cases hk
theorem callK_some (hm : P.follows .mixedOrders = true) {fuel : Nat} {ft : T FnE} (hft : ∀ i e, ft.get i = some e → FnRel P E F i e) : ∀ d, CallOk P E (callK F fuel ft d) := by
  intro d
  induction d with
  | zero => intro f as h nx k hk; cases hk
  | succ d ih =>
    intro f as h nx k hk hfr
    replace hk := getK_some (k := fun e => fnK' F (callK F fuel ft d) fuel e as h nx k) (t := ft) (i := f) hk
    obtain ⟨e, he, hk⟩ := hk
    have hrel := hft f e he
    cases hrel with
    | orc hg => exact hg as h nx k hk hfr
    | @code fn b rs c hf hb hn hr hc => exact bodyK_some ih hm hf hb hn hr hc hk hfr
    | @mix g fn b rs c hf hb hn hr hc hg => exact hg _ (fun as h nx k hk hfr => bodyK_some ih hm hf hb hn hr hc hk hfr) as h nx k hk hfr
end
end Go.Proofs.YtdnahdcjnahfkaaGreatDoor.Ev
namespace Go.Proofs.YtdnahdcjnahfkaaGreatDoor.Ev
open Go

/-- What is not known: it is never run. -/
noncomputable def stuckOp : COp := .p (.eqp 3 false (.const .nilp) (.const .nilp))
section
variable {P : Program} {E : Env} {F : Facts} {o : Oper}
theorem stuck_ok : OpRel P E F o stuckOp := fun fr k h => by
  have : (false : Bool) = true := h
  cases this
def Got (P : Program) (E : Env) (F : Facts) (o : Oper) (k : COp → Bool) : Prop := ∃ c, k c = true ∧ OpRel P E F o c
theorem stuck_got {k : COp → Bool} (h : k stuckOp = true) : Got P E F o k := ⟨_, h, stuck_ok⟩
end

noncomputable def zeroK (z : Option Value) (k : Value → Bool) : Bool := @Option.rec Value (fun _ => Bool) false (fun v => k v) z
theorem zeroK_some {z : Option Value} {k : Value → Bool} (h : zeroK z k = true) : ∃ v, z = some v ∧ k v = true := by cases z <;> first | exact ⟨_, rfl, h⟩ | cases h
noncomputable def stepsK (tt : T TypeInfo) (fs : List Field) : (List (Nat × Nat) → Bool) → Bool :=
  @List.rec Field (fun _ => (List (Nat × Nat) → Bool) → Bool) (fun k => k []) (fun f _ ih k => infoK tt f.type fun i => forceN f.offset fun o => forceN i.size fun n => ih fun r => k ((o, n) :: r)) fs
noncomputable def partsK (pl : List (Nat × Nat)) (ps : List (Nat × Operand)) : (List (Nat × Nat × COpd) → Bool) → Bool :=
  @List.rec (Nat × Operand) (fun _ => (List (Nat × Nat × COpd) → Bool) → Bool) (fun k => k []) (fun p _ ih k => nthK pl p.1 fun q => copdK p.2 fun c => ih fun r => k ((q.1, q.2, c) :: r)) ps
noncomputable def partsLK (es : Nat) (ps : List (Nat × Operand)) : (List (Nat × Nat × COpd) → Bool) → Bool :=
  @List.rec (Nat × Operand) (fun _ => (List (Nat × Nat × COpd) → Bool) → Bool) (fun k => k []) (fun p _ ih k => forceN (Nat.mul p.1 es) fun o => copdK p.2 fun c => ih fun r => k ((o, es, c) :: r)) ps
noncomputable def isConst (x : Operand) (y n : Bool) : Bool := @Operand.casesOn (fun _ => Bool) x (fun _ => n) (fun _ => y) (fun _ => n) (fun _ => n)
theorem isConst_some {x : Operand} {y n : Bool} (h : isConst x y n = true) : ((∃ v, x = .const v) ∧ y = true) ∨ n = true := by cases x <;> first | exact .inl ⟨⟨_, rfl⟩, h⟩ | exact .inr h

section
variable (P : Program) (tt : T TypeInfo)
noncomputable def cMove (x : Operand) (k : COp → Bool) : Bool := copdK x fun c => k (.p (.mv c))
noncomputable def cPick (a b c : Operand) (k : COp → Bool) : Bool := copdK a fun a => copdK b fun b => copdK c fun c => k (.p (.pick a b c))
noncomputable def cAlloc (t : Nat) (k : COp → Bool) : Bool := infoK tt t fun it => zeroK it.zero fun z => constCellsK z fun zs => forceN t fun t => k (.a (.newt t zs))
noncomputable def cBox (t : Nat) (x : Operand) (k : COp → Bool) : Bool := copdK x fun c => forceN t fun t => k (.a (.box t c))
noncomputable def cBuild (t : Nat) (ps : Array (Nat × Operand)) (k : COp → Bool) : Bool :=
  undK tt t fun d => structK d fun fs => infoK tt t fun it => zeroK it.zero fun z => constCellsK z fun zs => stepsK tt fs fun pl => partsK pl ps.toList fun cs => k (.p (.build zs cs))
noncomputable def cBslN (t n : Nat) (ps : Array (Nat × Operand)) (k : COp → Bool) : Bool :=
  undK tt t fun d => sliceK d fun el => infoK tt el fun ie => zeroK ie.zero fun z => constCellsK z fun zs => lenK zs 0 fun es => forceN n fun n => ifK (Nat.beq es ie.size) (ifK (Nat.ble (Nat.mul n es) 100000) (ifK (Nat.blt 0 (Nat.mul n es)) (repK zs n fun zs => partsLK es ps.toList fun cs => k (.a (.bsl n es zs cs))) false) false) false
noncomputable def cBsl0 (t : Nat) (ps : Array (Nat × Operand)) (k : COp → Bool) : Bool :=
  @List.rec (Nat × Operand) (fun _ => Bool) (undK tt t fun d => sliceK d fun el => infoK tt el fun ie => forceN ie.size fun es => k (.a (.bsl 0 es [] []))) (fun _ _ _ => false) ps.toList
noncomputable def cBsl (t n : Nat) (ps : Array (Nat × Operand)) (k : COp → Bool) : Bool := @Nat.rec (fun _ => Bool) (cBsl0 tt t ps k) (fun _ _ => cBslN tt t n ps k) n
noncomputable def cLoad (t : Nat) (x : Operand) (k : COp → Bool) : Bool :=
  undK tt t fun d => aggDK d (infoK tt t fun it => forceN it.size fun n => copdK x fun c => k (.r (.ldn n c))) (copdK x fun c => k (.r (.ld1 c)))
noncomputable def cStore (t : Nat) (x y : Operand) (k : COp → Bool) : Bool := infoK tt t fun it => forceN it.size fun n => copdK x fun c => copdK y fun d => k (.e (.st n c d))
noncomputable def cNilck (x : Operand) (k : COp → Bool) : Bool := copdK x fun c => k (.p (.nilck c))
noncomputable def cBin (op : BinOp) (t : Nat) (x y : Operand) (k : COp → Bool) : Bool :=
  undK tt t fun d => tagK d fun n => copdK x fun c => copdK y fun d => ifK (Nat.beq n 2) (k (.p (.tb op c d))) (k (.p (.ib op c d)))
/-- A type of numbers that may be held against each other. -/
noncomputable def numT (u : Nat) (k : IntKind → Bool) : Bool := undK tt u fun d => intDK d fun q => infoK tt u fun i => ifK i.comparable (k q) false
/-- The methods that a type lacks: none? -/
noncomputable def lackK (ms : Array (String × TypeId)) (u : Nat) (k : Bool → Bool) : Bool := infoK tt u fun i => forceB (lacking ms i.methods).isEmpty k
noncomputable def findM (nm : String) (k : Method → Bool) (l : List Method) : Bool := @List.rec Method (fun _ => Bool) false (fun m _ ih => ifK (m.name == nm) (k m) ih) l
noncomputable def nilL {β : Type} (l : List β) (k : Bool) : Bool := @List.rec β (fun _ => Bool) k (fun _ _ _ => false) l
noncomputable def ptrDK (d : TypeDesc) (y n : Bool) : Bool := shapeK d fun m => ifK (Nat.beq m 3) y n
noncomputable def methFK (d : TypeDesc) (k : Nat → Bool) (f : Option (FuncId × Bool)) : Bool := @Option.rec (FuncId × Bool) (fun _ => Bool) false (fun p => @Bool.rec (fun _ => Bool) (ptrDK d false (k p.1)) (ptrDK d (k p.1) false) p.2) f
/-- The function that a method's name leads to, by the type. -/
noncomputable def methK (nm : String) (t : Nat) (k : Nat → Bool) : Bool := infoK tt t fun i => undK tt t fun d => findM nm (fun m => nilL m.path.toList (methFK d (fun f => forceN f k) m.func)) i.methods.toList
/-- A pointer's type; unsafe pointers. -/
noncomputable def pointerDK (d : TypeDesc) (k : Nat → Bool) (e : Bool) : Bool :=
  @TypeDesc.casesOn (fun _ => Bool) d e e (fun _ => e) (fun _ => e) (fun _ => e) e e (fun t => k t) (fun _ => e) (fun _ _ => e) (fun _ _ => e) (fun _ _ => e) (fun _ => e) (fun _ _ _ => e) (fun _ => e) (fun _ => e) (fun _ _ => e)
theorem pointerDK_some {d : TypeDesc} {k : Nat → Bool} {e : Bool} (h : pointerDK d k e = true) : (∃ t, d = .pointer t ∧ k t = true) ∨ e = true := by
  cases d <;> first | exact .inl ⟨_, rfl, h⟩ | exact .inr h
noncomputable def rawDK (d : TypeDesc) (y e : Bool) : Bool :=
  @TypeDesc.casesOn (fun _ => Bool) d e e (fun _ => e) (fun _ => e) (fun _ => e) e y (fun _ => e) (fun _ => e) (fun _ _ => e) (fun _ _ => e) (fun _ _ => e) (fun _ => e) (fun _ _ _ => e) (fun _ => e) (fun _ => e) (fun _ _ => e)
theorem rawDK_some {d : TypeDesc} {y e : Bool} (h : rawDK d y e = true) : (d = .unsafePointer ∧ y = true) ∨ e = true := by
  cases d <;> first | exact .inl ⟨rfl, h⟩ | exact .inr h
/-- Equality; 'neg': the other way. -/
noncomputable def cEq (neg : Bool) (t : Nat) (x y : Operand) (k : COp → Bool) : Bool :=
  undK tt t fun d0 => shapeK d0 fun n => copdK x fun c => copdK y fun d =>
    ifK (Nat.beq n 8) (k (.p (.eqp 0 neg c d))) (ifK (Nat.beq n 4) (k (.p (.eqp 1 neg c d))) (ifK (Nat.beq n 0) (k (.p (.eqp 2 neg c d)))
      (ifK (Nat.beq n 7) (notB (P.eqGuardType P.depth t) (leavesK P tt 20 t fun l => k (.p (.eqs l neg c d)))) (isConst x (k (.p (.eqn n neg c d))) (isConst y (k (.p (.eqn n neg c d))) (pointerDK d0 (fun e => infoK tt e fun _ => k (.p (.eqpp neg c d))) (ifaceDK d0 fun _ => k (.p (.eqi neg (numT tt) c d)))))))))
noncomputable def cBinop (op : BinOp) (t : Nat) (x y : Operand) (k : COp → Bool) : Bool :=
  @BinOp.casesOn (fun _ => Bool) op (cBin tt .add t x y k) (cBin tt .sub t x y k) (cBin tt .mul t x y k) (cBin tt .quo t x y k) (cBin tt .rem t x y k) (cBin tt .and t x y k) (cBin tt .or t x y k) (cBin tt .xor t x y k) (cBin tt .shl t x y k) (cBin tt .shr t x y k) (cBin tt .andNot t x y k)
    (cEq P tt false t x y k) (cEq P tt true t x y k) (cBin tt .lss t x y k) (cBin tt .leq t x y k) (cBin tt .gtr t x y k) (cBin tt .geq t x y k)
noncomputable def cUn (op : UnOp) (x : Operand) (k : COp → Bool) : Bool := @UnOp.casesOn (fun _ => Bool) op (copdK x fun c => k (.p (.neg c))) (k stuckOp) (copdK x fun c => k (.p (.not c))) (k stuckOp)
noncomputable def cRaw (s d : Nat) (x : Operand) (k : COp → Bool) (e : Bool) : Bool :=
  undK tt s fun ds => undK tt d fun dd => rawDK dd (pointerDK ds (fun t => infoK tt t fun it => ifK (Nat.blt 0 it.size) (copdK x fun c => k (.r (.tou c))) false) false)
    (rawDK ds (pointerDK dd (fun u => infoK tt u fun it => forceN it.size fun m => ifK (Nat.blt 0 m) (copdK x fun c => forceN u fun u => k (.r (.fru u m c))) false) false) e)
noncomputable def cConv (s d : Nat) (x : Operand) (k : COp → Bool) : Bool :=
  undK tt s fun ds => undK tt d fun dd => shapeK dd fun n => copdK x fun c => ifK (Nat.beq n 4) (intDK dd fun q => k (.p (.conv q c)))
    (ifK (Nat.beq n 0) (sliceK ds fun e => undK tt e fun de => intDK de fun q => ifK (kindEq q .u8) (k (.r (.b2s c))) false)
      (sliceK dd fun e => undK tt e fun de => intDK de fun q => ifK (kindEq q .u8) (shapeK ds fun m => ifK (Nat.beq m 0) (k (.a (.s2b c))) false) false))
noncomputable def cMkif (t : Nat) (x : Operand) (k : COp → Bool) : Bool := undK tt t fun d => shapeK d fun n => ifK (Nat.beq n 5) (k stuckOp) (copdK x fun c => forceN t fun t => k (.p (.mkif t c)))
noncomputable def cMkfn (f : Fn) (a b : Array Operand) (k : COp → Bool) : Bool := copdsK a.toList fun a => copdsK b.toList fun b => k (.p (.mkfn f a b))
noncomputable def cMksl (t : Nat) (x y : Operand) (k : COp → Bool) : Bool :=
  undK tt t fun d => sliceK d fun el => infoK tt el fun ie => zeroK ie.zero fun z => constCellsK z fun zs => lenK zs 0 fun es => ifK (Nat.beq es ie.size) (ifK (Nat.blt 0 es) (copdK x fun c => copdK y fun d => forceN ie.bytes fun bs => k (.a (.mksl bs es zs c d))) false) false
noncomputable def cSlice (t : Nat) (x : Operand) (lo hi mx : Option Operand) (k : COp → Bool) : Bool :=
  undK tt t fun d => shapeK d fun n => copdK x fun c => coptK lo fun cl => coptK hi fun ch =>
    ifK (Nat.beq n 0) (optNone mx (k (.p (.slcs c cl ch)))) (ifK (Nat.beq n 1) (sliceK d fun el => infoK tt el fun ie => forceN ie.size fun es => coptK mx fun cm => @Option.rec Operand (fun _ => Bool) (k (.p (.slc es c cl ch cm))) (fun _ => @Option.rec Operand (fun _ => Bool) false (fun _ => k (.p (.slc es c cl ch cm))) hi) mx) (k stuckOp))
noncomputable def cFaddr (s : Nat) (x : Operand) (j : Nat) (k : COp → Bool) : Bool :=
  undK tt s fun d => structK d fun fs => nthK fs j fun f => infoK tt f.type fun it => ifK (Nat.blt 0 it.size) (forceN f.offset fun o => copdK x fun c => k (.p (.faddr o c))) false
noncomputable def cField (s : Nat) (x : Operand) (j : Nat) (k : COp → Bool) : Bool :=
  undK tt s fun d => structK d fun fs => nthK fs j fun f => undK tt f.type fun e => forceN f.offset fun o => copdK x fun c =>
    aggDK e (infoK tt f.type fun it => forceN it.size fun n => k (.p (.fld o n true c))) (k (.p (.fld o 0 false c)))
noncomputable def cIaddr (t : Nat) (x j : Operand) (k : COp → Bool) : Bool :=
  undK tt t fun d => shapeK d fun n => copdK x fun c => copdK j fun e =>
    ifK (Nat.beq n 1) (sliceK d fun el => infoK tt el fun ie => forceN ie.size fun es => k (.p (.iaddr es c e)))
      (ifK (Nat.beq n 2) (arrayK d fun m el => infoK tt el fun ie => forceN ie.size fun es => forceN m fun m => k (.p (.iaddra m es c e))) (k stuckOp))
noncomputable def cIndex (t : Nat) (x j : Operand) (k : COp → Bool) : Bool :=
  undK tt t fun d => shapeK d fun n => ifK (Nat.beq n 0) (copdK x fun c => copdK j fun e => k (.p (.idxs c e))) (k stuckOp)
noncomputable def cTass (x : Operand) (t : Nat) (ok : Bool) (k : COp → Bool) : Bool :=
  undK tt t fun d => shapeK d fun n => infoK tt t fun it => zeroK it.zero fun z => constK z fun za => copdK x fun c => ifK (Nat.beq n 5) (@Bool.rec (fun _ => Bool) (k stuckOp) (ifaceDK d fun ms => k (.p (.tassi (lackK tt ms) za c))) ok) (forceN t fun t => k (.p (.tass t za ok c)))
noncomputable def cExt (x : Operand) (i : Nat) (k : COp → Bool) : Bool := copdK x fun c => forceN i fun i => k (.p (.ext i c))
/-- Lists of one, of two. -/
noncomputable def l1K {β : Type} (l : List β) (k : β → Bool) (no : Bool) : Bool := @List.rec β (fun _ => Bool) no (fun x r _ => @List.rec β (fun _ => Bool) (k x) (fun _ _ _ => no) r) l
noncomputable def l2K {β : Type} (l : List β) (k : β → β → Bool) (no : Bool) : Bool := @List.rec β (fun _ => Bool) no (fun x r _ => l1K r (fun y => k x y) no) l
theorem l1K_some {β : Type} {l : List β} {k : β → Bool} {no : Bool} (h : l1K l k no = true) : (∃ x, l = [x] ∧ k x = true) ∨ no = true := by
  match l, h with
  | [], h => exact .inr h
  | [x], h => exact .inl ⟨x, rfl, h⟩
  | _ :: _ :: _, h => exact .inr h
theorem l2K_some {β : Type} {l : List β} {k : β → β → Bool} {no : Bool} (h : l2K l k no = true) : (∃ x y, l = [x, y] ∧ k x y = true) ∨ no = true := by
  match l, h with
  | [], h => exact .inr h
  | x :: r, h =>
    rcases l1K_some (l := r) (k := fun y => k x y) h with ⟨y, rfl, h⟩ | h
    · exact .inl ⟨x, y, rfl, h⟩
    · exact .inr h
noncomputable def cLen (xs : List Operand) (ts : List Nat) (k : COp → Bool) : Bool :=
  l1K xs (fun x => l1K ts (fun t => undK tt t fun d => shapeK d fun n => ifK (Nat.beq n 0) (copdK x fun c => k (.p (.lenv true c))) (ifK (Nat.beq n 1) (copdK x fun c => k (.p (.lenv false c))) (ifK (Nat.beq n 2) (arrayK d fun m _ => forceN m fun m => k (.p (.lenc m))) (k stuckOp)))) (k stuckOp)) (k stuckOp)
noncomputable def cCap (xs : List Operand) (ts : List Nat) (k : COp → Bool) : Bool :=
  l1K xs (fun x => l1K ts (fun t => undK tt t fun d => shapeK d fun n => ifK (Nat.beq n 1) (copdK x fun c => k (.p (.capv c))) (k stuckOp)) (k stuckOp)) (k stuckOp)
noncomputable def cMm (mx : Bool) (xs : List Operand) (k : COp → Bool) : Bool := l2K xs (fun x y => copdK x fun c => copdK y fun d => k (.p (.mm mx c d))) (k stuckOp)
noncomputable def cApp (xs : List Operand) (ts : List Nat) (k : COp → Bool) : Bool :=
  l2K xs (fun x y => l2K ts (fun t u => undK tt t fun d => sliceK d fun el => infoK tt el fun ie => zeroK ie.zero fun z => constCellsK z fun zs => lenK zs 0 fun es => ifK (Nat.beq es ie.size)
    (undK tt u fun du => shapeK du fun n => copdK x fun c => copdK y fun d => forceN ie.bytes fun bs => ifK (Nat.ble n 1) (forceN el fun el => k (.e (.app bs es el c d))) (intDK du fun _ => k (.e (.appz bs es zs c d)))) false) (k stuckOp)) (k stuckOp)
noncomputable def cCpy (xs : List Operand) (ts : List Nat) (k : COp → Bool) : Bool :=
  l2K xs (fun x y => l2K ts (fun t _ => undK tt t fun d => sliceK d fun el => infoK tt el fun ie => forceN ie.size fun es => copdK x fun c => copdK y fun d => k (.e (.cpy es c d))) (k stuckOp)) (k stuckOp)
noncomputable def cClr (xs : List Operand) (ts : List Nat) (k : COp → Bool) : Bool :=
  l1K xs (fun x => l1K ts (fun t => undK tt t fun d => shapeK d fun n => ifK (Nat.beq n 1) (sliceK d fun el => infoK tt el fun ie => zeroK ie.zero fun z => constCellsK z fun zs => lenK zs 0 fun es => ifK (Nat.beq es ie.size) (ifK (Nat.blt 0 es) (copdK x fun c => k (.e (.clr es zs c))) false) false) (k stuckOp)) (k stuckOp)) (k stuckOp)
noncomputable def cSdata (xs : List Operand) (k : COp → Bool) : Bool := l1K xs (fun x => copdK x fun c => k (.p (.sdata c))) (k stuckOp)
noncomputable def cUstr (xs : List Operand) (ts : List Nat) (k : COp → Bool) : Bool :=
  l2K xs (fun x y => l2K ts (fun t _ => undK tt t fun d => pointerDK d (fun et => infoK tt et fun it => ifK (Nat.beq it.size 1) (copdK x fun c => copdK y fun d => forceN et fun et => k (.e (.ustr et c d))) false) false) (k stuckOp)) (k stuckOp)
noncomputable def cBuiltin (b : Builtin) (xs : List Operand) (ts : List Nat) (k : COp → Bool) : Bool :=
  @Builtin.casesOn (fun _ => Bool) b (cApp tt xs ts k) (cCap tt xs ts k) (cClr tt xs ts k) (k stuckOp) (k stuckOp) (cCpy tt xs ts k) (k stuckOp) (k stuckOp) (cLen tt xs ts k) (k stuckOp) (cMm true xs k) (cMm false xs k) (k stuckOp) (k stuckOp) (k stuckOp) (k stuckOp) (k stuckOp) (k stuckOp)
    (k stuckOp) (k stuckOp) (cSdata xs k) (cUstr tt xs ts k) (k stuckOp) (k stuckOp) (k stuckOp) (k stuckOp)
noncomputable def cCall (c : Call) (k : COp → Bool) : Bool :=
  @Callee.casesOn (fun _ => Bool) c.callee (fun f => copdK f fun f => copdsK c.args.toList fun xs => k (.call (.val f) xs)) (fun x nm => copdK x fun x => copdsK c.args.toList fun xs => k (.call (.inv x (methK tt nm)) xs)) (fun b => cBuiltin tt b c.args.toList c.argTypes.toList k)
noncomputable def copK (op : Op) (k : COp → Bool) : Bool :=
  @Op.casesOn (fun _ => Bool) op (fun x => cMove x k) (fun x => cMove x k) (fun a b c => cPick a b c k) (fun t => cAlloc tt t k) (fun t x => cBox t x k) (fun t ps => cBuild tt t ps k) (fun t n ps => cBsl tt t n ps k) (fun _ _ _ _ => k stuckOp) (fun t x => cLoad tt t x k) (fun t x y => cStore tt t x y k) (fun _ => k stuckOp) (fun _ => k stuckOp)
    (fun x => cNilck x k) (fun op t x y _ => cBinop P tt op t x y k) (fun op _ x => cUn op x k) (fun s d x => cRaw tt s d x k (cConv tt s d x k)) (fun _ _ => k stuckOp) (fun t x => cMkif tt t x k) (fun f a b => cMkfn f a b k) (fun _ _ => k stuckOp) (fun _ _ => k stuckOp) (fun t x y => cMksl tt t x y k) (fun t x lo hi mx => cSlice tt t x lo hi mx k)
    (fun t x j => cFaddr tt t x j k) (fun t x j => cField tt t x j k) (fun t x j => cIaddr tt t x j k) (fun t x j => cIndex tt t x j k) (fun _ _ _ _ => k stuckOp) (fun _ _ _ _ => k stuckOp) (fun _ _ _ => k stuckOp) (fun _ _ _ _ => k stuckOp) (fun _ _ => k stuckOp) (fun _ _ => k stuckOp) (fun _ => k stuckOp)
    (fun x _ t ok => cTass tt x t ok k) (fun x i => cExt x i k) (fun c => cCall tt c k) (fun _ => k stuckOp) (fun _ => k stuckOp) (fun _ => k stuckOp) (fun _ _ => k stuckOp) (fun _ _ _ => k stuckOp) (fun _ _ => k stuckOp)
end
end Go.Proofs.YtdnahdcjnahfkaaGreatDoor.Ev
namespace Go.Proofs.YtdnahdcjnahfkaaGreatDoor.Ev
open Go

section
variable {P : Program} {tt : T TypeInfo} {E : Env} {F : Facts} {o : Oper} {k : COp → Bool}
theorem stepsK_some (hT : TypesOf P tt) : ∀ {fs : List Field} {k : List (Nat × Nat) → Bool}, stepsK tt fs k = true → ∃ pl, k pl = true ∧ fs.mapM (fun f => (P.info? f.type).map fun i => (f.offset, i.size)) = some pl
  | [], k, h => ⟨[], h, rfl⟩
  | f :: fs, k, h => by
    change infoK tt f.type (fun i => forceN f.offset fun o => forceN i.size fun n => stepsK tt fs fun r => k ((o, n) :: r)) = true at h
    replace h := infoK_some hT h
    obtain ⟨i, hi, h⟩ := h
    rw [forceN_eq, forceN_eq] at h
    replace h := stepsK_some hT h
    obtain ⟨pl, h, hp⟩ := h
    refine ⟨_, h, ?_⟩
    rw [List.mapM_cons, hp, hi]; rfl
theorem partsK_some {pl : List (Nat × Nat)} : ∀ {ps : List (Nat × Operand)} {k : List (Nat × Nat × COpd) → Bool}, partsK pl ps k = true → ∃ cs, k cs = true ∧ PartsOk E (pl.toArray[·]?) ps cs
  | [], k, h => ⟨[], h, .nil⟩
  | p :: ps, k, h => by
    change nthK pl p.1 (fun q => copdK p.2 fun c => partsK pl ps fun r => k ((q.1, q.2, c) :: r)) = true at h
    replace h := nthK_some h
    obtain ⟨q, hq, h⟩ := h
    replace h := copdK_some (E := E) h
    obtain ⟨c, h, hc⟩ := h
    replace h := partsK_some h
    obtain ⟨cs, h, hs⟩ := h
    exact ⟨_, h, .cons (by simpa using hq) hc hs⟩
theorem partsLK_some {es : Nat} : ∀ {ps : List (Nat × Operand)} {k : List (Nat × Nat × COpd) → Bool}, partsLK es ps k = true → ∃ cs, k cs = true ∧ PartsOk E (fun i => some (i * es, es)) ps cs
  | [], k, h => ⟨[], h, .nil⟩
  | p :: ps, k, h => by
    change forceN (Nat.mul p.1 es) (fun o => copdK p.2 fun c => partsLK es ps fun r => k ((o, es, c) :: r)) = true at h
    rw [forceN_eq] at h
    replace h := copdK_some (E := E) h
    obtain ⟨c, h, hc⟩ := h
    replace h := partsLK_some h
    obtain ⟨cs, h, hs⟩ := h
    exact ⟨_, h, .cons rfl hc hs⟩

theorem cMove_some {x : Operand} (ho : o.op = .move x ∨ o.op = .assign x) (h : cMove x k = true) : Got P E F o k := by
  unfold cMove at h
  replace h := copdK_some (E := E) h
  obtain ⟨c, h, hc⟩ := h
  exact ⟨_, h, mv_ok ho hc⟩
theorem cPick_some {a b c : Operand} (ho : o.op = .pick a b c) (h : cPick a b c k = true) : Got P E F o k := by
  unfold cPick at h
  replace h := copdK_some (E := E) h
  obtain ⟨a', h, ha⟩ := h
  replace h := copdK_some (E := E) h
  obtain ⟨b', h, hb⟩ := h
  replace h := copdK_some (E := E) h
  obtain ⟨c', h, hc⟩ := h
  exact ⟨_, h, pick_ok ho ha hb hc⟩
theorem cAlloc_some (hT : TypesOf P tt) {t : Nat} (ho : o.op = .alloc t) (h : cAlloc tt t k = true) : Got P E F o k := by
  unfold cAlloc at h
  replace h := infoK_some hT h
  obtain ⟨it, hi, h⟩ := h
  replace h := zeroK_some h
  obtain ⟨z, hz, h⟩ := h
  replace h := constCellsK_some (E := E) h
  obtain ⟨zs, h, _, h1, hzs⟩ := h
  rw [forceN_eq] at h
  exact ⟨_, h, newt_ok ho hi hz hzs h1⟩
theorem cBox_some {t : Nat} {x : Operand} (ho : o.op = .box t x) (h : cBox t x k = true) : Got P E F o k := by
  unfold cBox at h
  replace h := copdK_some (E := E) h
  obtain ⟨c, h, hc⟩ := h
  rw [forceN_eq] at h
  exact ⟨_, h, box_ok ho hc⟩
theorem cBuild_some (hT : TypesOf P tt) {t : Nat} {ps : Array (Nat × Operand)} (ho : o.op = .build t ps) (h : cBuild tt t ps k = true) : Got P E F o k := by
  unfold cBuild at h
  replace h := undK_some hT h
  obtain ⟨d, hd, h⟩ := h
  replace h := structK_some h
  obtain ⟨fs, rfl, h⟩ := h
  replace h := infoK_some hT h
  obtain ⟨it, hi, h⟩ := h
  replace h := zeroK_some h
  obtain ⟨z, hz, h⟩ := h
  replace h := constCellsK_some (E := E) h
  obtain ⟨zs, h, _, _, hzs⟩ := h
  replace h := stepsK_some hT h
  obtain ⟨pl, h, hpl⟩ := h
  replace h := partsK_some (E := E) h
  obtain ⟨cs, h, hp⟩ := h
  exact ⟨_, h, build_ok ho hd hi hz hpl hzs hp⟩
theorem len_cells {ρ : Nat → Option Loc} {zs : List AV} {z : Value} (h : VRs E ρ zs z.cells.toList) : z.cells.size = zs.length := by
  have := h.length; simpa using this
theorem cBslN_some (hT : TypesOf P tt) {t n : Nat} {ps : Array (Nat × Operand)} (ho : o.op = .buildSlice t n ps) (h : cBslN tt t n ps k = true) : Got P E F o k := by
  unfold cBslN at h
  replace h := undK_some hT h
  obtain ⟨d, hd, h⟩ := h
  replace h := sliceK_some h
  obtain ⟨el, rfl, h⟩ := h
  replace h := infoK_some hT h
  obtain ⟨ie, hi, h⟩ := h
  replace h := zeroK_some h
  obtain ⟨z, hz, h⟩ := h
  replace h := constCellsK_some (E := E) h
  obtain ⟨zs, h, _, h1, hzs⟩ := h
  rw [lenK_eq, forceN_eq, Nat.zero_add] at h
  replace h := ifK_and h
  obtain ⟨he, h⟩ := h
  replace h := ifK_and h
  obtain ⟨hsm, h⟩ := h
  replace h := ifK_and h
  obtain ⟨hp, h⟩ := h
  replace h := repK_some h
  replace h := partsLK_some (E := E) h
  obtain ⟨cs, h, hps⟩ := h
  have he := beq_of he
  have hsm := ble_of hsm
  have hp := blt_of hp
  rw [he] at h hsm hp hps
  change 0 < n * ie.size at hp
  have hsz : z.cells.size = ie.size := by rw [len_cells (hzs fun _ => none), he]
  have hpos : 0 < ie.size := Nat.pos_of_ne_zero fun e => by rw [e] at hp; simp at hp
  refine ⟨_, h, bsl_ok ho hd hi hz hsm (by omega) (fun ρ => ?_) hps⟩
  have hm : (madeCells z.cells (n * ie.size)).toList = (List.replicate n z.cells.toList).flatten := by rw [← hsz]; exact madeCells_rep z.cells (by omega) n
  rw [hm]; exact (hzs ρ).rep n
theorem bsl0_ok {t el : Nat} {ie : TypeInfo} {ps : Array (Nat × Operand)} (ho : o.op = .buildSlice t 0 ps) (hps : ps.toList = []) (ht : P.underlying t = some (.slice el)) (hi : P.info? el = some ie) : AllocOk P E o (.bsl 0 ie.size [] []) := fun fr k h => by
  have hp : ps = #[] := by obtain ⟨l⟩ := ps; simp only at hps; subst hps; rfl
  subst hp
  have h : k (.sl 0 0 true ie.size) [] = true := h
  refine ⟨_, _, h, .of fun ρ e w he hh => ⟨.slice (some ⟨w.heap.size, 0, none⟩) 0 0, el, [], ?_, VRs.nil, fun u hu => (List.not_mem_nil hu).elim, fun ρ' i hi => ?_⟩⟩
  · have hr : ∀ f : Nat → Value, Array.map f (Array.range 0) = #[] := fun f => by simp [Array.range]
    simp [execOp, ho, Instr.buildSlice, run_underlying ht, run_sizeOf hi, Instr.fill, newRow, hr]
  · show VR E ρ' (.sl i 0 0 0 true ie.size) _
    simp only [VR]
    exact ⟨_, 0, hi, rfl, Nat.le_refl _, fun _ => rfl, by simp, fun _ => rfl, Nat.zero_le _, fun h => (by cases h)⟩
theorem cBsl_some (hT : TypesOf P tt) {t n : Nat} {ps : Array (Nat × Operand)} (ho : o.op = .buildSlice t n ps) (h : cBsl tt t n ps k = true) : Got P E F o k := by
  cases n with
  | succ n => exact cBslN_some hT ho h
  | zero =>
    change @List.rec (Nat × Operand) (fun _ => Bool) (undK tt t fun d => sliceK d fun el => infoK tt el fun ie => forceN ie.size fun es => k (.a (.bsl 0 es [] []))) (fun _ _ _ => false) ps.toList = true at h
    cases hps : ps.toList with
    | cons x l => rw [hps] at h; cases h
    | nil =>
      rw [hps] at h
      replace h := undK_some hT h
      obtain ⟨d, hd, h⟩ := h
      replace h := sliceK_some h
      obtain ⟨el, rfl, h⟩ := h
      replace h := infoK_some hT h
      obtain ⟨ie, hi, h⟩ := h
      rw [forceN_eq] at h
      exact ⟨_, h, bsl0_ok ho hps hd hi⟩
theorem cLoad_some (hT : TypesOf P tt) {t : Nat} {x : Operand} (ho : o.op = .load t x) (h : cLoad tt t x k = true) : Got P E F o k := by
  unfold cLoad at h
  replace h := undK_some hT h
  obtain ⟨d, hd, h⟩ := h
  replace h := aggDK_some hd h
  rcases h with ⟨h, hg⟩ | ⟨h, hg⟩
  · replace h := infoK_some hT h
    obtain ⟨it, hi, h⟩ := h
    rw [forceN_eq] at h
    replace h := copdK_some (E := E) h
    obtain ⟨c, h, hc⟩ := h
    exact ⟨_, h, ldn_ok ho hg hi hc⟩
  · replace h := copdK_some (E := E) h
    obtain ⟨c, h, hc⟩ := h
    exact ⟨_, h, ld1_ok ho hg hc⟩
theorem cStore_some (hT : TypesOf P tt) {t : Nat} {x y : Operand} (ho : o.op = .store t x y) (h : cStore tt t x y k = true) : Got P E F o k := by
  unfold cStore at h
  replace h := infoK_some hT h
  obtain ⟨it, hi, h⟩ := h
  rw [forceN_eq] at h
  replace h := copdK_some (E := E) h
  obtain ⟨c, h, hc⟩ := h
  replace h := copdK_some (E := E) h
  obtain ⟨d, h, hd⟩ := h
  exact ⟨_, h, st_ok ho hi hc hd⟩
theorem cNilck_some {x : Operand} (ho : o.op = .nilCheck x) (h : cNilck x k = true) : Got P E F o k := by
  unfold cNilck at h
  replace h := copdK_some (E := E) h
  obtain ⟨c, h, hc⟩ := h
  exact ⟨_, h, nilck_ok ho hc⟩
theorem cBin_some (hF : F.Of E) {op : BinOp} {t t' : Nat} {x y : Operand} (ho : o.op = .binOp op t x y t') (hop : op ≠ .eql ∧ op ≠ .neq) (h : cBin tt op t x y k = true) : Got P E F o k := by
  unfold cBin at h
  replace h := getK_some h
  obtain ⟨i, _, h⟩ := h
  have key : ∀ d : TypeDesc, (tagK d fun n => copdK x fun c => copdK y fun d => ifK (Nat.beq n 2) (k (.p (.tb op c d))) (k (.p (.ib op c d)))) = true → Got P E F o k := by
    intro d h
    replace h := tagK_some h
    obtain ⟨n, _, h⟩ := h
    replace h := copdK_some (E := E) h
    obtain ⟨c, h, hc⟩ := h
    replace h := copdK_some (E := E) h
    obtain ⟨d, h, hd⟩ := h
    cases hb : Nat.beq n 2 with
    | true => rw [hb] at h; exact ⟨_, h, tb_ok ho hop hc hd⟩
    | false => rw [hb] at h; exact ⟨_, h, ib_ok hF ho hop hc hd⟩
  replace h := namedK_some h
  rcases h with ⟨_, u, _, h⟩ | ⟨_, h⟩
  · replace h := getK_some h
    obtain ⟨j, _, h⟩ := h
    exact key _ h
  · exact key _ h
theorem ifK_two {b t e : Bool} (h : ifK b t e = true) : (b = true ∧ t = true) ∨ (b = false ∧ e = true) := by cases b <;> first | exact .inr ⟨rfl, h⟩ | exact .inl ⟨rfl, h⟩
theorem cEq_some (hT : TypesOf P tt) (hF : F.Of E) {neg : Bool} {op : BinOp} {t t' : Nat} {x y : Operand} (ho : o.op = .binOp op t x y t') (hop : op = if neg then .neq else .eql) (h : cEq P tt neg t x y k = true) : Got P E F o k := by
  unfold cEq at h
  replace h := undK_some hT h
  obtain ⟨d, hd, h⟩ := h
  replace h := shapeK_some h
  obtain ⟨n, hn, h⟩ := h
  replace h := copdK_some (E := E) h
  obtain ⟨c, h, hc⟩ := h
  replace h := copdK_some (E := E) h
  obtain ⟨c', h, hc'⟩ := h
  have tag : ∀ m, DescTag d m → k (.p (.eqp m neg c c')) = true → Got P E F o k := fun m hm h => ⟨_, h, eqp_ok hF ho hop hd hm hc hc'⟩
  replace h := ifK_two h
  rcases h with ⟨e, h⟩ | ⟨_, h⟩
  · have := beq_of e; subst this
    refine tag 0 (.inl ⟨rfl, ?_⟩) h
    unfold DescShape at hn
    rcases hn with ⟨h, _⟩ | ⟨h, _⟩ | ⟨h, _⟩ | ⟨h, _⟩ | ⟨h, _⟩ | ⟨h, _⟩ | ⟨h, _⟩ | ⟨h, _⟩ | ⟨_, h⟩ <;> first | exact h | omega
  replace h := ifK_two h
  rcases h with ⟨e, h⟩ | ⟨_, h⟩
  · have := beq_of e; subst this
    refine tag 1 (.inr (.inl ⟨rfl, ?_⟩)) h
    unfold DescShape at hn
    rcases hn with ⟨h, _⟩ | ⟨h, _⟩ | ⟨h, _⟩ | ⟨h, _⟩ | ⟨_, h⟩ | ⟨h, _⟩ | ⟨h, _⟩ | ⟨h, _⟩ | ⟨h, _⟩ <;> first | exact h | omega
  replace h := ifK_two h
  rcases h with ⟨e, h⟩ | ⟨_, h⟩
  · have := beq_of e; subst this
    refine tag 2 (.inr (.inr ⟨rfl, ?_⟩)) h
    unfold DescShape at hn
    rcases hn with ⟨_, h⟩ | ⟨h, _⟩ | ⟨h, _⟩ | ⟨h, _⟩ | ⟨h, _⟩ | ⟨h, _⟩ | ⟨h, _⟩ | ⟨h, _⟩ | ⟨h, _⟩ <;> first | exact h | omega
  replace h := ifK_two h
  rcases h with ⟨e, h⟩ | ⟨_, h⟩
  · obtain ⟨hg, h⟩ := notB_some h
    replace h := leavesK_some hT h
    obtain ⟨l, h, hr⟩ := h
    exact ⟨_, h, eqs_ok hF ho hop (by omega) hr hg hc hc'⟩
  replace h := isConst_some h
  rcases h with ⟨hx, h⟩ | h
  · exact ⟨_, h, eqn_ok ho hop hd hn (.inl hx) hc hc'⟩
  replace h := isConst_some h
  rcases h with ⟨hx, h⟩ | h
  · exact ⟨_, h, eqn_ok ho hop hd hn (.inr hx) hc hc'⟩
  rcases pointerDK_some h with ⟨e, rfl, h⟩ | h
  · obtain ⟨j, hj, h⟩ := infoK_some hT h
    exact ⟨_, h, eqpp_ok ho hop hd hj hc hc'⟩
  obtain ⟨ms, rfl, h⟩ := ifaceDK_some h
  refine ⟨_, h, eqi_ok ho hop hd (fun u k hk => ?_) hc hc'⟩
  unfold numT at hk
  replace hk := undK_some hT hk
  obtain ⟨d, hd, hk⟩ := hk
  obtain ⟨q, rfl, hk⟩ := intDK_some hk
  replace hk := infoK_some hT hk
  obtain ⟨i, hi, hk⟩ := hk
  obtain ⟨hcmp, hk⟩ := ifK_and hk
  exact ⟨q, i, hk, hd, hi, hcmp⟩
theorem cBinop_some (hT : TypesOf P tt) (hF : F.Of E) {op : BinOp} {t t' : Nat} {x y : Operand} (ho : o.op = .binOp op t x y t') (h : cBinop P tt op t x y k = true) : Got P E F o k := by
  cases op with
  | eql => exact cEq_some hT hF ho (neg := false) rfl h
  | neq => exact cEq_some hT hF ho (neg := true) rfl h
  | _ => exact cBin_some hF ho ⟨by decide, by decide⟩ h
theorem cUn_some {op : UnOp} {t : Nat} {x : Operand} (ho : o.op = .unOp op t x) (h : cUn op x k = true) : Got P E F o k := by
  cases op with
  | neg =>
    replace h := copdK_some (E := E) (k := fun c => k (.p (.neg c))) h
    obtain ⟨c, h, hc⟩ := h
    exact ⟨_, h, neg_ok ho hc⟩
  | not =>
    replace h := copdK_some (E := E) (k := fun c => k (.p (.not c))) h
    obtain ⟨c, h, hc⟩ := h
    exact ⟨_, h, not_ok ho hc⟩
  | _ => exact stuck_got h
theorem shape_str {d : TypeDesc} (h : DescShape d 0) : d = .string := by
  unfold DescShape at h
  rcases h with ⟨_, h⟩ | ⟨h, _⟩ | ⟨h, _⟩ | ⟨h, _⟩ | ⟨h, _⟩ | ⟨h, _⟩ | ⟨h, _⟩ | ⟨h, _⟩ | ⟨h, _⟩ <;> first | exact h | omega
theorem cConv_some (hT : TypesOf P tt) {s d : Nat} {x : Operand} (ho : o.op = .convert s d x) (h : cConv tt s d x k = true) : Got P E F o k := by
  unfold cConv at h
  replace h := undK_some hT h
  obtain ⟨ds, hs, h⟩ := h
  replace h := undK_some hT h
  obtain ⟨dd, hd, h⟩ := h
  replace h := shapeK_some h
  obtain ⟨n, hn, h⟩ := h
  replace h := copdK_some (E := E) h
  obtain ⟨c, h, hc⟩ := h
  replace h := ifK_two h
  rcases h with ⟨_, h⟩ | ⟨_, h⟩
  · replace h := intDK_some h
    obtain ⟨q, rfl, h⟩ := h
    exact ⟨_, h, conv_ok ho hs hd hc⟩
  replace h := ifK_two h
  rcases h with ⟨e, h⟩ | ⟨_, h⟩
  · have := beq_of e; subst this
    have := shape_str hn; subst this
    replace h := sliceK_some h
    obtain ⟨el, rfl, h⟩ := h
    replace h := undK_some hT h
    obtain ⟨de, he, h⟩ := h
    replace h := intDK_some h
    obtain ⟨q, rfl, h⟩ := h
    replace h := ifK_and h
    obtain ⟨hq, h⟩ := h
    have := kindEq_of hq; subst this
    exact ⟨_, h, b2s_ok ho hs he hd hc⟩
  · replace h := sliceK_some h
    obtain ⟨el, rfl, h⟩ := h
    replace h := undK_some hT h
    obtain ⟨de, he, h⟩ := h
    replace h := intDK_some h
    obtain ⟨q, rfl, h⟩ := h
    replace h := ifK_and h
    obtain ⟨hq, h⟩ := h
    have := kindEq_of hq; subst this
    replace h := shapeK_some h
    obtain ⟨m, hm, h⟩ := h
    replace h := ifK_and h
    obtain ⟨e, h⟩ := h
    have := beq_of e; subst this
    have := shape_str hm; subst this
    exact ⟨_, h, s2b_ok ho hs hd he hc⟩
theorem cells_of_info {t : Nat} {it : TypeInfo} (h : P.info? t = some it) : P.cellsOf t = it.size := by simp [Program.cellsOf, h]
theorem cRaw_some (hT : TypesOf P tt) {s d : Nat} {x : Operand} {e : Bool} (ho : o.op = .convert s d x) (h : cRaw tt s d x k e = true) : Got P E F o k ∨ e = true := by
  unfold cRaw at h
  obtain ⟨ds, hs, h⟩ := undK_some hT h
  obtain ⟨dd, hd, h⟩ := undK_some hT h
  rcases rawDK_some h with ⟨rfl, h⟩ | h
  · rcases pointerDK_some h with ⟨t, rfl, h⟩ | h
    · obtain ⟨it, hi, h⟩ := infoK_some hT h
      replace h := ifK_and h
      obtain ⟨h0, h⟩ := h
      obtain ⟨c, h, hc⟩ := copdK_some (E := E) h
      exact .inl ⟨_, h, tou_ok ho hs hd hi (blt_of h0) hc⟩
    · cases h
  · rcases rawDK_some h with ⟨rfl, h⟩ | h
    · rcases pointerDK_some h with ⟨u, rfl, h⟩ | h
      · obtain ⟨it, hi, h⟩ := infoK_some hT h
        rw [forceN_eq] at h
        replace h := ifK_and h
        obtain ⟨h0, h⟩ := h
        obtain ⟨c, h, hc⟩ := copdK_some (E := E) h
        rw [forceN_eq] at h
        exact .inl ⟨_, h, fru_ok ho hs hd hi (cells_of_info hi) (blt_of h0) hc⟩
      · cases h
    · exact .inr h
theorem cMkif_some (hT : TypesOf P tt) {t : Nat} {x : Operand} (ho : o.op = .makeInterface t x) (h : cMkif tt t x k = true) : Got P E F o k := by
  unfold cMkif at h
  replace h := undK_some hT h
  obtain ⟨d, hd, h⟩ := h
  replace h := shapeK_some h
  obtain ⟨n, hn, h⟩ := h
  replace h := ifK_two h
  rcases h with ⟨_, h⟩ | ⟨e, h⟩
  · exact stuck_got h
  · replace h := copdK_some (E := E) h
    obtain ⟨c, h, hc⟩ := h
    rw [forceN_eq] at h
    exact ⟨_, h, mkif_ok ho hd hn (fun e' => by subst e'; cases e) hc⟩
theorem cMkfn_some {f : Fn} {a b : Array Operand} (ho : o.op = .makeFunc f a b) (h : cMkfn f a b k = true) : Got P E F o k := by
  unfold cMkfn at h
  replace h := copdsK_some (E := E) h
  obtain ⟨ca, h, ha⟩ := h
  replace h := copdsK_some (E := E) h
  obtain ⟨cb, h, hb⟩ := h
  exact ⟨_, h, mkfn_ok ho ha hb⟩
theorem cMksl_some (hT : TypesOf P tt) {t : Nat} {x y : Operand} (ho : o.op = .makeSlice t x y) (h : cMksl tt t x y k = true) : Got P E F o k := by
  unfold cMksl at h
  replace h := undK_some hT h
  obtain ⟨d, hd, h⟩ := h
  replace h := sliceK_some h
  obtain ⟨el, rfl, h⟩ := h
  replace h := infoK_some hT h
  obtain ⟨ie, hi, h⟩ := h
  replace h := zeroK_some h
  obtain ⟨z, hz, h⟩ := h
  replace h := constCellsK_some (E := E) h
  obtain ⟨zs, h, _, h1, hzs⟩ := h
  rw [lenK_eq, Nat.zero_add] at h
  replace h := ifK_and h
  obtain ⟨he, h⟩ := h
  replace h := ifK_and h
  obtain ⟨hp, h⟩ := h
  replace h := copdK_some (E := E) h
  obtain ⟨c, h, hc⟩ := h
  replace h := copdK_some (E := E) h
  obtain ⟨d, h, hd'⟩ := h
  rw [forceN_eq] at h
  have he := beq_of he
  rw [he] at h hp
  exact ⟨_, h, mksl_ok ho hd hi hz hzs h1 (by rw [len_cells (hzs fun _ => none), he]) (blt_of hp) hc hd'⟩
theorem shape_slice {d : TypeDesc} (h : DescShape d 0) : d = .string := shape_str h
theorem cSlice_some (hT : TypesOf P tt) {t : Nat} {x : Operand} {lo hi mx : Option Operand} (ho : o.op = .slice t x lo hi mx) (h : cSlice tt t x lo hi mx k = true) : Got P E F o k := by
  unfold cSlice at h
  replace h := undK_some hT h
  obtain ⟨d, hd, h⟩ := h
  replace h := shapeK_some h
  obtain ⟨n, hn, h⟩ := h
  replace h := copdK_some (E := E) h
  obtain ⟨c, h, hc⟩ := h
  replace h := coptK_some (E := E) h
  obtain ⟨cl, h, hl⟩ := h
  replace h := coptK_some (E := E) h
  obtain ⟨ch, h, hh⟩ := h
  replace h := ifK_two h
  rcases h with ⟨e, h⟩ | ⟨_, h⟩
  · have := beq_of e; subst this
    have := shape_str hn; subst this
    replace h := optNone_some h
    obtain ⟨rfl, h⟩ := h
    exact ⟨_, h, slcs_ok ho hd hc hl hh⟩
  replace h := ifK_two h
  rcases h with ⟨e, h⟩ | ⟨_, h⟩
  · replace h := sliceK_some h
    obtain ⟨el, rfl, h⟩ := h
    replace h := infoK_some hT h
    obtain ⟨ie, hi', h⟩ := h
    rw [forceN_eq] at h
    replace h := coptK_some (E := E) h
    obtain ⟨cm, h, hm⟩ := h
    cases mx with
    | none => exact ⟨_, h, slc_ok ho hd hi' (by simp) hc hl hh hm⟩
    | some m =>
      cases hi with
      | none => cases h
      | some i => exact ⟨_, h, slc_ok ho hd hi' (by simp) hc hl hh hm⟩
  · exact stuck_got h
theorem cFaddr_some (hT : TypesOf P tt) {s j : Nat} {x : Operand} (ho : o.op = .fieldAddr s x j) (h : cFaddr tt s x j k = true) : Got P E F o k := by
  unfold cFaddr at h
  replace h := undK_some hT h
  obtain ⟨d, hd, h⟩ := h
  replace h := structK_some h
  obtain ⟨fs, rfl, h⟩ := h
  replace h := nthK_some h
  obtain ⟨f, hf, h⟩ := h
  replace h := infoK_some hT h
  obtain ⟨it, hi, h⟩ := h
  replace h := ifK_and h
  obtain ⟨hz, h⟩ := h
  rw [forceN_eq] at h
  replace h := copdK_some (E := E) h
  obtain ⟨c, h, hc⟩ := h
  have hz := blt_of hz
  exact ⟨_, h, faddr_ok ho hd (by simpa using hf) hi (by omega) hc⟩
theorem cField_some (hT : TypesOf P tt) {s j : Nat} {x : Operand} (ho : o.op = .field s x j) (h : cField tt s x j k = true) : Got P E F o k := by
  unfold cField at h
  replace h := undK_some hT h
  obtain ⟨d, hd, h⟩ := h
  replace h := structK_some h
  obtain ⟨fs, rfl, h⟩ := h
  replace h := nthK_some h
  obtain ⟨f, hf, h⟩ := h
  replace h := undK_some hT h
  obtain ⟨e, he, h⟩ := h
  rw [forceN_eq] at h
  replace h := copdK_some (E := E) h
  obtain ⟨c, h, hc⟩ := h
  replace h := aggDK_some he h
  rcases h with ⟨h, hg⟩ | ⟨h, hg⟩
  · replace h := infoK_some hT h
    obtain ⟨it, hi, h⟩ := h
    rw [forceN_eq] at h
    exact ⟨_, h, fldn_ok ho hd (by simpa using hf) hg hi hc⟩
  · exact ⟨_, h, fld1_ok ho hd (by simpa using hf) hg 0 hc⟩
theorem cIaddr_some (hT : TypesOf P tt) {t : Nat} {x j : Operand} (ho : o.op = .indexAddr t x j) (h : cIaddr tt t x j k = true) : Got P E F o k := by
  unfold cIaddr at h
  replace h := undK_some hT h
  obtain ⟨d, hd, h⟩ := h
  replace h := shapeK_some h
  obtain ⟨n, hn, h⟩ := h
  replace h := copdK_some (E := E) h
  obtain ⟨c, h, hc⟩ := h
  replace h := copdK_some (E := E) h
  obtain ⟨e, h, he⟩ := h
  replace h := ifK_two h
  rcases h with ⟨_, h⟩ | ⟨_, h⟩
  · replace h := sliceK_some h
    obtain ⟨el, rfl, h⟩ := h
    replace h := infoK_some hT h
    obtain ⟨ie, hi, h⟩ := h
    rw [forceN_eq] at h
    exact ⟨_, h, iaddr_ok ho hd hi hc he⟩
  replace h := ifK_two h
  rcases h with ⟨_, h⟩ | ⟨_, h⟩
  · replace h := arrayK_some h
    obtain ⟨m, el, rfl, h⟩ := h
    replace h := infoK_some hT h
    obtain ⟨ie, hi, h⟩ := h
    rw [forceN_eq, forceN_eq] at h
    exact ⟨_, h, iaddra_ok ho hd hi hc he⟩
  · exact stuck_got h
theorem cIndex_some (hT : TypesOf P tt) {t : Nat} {x j : Operand} (ho : o.op = .index t x j) (h : cIndex tt t x j k = true) : Got P E F o k := by
  unfold cIndex at h
  replace h := undK_some hT h
  obtain ⟨d, hd, h⟩ := h
  replace h := shapeK_some h
  obtain ⟨n, hn, h⟩ := h
  replace h := ifK_two h
  rcases h with ⟨e, h⟩ | ⟨_, h⟩
  · have := beq_of e; subst this
    have := shape_str hn; subst this
    replace h := copdK_some (E := E) h
    obtain ⟨c, h, hc⟩ := h
    replace h := copdK_some (E := E) h
    obtain ⟨e, h, he⟩ := h
    exact ⟨_, h, idxs_ok ho hd hc he⟩
  · exact stuck_got h
theorem cTass_some (hT : TypesOf P tt) {x : Operand} {xt t : Nat} {ok : Bool} (ho : o.op = .typeAssert x xt t ok) (h : cTass tt x t ok k = true) : Got P E F o k := by
  unfold cTass at h
  replace h := undK_some hT h
  obtain ⟨d, hd, h⟩ := h
  replace h := shapeK_some h
  obtain ⟨n, hn, h⟩ := h
  replace h := infoK_some hT h
  obtain ⟨it, hi, h⟩ := h
  replace h := zeroK_some h
  obtain ⟨z, hz, h⟩ := h
  replace h := constK_some (E := E) h
  obtain ⟨za, h, hza⟩ := h
  replace h := copdK_some (E := E) h
  obtain ⟨c, h, hc⟩ := h
  replace h := ifK_two h
  rcases h with ⟨_, h⟩ | ⟨e, h⟩
  · cases ok with
    | false => exact stuck_got h
    | true =>
      obtain ⟨ms, rfl, h⟩ := ifaceDK_some h
      refine ⟨_, h, tassi_ok ho hd hi hz hza (fun u k hk => ?_) hc⟩
      unfold lackK at hk
      replace hk := infoK_some hT hk
      obtain ⟨i, hi, hk⟩ := hk
      rw [forceB_eq] at hk
      exact ⟨i, hi, hk⟩
  · rw [forceN_eq] at h
    exact ⟨_, h, tass_ok ho hd hn (fun e' => by subst e'; cases e) hi hz hza hc⟩
theorem cExt_some {x : Operand} {i : Nat} (ho : o.op = .extract x i) (h : cExt x i k = true) : Got P E F o k := by
  unfold cExt at h
  replace h := copdK_some (E := E) h
  obtain ⟨c, h, hc⟩ := h
  rw [forceN_eq] at h
  exact ⟨_, h, ext_ok ho hc⟩
theorem call_eq {b : Builtin} {c : Call} {xs : List Operand} {ts : List Nat} (hb : c.callee = .builtin b) (hx : c.args.toList = xs) (ht : c.argTypes.toList = ts) : c = ⟨.builtin b, xs.toArray, ts.toArray⟩ := by
  obtain ⟨callee, ⟨a⟩, ⟨t⟩⟩ := c
  simp only at hb hx ht
  subst hb; subst hx; subst ht; rfl
theorem cLen_some (hT : TypesOf P tt) {c : Call} (ho : o.op = .call c) (hb : c.callee = .builtin .len) (h : cLen tt c.args.toList c.argTypes.toList k = true) : Got P E F o k := by
  unfold cLen at h
  replace h := l1K_some h
  rcases h with ⟨x, hx, h⟩ | h
  · replace h := l1K_some h
    rcases h with ⟨t, ht, h⟩ | h
    · have hc := call_eq hb hx ht
      rw [hc] at ho
      replace h := undK_some hT h
      obtain ⟨d, hd, h⟩ := h
      replace h := shapeK_some h
      obtain ⟨n, hn, h⟩ := h
      replace h := ifK_two h
      rcases h with ⟨e, h⟩ | ⟨_, h⟩
      · have := beq_of e; subst this
        have := shape_str hn; subst this
        replace h := copdK_some (E := E) h
        obtain ⟨c, h, hc⟩ := h
        exact ⟨_, h, lens_ok ho hd hc⟩
      replace h := ifK_two h
      rcases h with ⟨e, h⟩ | ⟨_, h⟩
      · have := beq_of e; subst this
        obtain ⟨el, rfl⟩ : ∃ el, d = .slice el := by
          unfold DescShape at hn
          rcases hn with ⟨h, _⟩ | ⟨_, h⟩ | ⟨h, _⟩ | ⟨h, _⟩ | ⟨h, _⟩ | ⟨h, _⟩ | ⟨h, _⟩ | ⟨h, _⟩ | ⟨h, _⟩ <;> first | exact h | omega
        replace h := copdK_some (E := E) h
        obtain ⟨c, h, hc⟩ := h
        exact ⟨_, h, lenl_ok ho hd hc⟩
      replace h := ifK_two h
      rcases h with ⟨e, h⟩ | ⟨_, h⟩
      · replace h := arrayK_some h
        obtain ⟨m, el, rfl, h⟩ := h
        rw [forceN_eq] at h
        exact ⟨_, h, lenc_ok ho hd⟩
      · exact stuck_got h
    · exact stuck_got h
  · exact stuck_got h
theorem cCap_some (hT : TypesOf P tt) {c : Call} (ho : o.op = .call c) (hb : c.callee = .builtin .cap) (h : cCap tt c.args.toList c.argTypes.toList k = true) : Got P E F o k := by
  unfold cCap at h
  replace h := l1K_some h
  rcases h with ⟨x, hx, h⟩ | h
  · replace h := l1K_some h
    rcases h with ⟨t, ht, h⟩ | h
    · have hc := call_eq hb hx ht
      rw [hc] at ho
      replace h := undK_some hT h
      obtain ⟨d, hd, h⟩ := h
      replace h := shapeK_some h
      obtain ⟨n, hn, h⟩ := h
      replace h := ifK_two h
      rcases h with ⟨e, h⟩ | ⟨_, h⟩
      · have := beq_of e; subst this
        obtain ⟨el, rfl⟩ : ∃ el, d = .slice el := by
          unfold DescShape at hn
          rcases hn with ⟨h, _⟩ | ⟨_, h⟩ | ⟨h, _⟩ | ⟨h, _⟩ | ⟨h, _⟩ | ⟨h, _⟩ | ⟨h, _⟩ | ⟨h, _⟩ | ⟨h, _⟩ <;> first | exact h | omega
        replace h := copdK_some (E := E) h
        obtain ⟨c, h, hc⟩ := h
        exact ⟨_, h, capv_ok ho hd hc⟩
      · exact stuck_got h
    · exact stuck_got h
  · exact stuck_got h
theorem cSdata_some {c : Call} (ho : o.op = .call c) (hb : c.callee = .builtin .unsafeSliceData) (h : cSdata c.args.toList k = true) : Got P E F o k := by
  unfold cSdata at h
  rcases l1K_some h with ⟨x, hx, h⟩ | h
  · have hc := call_eq hb hx rfl
    rw [hc] at ho
    obtain ⟨c, h, hc⟩ := copdK_some (E := E) h
    exact ⟨_, h, sdata_ok ho hc⟩
  · exact stuck_got h
theorem cUstr_some (hT : TypesOf P tt) {c : Call} (ho : o.op = .call c) (hb : c.callee = .builtin .unsafeString) (h : cUstr tt c.args.toList c.argTypes.toList k = true) : Got P E F o k := by
  unfold cUstr at h
  rcases l2K_some h with ⟨x, y, hx, h⟩ | h
  · rcases l2K_some h with ⟨t, u, ht, h⟩ | h
    · have hc := call_eq hb hx ht
      rw [hc] at ho
      obtain ⟨d, hd, h⟩ := undK_some hT h
      rcases pointerDK_some h with ⟨et, rfl, h⟩ | h
      · obtain ⟨it, hi, h⟩ := infoK_some hT h
        replace h := ifK_and h
        obtain ⟨h1, h⟩ := h
        obtain ⟨c, h, hc⟩ := copdK_some (E := E) h
        obtain ⟨d, h, hd'⟩ := copdK_some (E := E) h
        rw [forceN_eq] at h
        exact ⟨_, h, ustr_ok ho hd (by rw [cells_of_info hi]; exact beq_of h1) hc hd'⟩
      · cases h
    · exact stuck_got h
  · exact stuck_got h
theorem cMm_some {mx : Bool} {c : Call} (ho : o.op = .call c) (hb : c.callee = .builtin (if mx then .max else .min)) (h : cMm mx c.args.toList k = true) : Got P E F o k := by
  unfold cMm at h
  replace h := l2K_some h
  rcases h with ⟨x, y, hx, h⟩ | h
  · have hc := call_eq hb hx rfl
    rw [hc] at ho
    replace h := copdK_some (E := E) h
    obtain ⟨c, h, hc⟩ := h
    replace h := copdK_some (E := E) h
    obtain ⟨d, h, hd⟩ := h
    exact ⟨_, h, mm_ok ho hc hd⟩
  · exact stuck_got h
theorem cApp_some (hT : TypesOf P tt) {c : Call} (ho : o.op = .call c) (hb : c.callee = .builtin .append) (h : cApp tt c.args.toList c.argTypes.toList k = true) : Got P E F o k := by
  unfold cApp at h
  replace h := l2K_some h
  rcases h with ⟨x, y, hx, h⟩ | h
  · replace h := l2K_some h
    rcases h with ⟨t, u, ht, h⟩ | h
    · have hc := call_eq hb hx ht
      rw [hc] at ho
      replace h := undK_some hT h
      obtain ⟨d, hd, h⟩ := h
      replace h := sliceK_some h
      obtain ⟨el, rfl, h⟩ := h
      replace h := infoK_some hT h
      obtain ⟨ie, hi, h⟩ := h
      replace h := zeroK_some h
      obtain ⟨z, hz, h⟩ := h
      replace h := constCellsK_some (E := E) h
      obtain ⟨zs, h, _, h1, hzs⟩ := h
      rw [lenK_eq, Nat.zero_add] at h
      replace h := ifK_and h
      obtain ⟨he, h⟩ := h
      replace h := undK_some hT h
      obtain ⟨du, hu, h⟩ := h
      replace h := shapeK_some h
      obtain ⟨n, hn, h⟩ := h
      replace h := copdK_some (E := E) h
      obtain ⟨c, h, hc⟩ := h
      replace h := copdK_some (E := E) h
      obtain ⟨d, h, hd'⟩ := h
      rw [forceN_eq] at h
      have he := beq_of he
      rw [he] at h
      replace h := ifK_two h
      rcases h with ⟨hle, h⟩ | ⟨_, h⟩
      rotate_left
      · obtain ⟨kq, rfl, h⟩ := intDK_some h
        exact ⟨_, h, appz_ok ho hd hu hi hz (by rw [len_cells (hzs fun _ => none), he]) hzs h1 hc hd'⟩
      rw [forceN_eq] at h
      have hle := ble_of hle
      have hdu : du = .string ∨ ∃ e, du = .slice e := by
        unfold DescShape at hn
        rcases hn with ⟨_, h⟩ | ⟨_, h⟩ | ⟨h, _⟩ | ⟨h, _⟩ | ⟨h, _⟩ | ⟨h, _⟩ | ⟨h, _⟩ | ⟨h, _⟩ | ⟨h, _⟩ <;> first | exact .inl h | exact .inr h | omega
      exact ⟨_, h, app_ok ho hd hu hdu hi hz (by rw [len_cells (hzs fun _ => none), he]) hc hd'⟩
    · exact stuck_got h
  · exact stuck_got h
theorem cCpy_some (hT : TypesOf P tt) {c : Call} (ho : o.op = .call c) (hb : c.callee = .builtin .copy) (h : cCpy tt c.args.toList c.argTypes.toList k = true) : Got P E F o k := by
  unfold cCpy at h
  replace h := l2K_some h
  rcases h with ⟨x, y, hx, h⟩ | h
  · replace h := l2K_some h
    rcases h with ⟨t, u, ht, h⟩ | h
    · have hc := call_eq hb hx ht
      rw [hc] at ho
      replace h := undK_some hT h
      obtain ⟨d, hd, h⟩ := h
      replace h := sliceK_some h
      obtain ⟨el, rfl, h⟩ := h
      replace h := infoK_some hT h
      obtain ⟨ie, hi, h⟩ := h
      rw [forceN_eq] at h
      replace h := copdK_some (E := E) h
      obtain ⟨c, h, hc⟩ := h
      replace h := copdK_some (E := E) h
      obtain ⟨d, h, hd'⟩ := h
      exact ⟨_, h, cpy_ok ho hd hi hc hd'⟩
    · exact stuck_got h
  · exact stuck_got h
theorem cClr_some (hT : TypesOf P tt) {c : Call} (ho : o.op = .call c) (hb : c.callee = .builtin .clear) (h : cClr tt c.args.toList c.argTypes.toList k = true) : Got P E F o k := by
  unfold cClr at h
  replace h := l1K_some h
  rcases h with ⟨x, hx, h⟩ | h
  · replace h := l1K_some h
    rcases h with ⟨t, ht, h⟩ | h
    · have hc := call_eq hb hx ht
      rw [hc] at ho
      replace h := undK_some hT h
      obtain ⟨d, hd, h⟩ := h
      replace h := shapeK_some h
      obtain ⟨n, hn, h⟩ := h
      replace h := ifK_two h
      rcases h with ⟨e, h⟩ | ⟨_, h⟩
      · replace h := sliceK_some h
        obtain ⟨el, rfl, h⟩ := h
        replace h := infoK_some hT h
        obtain ⟨ie, hi, h⟩ := h
        replace h := zeroK_some h
        obtain ⟨z, hz, h⟩ := h
        replace h := constCellsK_some (E := E) h
        obtain ⟨zs, h, _, h1, hzs⟩ := h
        rw [lenK_eq, Nat.zero_add] at h
        replace h := ifK_and h
        obtain ⟨he, h⟩ := h
        replace h := ifK_and h
        obtain ⟨hp, h⟩ := h
        replace h := copdK_some (E := E) h
        obtain ⟨c, h, hc⟩ := h
        have he := beq_of he
        rw [he] at h hp
        exact ⟨_, h, clr_ok ho hd hi hz (by rw [len_cells (hzs fun _ => none), he]) (blt_of hp) hzs h1 hc⟩
      · exact stuck_got h
    · exact stuck_got h
  · exact stuck_got h
theorem findM_some {nm : String} {k : Method → Bool} : ∀ {l : List Method}, findM nm k l = true → ∃ m, l.find? (fun m => m.name == nm) = some m ∧ k m = true
  | [], h => by cases h
  | x :: l, h => by
    change ifK (x.name == nm) (k x) (findM nm k l) = true at h
    rw [ifK_eq] at h
    cases hn : (x.name == nm) with
    | true => rw [hn] at h; exact ⟨x, by simp [List.find?, hn], by simpa using h⟩
    | false =>
      rw [hn] at h
      obtain ⟨m, h1, h2⟩ := findM_some (l := l) (by simpa using h)
      exact ⟨m, by simpa [List.find?, hn] using h1, h2⟩
theorem ptrDK_some {d : TypeDesc} {y n : Bool} (h : ptrDK d y n = true) : (y = true ∧ ∃ e, d = .pointer e) ∨ (n = true ∧ ∀ e, d ≠ .pointer e) := by
  unfold ptrDK at h
  obtain ⟨m, hm, h⟩ := shapeK_some h
  rcases ifK_two h with ⟨e, h⟩ | ⟨e, h⟩
  · have := beq_of e; subst this
    refine .inl ⟨h, ?_⟩
    unfold DescShape at hm
    rcases hm with ⟨h, _⟩ | ⟨h, _⟩ | ⟨h, _⟩ | ⟨_, h⟩ | ⟨h, _⟩ | ⟨h, _⟩ | ⟨h, _⟩ | ⟨h, _⟩ | ⟨h, _⟩ <;> first | exact h | omega
  · refine .inr ⟨h, fun el hd => ?_⟩
    subst hd
    unfold DescShape at hm
    rcases hm with ⟨_, h⟩ | ⟨_, _, h⟩ | ⟨_, _, _, h⟩ | ⟨h, _⟩ | ⟨_, _, h⟩ | ⟨_, _, h⟩ | ⟨_, _, _, _, h⟩ | ⟨_, _, h⟩ | ⟨_, h⟩ <;> first | (cases h; done) | (subst h; cases e)
theorem methK_some (hT : TypesOf P tt) {nm : String} {t : Nat} {k : Nat → Bool} (h : methK tt nm t k = true) : ∃ f, k f = true ∧ ∀ v w, (method (P.types.size + Made.depth) t v nm).run P w = .ok (f, v) w := by
  unfold methK at h
  replace h := infoK_some hT h
  obtain ⟨i, hi, h⟩ := h
  replace h := undK_some hT h
  obtain ⟨d, hd, h⟩ := h
  obtain ⟨m, hm, h⟩ := findM_some h
  have hpath : m.path.toList = [] ∧ methFK d (fun f => forceN f k) m.func = true := by
    cases hp : m.path.toList with
    | nil => rw [hp] at h; exact ⟨rfl, h⟩
    | cons a l => rw [hp] at h; cases h
  obtain ⟨hp, hq⟩ := hpath
  have hpe : m.path.isEmpty = true := by
    have : m.path = #[] := by apply Array.ext'; simpa using hp
    rw [this]; rfl
  have hfind : i.methods.find? (fun m => m.name == nm) = some m := by rw [← Array.find?_toList]; exact hm
  cases hf : m.func with
  | none => rw [hf] at hq; cases hq
  | some p =>
    obtain ⟨f, pr⟩ := p
    rw [hf] at hq
    have fuel : P.types.size + Made.depth = (P.types.size + Made.depth - 1) + 1 := by
      have : 0 < Made.depth := by decide
      omega
    have fin : k f = true → (∀ (v : Value) (w : World) (wr : Option String), (receiverAt t (.val v) pr wr).run P w = .ok v w) → ∃ f, k f = true ∧ ∀ v w, (method (P.types.size + Made.depth) t v nm).run P w = .ok (f, v) w := fun hk hr =>
      ⟨f, hk, fun v w => by
        rw [fuel, method]
        simp [typeInfo, hi, hfind, hp, follow, hf, hr]⟩
    cases pr with
    | false =>
      rcases ptrDK_some hq with ⟨h2, _⟩ | ⟨h2, hne⟩
      · cases h2
      · change forceN f k = true at h2
        rw [forceN_eq] at h2
        refine fin h2 fun v w wr => ?_
        simp only [receiverAt, Sem.run_bind, run_underlying hd, Result.andThen_ok]
        cases d with
        | pointer e => exact absurd rfl (hne e)
        | _ => simp [Place.get]
    | true =>
      rcases ptrDK_some hq with ⟨h2, el, rfl⟩ | ⟨h2, _⟩
      · change forceN f k = true at h2
        rw [forceN_eq] at h2
        refine fin h2 fun v w wr => ?_
        simp [receiverAt, run_underlying hd, Place.get]
      · cases h2
theorem cCall_some (hT : TypesOf P tt) {c : Call} (ho : o.op = .call c) (h : cCall tt c k = true) : Got P E F o k := by
  unfold cCall at h
  cases hb : c.callee with
  | value f =>
    rw [hb] at h
    change copdK f (fun f => copdsK c.args.toList fun xs => k (.call (.val f) xs)) = true at h
    replace h := copdK_some (E := E) h
    obtain ⟨g, h, hg⟩ := h
    replace h := copdsK_some (E := E) h
    obtain ⟨xs, h, hx⟩ := h
    refine ⟨_, h, c.args, ⟨f, c.argTypes, ?_, hg⟩, hx⟩
    rw [ho, ← hb]
  | invoke r m =>
    rw [hb] at h
    change copdK r (fun x => copdsK c.args.toList fun xs => k (.call (.inv x (methK tt m)) xs)) = true at h
    replace h := copdK_some (E := E) h
    obtain ⟨g, h, hg⟩ := h
    replace h := copdsK_some (E := E) h
    obtain ⟨xs, h, hx⟩ := h
    refine ⟨_, h, c.args, ⟨r, m, c.argTypes, ?_, hg, fun t k hk => methK_some hT hk⟩, hx⟩
    rw [ho, ← hb]
  | builtin b =>
    rw [hb] at h
    cases b with
    | append => exact cApp_some hT ho hb h
    | cap => exact cCap_some hT ho hb h
    | clear => exact cClr_some hT ho hb h
    | copy => exact cCpy_some hT ho hb h
    | len => exact cLen_some hT ho hb h
    | max => exact cMm_some (mx := true) ho hb h
    | min => exact cMm_some (mx := false) ho hb h
    | unsafeSliceData => exact cSdata_some ho hb h
    | unsafeString => exact cUstr_some hT ho hb h
    | _ => exact stuck_got h
theorem copK_some (hT : TypesOf P tt) (hF : F.Of E) (h : copK P tt o.op k = true) : Got P E F o k := by
  cases ho : o.op with
  | move x => rw [ho] at h; exact cMove_some (.inl ho) h
  | assign x => rw [ho] at h; exact cMove_some (.inr ho) h
  | pick a b c => rw [ho] at h; exact cPick_some ho h
  | alloc t => rw [ho] at h; exact cAlloc_some hT ho h
  | box t x => rw [ho] at h; exact cBox_some ho h
  | build t ps => rw [ho] at h; exact cBuild_some hT ho h
  | buildSlice t n ps => rw [ho] at h; exact cBsl_some hT ho h
  | load t x => rw [ho] at h; exact cLoad_some hT ho h
  | store t x y => rw [ho] at h; exact cStore_some hT ho h
  | nilCheck x => rw [ho] at h; exact cNilck_some ho h
  | binOp op t x y t' => rw [ho] at h; exact cBinop_some hT hF ho h
  | unOp op t x => rw [ho] at h; exact cUn_some ho h
  | convert s d x => rw [ho] at h; exact (cRaw_some hT ho h).elim id fun h => cConv_some hT ho h
  | makeInterface t x => rw [ho] at h; exact cMkif_some hT ho h
  | makeFunc f a b => rw [ho] at h; exact cMkfn_some ho h
  | makeSlice t x y => rw [ho] at h; exact cMksl_some hT ho h
  | slice t x lo hi mx => rw [ho] at h; exact cSlice_some hT ho h
  | fieldAddr t x j => rw [ho] at h; exact cFaddr_some hT ho h
  | field t x j => rw [ho] at h; exact cField_some hT ho h
  | indexAddr t x j => rw [ho] at h; exact cIaddr_some hT ho h
  | index t x j => rw [ho] at h; exact cIndex_some hT ho h
  | typeAssert x xt t ok => rw [ho] at h; exact cTass_some hT ho h
  | extract x i => rw [ho] at h; exact cExt_some ho h
  | call c => rw [ho] at h; exact cCall_some hT ho h
  | _ => rw [ho] at h; exact stuck_got h
/-- Where it cannot be said, it is never run. -/
noncomputable def copSafe (P : Program) (tt : T TypeInfo) (op : Op) (k : COp → Bool) : Bool := ifK (copK P tt op fun _ => true) (copK P tt op k) (k stuckOp)
theorem copSafe_some (hT : TypesOf P tt) (hF : F.Of E) (h : copSafe P tt o.op k = true) : Got P E F o k := by
  rcases ifK_two h with ⟨_, h⟩ | ⟨_, h⟩
  · exact copK_some hT hF h
  · exact stuck_got h
end
end Go.Proofs.YtdnahdcjnahfkaaGreatDoor.Ev
namespace Go.Proofs.YtdnahdcjnahfkaaGreatDoor.Ev
open Go

noncomputable def cDst (N : Nat) (d : Option Nat) (k : Option Nat → Bool) : Bool := @Option.rec Nat (fun _ => Bool) (k none) (fun t => forceN t fun t => ifK (Nat.blt t N) (k (some t)) false) d
noncomputable def someK {α : Type} (x : Option α) (k : α → Bool) : Bool := @Option.rec α (fun _ => Bool) false (fun v => k v) x
theorem someK_some {α : Type} {z : Option α} {k : α → Bool} (h : someK z k = true) : ∃ v, z = some v ∧ k v = true := by cases z <;> first | exact ⟨_, rfl, h⟩ | cases h
noncomputable def cGuard (ops : List Oper) (g : Option (Nat × Bool)) (k : Option (Nat × Bool) → Bool) : Bool :=
  @Option.rec (Nat × Bool) (fun _ => Bool) (k none) (fun p => nthK ops p.1 fun oj => someK oj.dst fun s => forceN s fun s => forceB p.2 fun want => k (some (s, want))) g
section
variable (P : Program) (tt : T TypeInfo) (ops : List Oper) (N : Nat)
noncomputable def cOper (o : Oper) (k : Option Nat → Option (Nat × Bool) → COp → Bool) : Bool := cDst N o.dst fun d => cGuard ops o.guard fun g => copSafe P tt o.op fun c => k d g c
noncomputable def cReg (l : List Oper) : (List COper → Bool) → Bool := @List.rec Oper (fun _ => (List COper → Bool) → Bool) (fun k => k []) (fun o _ ih k => cOper P tt ops N o fun d g c => ih fun r => k (.mk d g c :: r)) l
noncomputable def seekK (on : Nat) (seen : List SeenE) (k : Nat → Bool) : Bool := @List.rec SeenE (fun _ => Bool) false (fun s _ ih => ifK (Nat.beq s.ix on) (k s.mask) ih) seen
noncomputable def edgesK (seen : List SeenE) (l : List Edge) : Nat → (Nat → Bool) → Bool :=
  @List.rec Edge (fun _ => Nat → (Nat → Bool) → Bool) (fun m k => k m) (fun e _ ih m k => ifK (Region.binds .any e) (seekK e.on seen fun m' => forceN (Nat.lor m (Nat.lor (Nat.shiftLeft 1 e.on) m')) fun m => ih m k) (ih m k)) l
noncomputable def bitOf (x : Operand) (k : Nat → Bool) : Bool := @Operand.casesOn (fun _ => Bool) x (fun t => forceN (Nat.shiftLeft 1 t) k) (fun _ => k 0) (fun _ => k 0) (fun _ => k 0)
noncomputable def slotsK (l : List Operand) : Nat → (Nat → Bool) → Bool := @List.rec Operand (fun _ => Nat → (Nat → Bool) → Bool) (fun m k => k m) (fun x _ ih m k => bitOf x fun b => forceN (Nat.lor m b) fun m => ih m k) l
noncomputable def gBit (g : Option (Nat × Bool)) (k : Nat → Bool) : Bool := @Option.rec (Nat × Bool) (fun _ => Bool) (k 0) (fun p => forceN (Nat.shiftLeft 1 p.1) k) g
noncomputable def dBit (d : Option Nat) (k : Nat → Bool) : Bool := @Option.rec Nat (fun _ => Bool) (k 0) (fun t => forceN (Nat.shiftLeft 1 t) k) d
noncomputable def newK (ix : Nat) (k : Bool) (seen : List SeenE) : Bool := @List.rec SeenE (fun _ => Bool) k (fun s _ ih => ifK (Nat.beq s.ix ix) false ih) seen
/-- The reads before an effect that it does not hang on. -/
noncomputable def amK (mask : Nat) (k : Nat → Bool) (seen : List SeenE) : Nat → Bool :=
  @List.rec SeenE (fun _ => Nat → Bool) (fun m => k m) (fun s _ ih m => ifK (Nat.beq s.cls 1) (ifK (Nat.testBit mask s.ix) (ih m) (forceN (Nat.lor m (Nat.shiftLeft 1 s.ix)) fun m => ih m)) (ih m)) seen
noncomputable def looseK (s : SeenE) (am : Nat) (x : SeenE) (k : Bool) : Bool :=
  ifK (Nat.beq (Nat.land x.dM (Nat.lor s.rM s.dM)) 0) (ifK (Nat.beq (Nat.land s.dM x.rM) 0) (ifK (Nat.ble 2 x.cls) (ifK (Nat.beq s.cls 3) false (ifK (Nat.beq s.cls 1) false k)) (ifK (Nat.beq x.cls 1) (ifK (Nat.beq s.cls 3) (ifK (Nat.testBit am x.ix) k false) k) k)) false) false
noncomputable def confK (s : SeenE) (am : Nat) (k : Bool) (seen : List SeenE) : Bool := @List.rec SeenE (fun _ => Bool) k (fun x _ ih => ifK (Nat.testBit s.mask x.ix) ih (looseK s am x ih)) seen
noncomputable def copClsK (c : COp) (k : Nat → Bool) : Bool := @COp.rec (fun _ => Bool) (fun _ => k 0) (fun _ => k 1) (fun _ => k 2) (fun _ => k 3) (fun _ _ => k 3) c
noncomputable def allIxK (seen : List SeenE) (k : Bool) (n : Nat) : Bool := @Nat.rec (fun _ => Bool) k (fun i ih => seekK i seen fun _ => ih) n
noncomputable def cDrg (size : Nat) (order : List Nat) : List SeenE → (List DOper → Bool) → Bool :=
  @List.rec Nat (fun _ => List SeenE → (List DOper → Bool) → Bool) (fun seen k => lenK seen 0 fun n => ifK (Nat.beq n size) (allIxK seen (k []) size) false)
    (fun ix _ ih seen k => forceN ix fun ix => nthK ops ix fun o => cOper P tt ops N o fun d g c => edgesK seen o.after.toList 0 fun mask => slotsK o.op.operands.toList 0 fun r0 => gBit g fun gb => forceN (Nat.lor r0 gb) fun rM => dBit d fun dM => copClsK c fun cls =>
      newK ix (ifK (Nat.beq cls 3) (amK mask (fun am => confK ⟨ix, mask, rM, dM, cls⟩ am (ih (⟨ix, mask, rM, dM, cls⟩ :: seen) fun l => k (.mk d g c ix am :: l)) seen) seen 0)
        (confK ⟨ix, mask, rM, dM, cls⟩ 0 (ih (⟨ix, mask, rM, dM, cls⟩ :: seen) fun l => k (.mk d g c ix 0 :: l)) seen)) seen) order
end

section
variable {P : Program} {tt : T TypeInfo} {E : Env} {F : Facts} {ops : Array Oper} {N : Nat}
theorem cDst_some {d : Option Nat} {k : Option Nat → Bool} (h : cDst N d k = true) : k d = true ∧ ∀ t, d = some t → t < N := by
  cases d with
  | none => exact ⟨h, fun t e => by cases e⟩
  | some t =>
    change forceN t (fun t => ifK (Nat.blt t N) (k (some t)) false) = true at h
    rw [forceN_eq] at h
    obtain ⟨h1, h2⟩ := ifK_and h
    exact ⟨h2, fun t' e => by injection e with e; subst e; exact blt_of h1⟩
theorem cGuard_some {o : Oper} {k : Option (Nat × Bool) → Bool} (h : cGuard ops.toList o.guard k = true) : ∃ g, k g = true ∧ GuardRel ops o g := by
  cases hg : o.guard with
  | none => rw [hg] at h; exact ⟨none, h, .inl ⟨hg, rfl⟩⟩
  | some p =>
    obtain ⟨j, want⟩ := p
    rw [hg] at h
    change nthK ops.toList j (fun oj => someK oj.dst fun s => forceN s fun s => forceB want fun want => k (some (s, want))) = true at h
    replace h := nthK_some h
    obtain ⟨oj, hj, h⟩ := h
    replace h := someK_some h
    obtain ⟨s, hs, h⟩ := h
    rw [forceN_eq, forceB_eq] at h
    exact ⟨_, h, .inr ⟨j, want, s, oj, hg, rfl, by simpa using hj, hs⟩⟩
theorem cOper_some (hT : TypesOf P tt) (hF : F.Of E) {o : Oper} {k : Option Nat → Option (Nat × Bool) → COp → Bool} (h : cOper P tt ops.toList N o k = true) : ∃ d g c, k d g c = true ∧ OperRel P E F ops N o d g c := by
  unfold cOper at h
  replace h := cDst_some h
  obtain ⟨h, hd⟩ := h
  replace h := cGuard_some h
  obtain ⟨g, h, hg⟩ := h
  replace h := copSafe_some (E := E) (F := F) (o := o) hT hF h
  obtain ⟨c, h, hc⟩ := h
  exact ⟨_, g, c, h, rfl, hd, hg, hc⟩
theorem cReg_some (hT : TypesOf P tt) (hF : F.Of E) : ∀ {l : List Oper} {k : List COper → Bool}, cReg P tt ops.toList N l k = true → ∃ cl, k cl = true ∧ RegRel P E F ops N l cl
  | [], k, h => ⟨[], h, .nil⟩
  | o :: l, k, h => by
    replace h := cOper_some (k := fun d g c => cReg P tt ops.toList N l fun r => k (.mk d g c :: r)) hT hF h
    obtain ⟨d, g, c, h, hr⟩ := h
    replace h := cReg_some hT hF h
    obtain ⟨cl, h, hs⟩ := h
    exact ⟨_, h, .cons hr hs⟩
theorem bit_shl {t b : Nat} (h : (Nat.shiftLeft 1 t).testBit b = true) : b = t := by
  have h' : (1 <<< t).testBit b = true := h
  rw [Nat.testBit_shiftLeft] at h'
  simp only [Bool.and_eq_true, decide_eq_true_eq] at h'
  have := h'.2
  rw [Nat.testBit_one_eq_true_iff_self_eq_zero] at this
  omega
theorem shl_bit (t : Nat) : (Nat.shiftLeft 1 t).testBit t = true := by
  show (1 <<< t).testBit t = true
  rw [Nat.testBit_shiftLeft]; simp
theorem lor_bit {a b t : Nat} : (Nat.lor a b).testBit t = true ↔ a.testBit t = true ∨ b.testBit t = true := by
  show (a ||| b).testBit t = true ↔ _
  rw [Nat.testBit_or]; simp
theorem land_zero {a b t : Nat} (h : Nat.beq (Nat.land a b) 0 = true) (ha : a.testBit t = true) (hb : b.testBit t = true) : False := by
  have h := beq_of h
  have : (a &&& b).testBit t = true := by rw [Nat.testBit_and, ha, hb]; rfl
  rw [show a &&& b = 0 from h] at this
  simp at this
theorem seekK_some {on : Nat} {k : Nat → Bool} : ∀ {seen : List SeenE}, seekK on seen k = true → ∃ s ∈ seen, s.ix = on ∧ k s.mask = true
  | [], h => by cases h
  | s :: seen, h => by
    rcases ifK_two (e := seekK on seen k) h with ⟨e, h⟩ | ⟨_, h⟩
    · exact ⟨s, List.mem_cons_self, beq_of e, h⟩
    · obtain ⟨x, hx, h1, h2⟩ := seekK_some h
      exact ⟨x, List.mem_cons_of_mem _ hx, h1, h2⟩
theorem edgesK_some {seen : List SeenE} : ∀ {l : List Edge} {m : Nat} {k : Nat → Bool}, edgesK seen l m k = true →
    ∃ m', k m' = true ∧ (∀ b, m'.testBit b = true → m.testBit b = true ∨ ∃ e ∈ l, Region.binds .any e = true ∧ ∃ s ∈ seen, s.ix = e.on ∧ (b = e.on ∨ s.mask.testBit b = true)) ∧ ∀ e ∈ l, Region.binds .any e = true → ∃ s ∈ seen, s.ix = e.on
  | [], m, k, h => ⟨m, h, fun b hb => .inl hb, fun e he => by cases he⟩
  | e :: l, m, k, h => by
    rcases ifK_two (t := seekK e.on seen fun m' => forceN (Nat.lor m (Nat.lor (Nat.shiftLeft 1 e.on) m')) fun m => edgesK seen l m k) (e := edgesK seen l m k) h with ⟨hb, h⟩ | ⟨hb, h⟩
    · obtain ⟨s, hs, hix, h⟩ := seekK_some h
      rw [forceN_eq] at h
      obtain ⟨m', h, h1, h2⟩ := edgesK_some h
      refine ⟨m', h, fun b hbt => ?_, fun e' he' hb' => ?_⟩
      · rcases h1 b hbt with h | ⟨e', he', hr⟩
        · rcases lor_bit.1 h with h | h
          · exact .inl h
          · rcases lor_bit.1 h with h | h
            · exact .inr ⟨e, List.mem_cons_self, hb, s, hs, hix, .inl (bit_shl h)⟩
            · exact .inr ⟨e, List.mem_cons_self, hb, s, hs, hix, .inr h⟩
        · exact .inr ⟨e', List.mem_cons_of_mem _ he', hr⟩
      · rcases List.mem_cons.1 he' with rfl | he'
        · exact ⟨s, hs, hix⟩
        · exact h2 e' he' hb'
    · obtain ⟨m', h, h1, h2⟩ := edgesK_some h
      refine ⟨m', h, fun b hbt => ?_, fun e' he' hb' => ?_⟩
      · rcases h1 b hbt with h | ⟨e', he', hr⟩
        · exact .inl h
        · exact .inr ⟨e', List.mem_cons_of_mem _ he', hr⟩
      · rcases List.mem_cons.1 he' with rfl | he'
        · rw [hb] at hb'; cases hb'
        · exact h2 e' he' hb'
theorem bitOf_some {x : Operand} {k : Nat → Bool} (h : bitOf x k = true) : ∃ m, k m = true ∧ ∀ t, x = .tmp t → m.testBit t = true := by
  cases x with
  | tmp t =>
    change forceN (Nat.shiftLeft 1 t) k = true at h
    rw [forceN_eq] at h
    exact ⟨_, h, fun t' e => by injection e with e; subst e; exact shl_bit t⟩
  | _ => exact ⟨0, h, fun t e => by cases e⟩
theorem slotsK_some : ∀ {l : List Operand} {m : Nat} {k : Nat → Bool}, slotsK l m k = true → ∃ m', k m' = true ∧ (∀ b, m.testBit b = true → m'.testBit b = true) ∧ ∀ t, Operand.tmp t ∈ l → m'.testBit t = true
  | [], m, k, h => ⟨m, h, fun _ h => h, fun t ht => by cases ht⟩
  | x :: l, m, k, h => by
    obtain ⟨b, h, hb⟩ := bitOf_some (x := x) (k := fun b => forceN (Nat.lor m b) fun m => slotsK l m k) h
    rw [forceN_eq] at h
    obtain ⟨m', h, h1, h2⟩ := slotsK_some h
    refine ⟨m', h, fun t ht => h1 t (lor_bit.2 (.inl ht)), fun t ht => ?_⟩
    rcases List.mem_cons.1 ht with e | ht
    · exact h1 t (lor_bit.2 (.inr (hb t e.symm)))
    · exact h2 t ht
theorem gBit_some {g : Option (Nat × Bool)} {k : Nat → Bool} (h : gBit g k = true) : ∃ m, k m = true ∧ ∀ t, (∃ p, g = some p ∧ t = p.1) → m.testBit t = true := by
  cases g with
  | none => exact ⟨0, h, fun t ht => by obtain ⟨p, e, _⟩ := ht; cases e⟩
  | some p =>
    change forceN (Nat.shiftLeft 1 p.1) k = true at h
    rw [forceN_eq] at h
    refine ⟨_, h, fun t ht => ?_⟩
    obtain ⟨q, e, rfl⟩ := ht
    injection e with e; subst e; exact shl_bit _
theorem dBit_some {d : Option Nat} {k : Nat → Bool} (h : dBit d k = true) : ∃ m, k m = true ∧ ∀ t, d = some t → m.testBit t = true := by
  cases d with
  | none => exact ⟨0, h, fun t ht => by cases ht⟩
  | some t =>
    change forceN (Nat.shiftLeft 1 t) k = true at h
    rw [forceN_eq] at h
    exact ⟨_, h, fun t' e => by injection e with e; subst e; exact shl_bit t⟩
theorem newK_some {ix : Nat} {k : Bool} : ∀ {seen : List SeenE}, newK ix k seen = true → k = true ∧ ∀ x ∈ seen, x.ix ≠ ix
  | [], h => ⟨h, fun x hx => by cases hx⟩
  | s :: seen, h => by
    rcases ifK_two (t := false) (e := newK ix k seen) h with ⟨_, h⟩ | ⟨hb, h⟩
    · cases h
    · obtain ⟨h1, h2⟩ := newK_some h
      refine ⟨h1, fun x hx => ?_⟩
      rcases List.mem_cons.1 hx with rfl | hx
      · intro e
        rw [e] at hb
        have : Nat.beq ix ix = true := by simp
        rw [hb] at this; cases this
      · exact h2 x hx
theorem amK_some {mask : Nat} {k : Nat → Bool} : ∀ {seen : List SeenE} {m : Nat}, amK mask k seen m = true → ∃ m', k m' = true
  | [], m, h => ⟨m, h⟩
  | s :: seen, m, h => by
    rcases ifK_two (t := ifK (Nat.testBit mask s.ix) (amK mask k seen m) (forceN (Nat.lor m (Nat.shiftLeft 1 s.ix)) fun m => amK mask k seen m)) (e := amK mask k seen m) h with ⟨_, h⟩ | ⟨_, h⟩
    · rcases ifK_two h with ⟨_, h⟩ | ⟨_, h⟩
      · exact amK_some h
      · rw [forceN_eq] at h; exact amK_some h
    · exact amK_some h
theorem looseK_some {s x : SeenE} {am : Nat} {k : Bool} (h : looseK s am x k = true) : k = true ∧ Loose x s am := by
  unfold looseK at h
  obtain ⟨h1, h⟩ := ifK_and h
  obtain ⟨h2, h⟩ := ifK_and h
  have key : k = true ∧ ((x.cls = 2 ∨ x.cls = 3) → (s.cls = 3 ∨ s.cls = 1) → False) ∧ (x.cls = 1 → s.cls = 3 → am.testBit x.ix = true) := by
    rcases ifK_two h with ⟨e, h⟩ | ⟨e, h⟩
    · have e := ble_of e
      rcases ifK_two h with ⟨_, h⟩ | ⟨e3, h⟩
      · cases h
      rcases ifK_two h with ⟨_, h⟩ | ⟨e1, h⟩
      · cases h
      refine ⟨h, fun _ hs => ?_, fun hx => by omega⟩
      rcases hs with hs | hs <;> rw [hs] at e1 e3 <;> simp at e1 e3
    · have e : ¬ 2 ≤ x.cls := fun hle => by
        have : Nat.ble 2 x.cls = true := by rw [Nat.ble_eq]; exact hle
        rw [e] at this; cases this
      rcases ifK_two h with ⟨e1, h⟩ | ⟨e1, h⟩
      · rcases ifK_two h with ⟨_, h⟩ | ⟨e3, h⟩
        · obtain ⟨h3, h⟩ := ifK_and h
          exact ⟨h, fun hx => by omega, fun _ _ => h3⟩
        · refine ⟨h, fun hx => by omega, fun _ hs => ?_⟩
          rw [hs] at e3; simp at e3
      · refine ⟨h, fun hx => by omega, fun hx => ?_⟩
        rw [hx] at e1; simp at e1
  obtain ⟨k1, k2, k3⟩ := key
  refine ⟨k1, ⟨fun t ha hb => ?_, fun t ha hb => land_zero h2 ha hb, k2, k3⟩⟩
  exact land_zero h1 ha (lor_bit.2 hb)
theorem confK_some {s : SeenE} {am : Nat} {k : Bool} : ∀ {seen : List SeenE}, confK s am k seen = true → k = true ∧ ∀ x ∈ seen, s.mask.testBit x.ix = true ∨ Loose x s am
  | [], h => ⟨h, fun x hx => by cases hx⟩
  | x :: seen, h => by
    rcases ifK_two (t := confK s am k seen) (e := looseK s am x (confK s am k seen)) h with ⟨e, h⟩ | ⟨_, h⟩
    · obtain ⟨h1, h2⟩ := confK_some h
      refine ⟨h1, fun y hy => ?_⟩
      rcases List.mem_cons.1 hy with rfl | hy
      · exact .inl e
      · exact h2 y hy
    · obtain ⟨h, hl⟩ := looseK_some h
      obtain ⟨h1, h2⟩ := confK_some h
      refine ⟨h1, fun y hy => ?_⟩
      rcases List.mem_cons.1 hy with rfl | hy
      · exact .inr hl
      · exact h2 y hy
theorem copClsK_some {c : COp} {k : Nat → Bool} (h : copClsK c k = true) : k (copCls c) = true := by cases c <;> exact h
theorem allIxK_some {seen : List SeenE} {k : Bool} : ∀ {n : Nat}, allIxK seen k n = true → k = true ∧ ∀ i, i < n → ∃ s ∈ seen, s.ix = i
  | 0, h => ⟨h, fun i hi => by omega⟩
  | n + 1, h => by
    obtain ⟨s, hs, e, h⟩ := seekK_some (on := n) (k := fun _ => allIxK seen k n) h
    obtain ⟨h1, h2⟩ := allIxK_some h
    refine ⟨h1, fun i hi => ?_⟩
    rcases Nat.lt_or_ge i n with hlt | hge
    · exact h2 i hlt
    · exact ⟨s, hs, by omega⟩
theorem cDrg_some (hT : TypesOf P tt) (hF : F.Of E) : ∀ {order : List Nat} {seen : List SeenE} {k : List DOper → Bool}, cDrg P tt ops.toList N ops.size order seen k = true →
    (∀ s ∈ seen, (∃ o, ops[s.ix]? = some o) ∧ ∀ b, s.mask.testBit b = true → DepOn ops s.ix b) → ∃ l, k l = true ∧ DRel P E F ops N seen l
  | [], seen, k, h, _ => by
    change lenK seen 0 (fun n => ifK (Nat.beq n ops.size) (allIxK seen (k []) ops.size) false) = true at h
    rw [lenK_eq, Nat.zero_add] at h
    obtain ⟨h1, h⟩ := ifK_and h
    obtain ⟨h2, h3⟩ := allIxK_some h
    exact ⟨[], h2, .nil h3 (beq_of h1)⟩
  | ix :: order, seen, k, h, hS => by
    change forceN ix (fun ix => nthK ops.toList ix fun o => cOper P tt ops.toList N o fun d g c => edgesK seen o.after.toList 0 fun mask => slotsK o.op.operands.toList 0 fun r0 => gBit g fun gb => forceN (Nat.lor r0 gb) fun rM => dBit d fun dM => copClsK c fun cls =>
      newK ix (ifK (Nat.beq cls 3) (amK mask (fun am => confK ⟨ix, mask, rM, dM, cls⟩ am (cDrg P tt ops.toList N ops.size order (⟨ix, mask, rM, dM, cls⟩ :: seen) fun l => k (.mk d g c ix am :: l)) seen) seen 0)
        (confK ⟨ix, mask, rM, dM, cls⟩ 0 (cDrg P tt ops.toList N ops.size order (⟨ix, mask, rM, dM, cls⟩ :: seen) fun l => k (.mk d g c ix 0 :: l)) seen)) seen) = true at h
    rw [forceN_eq] at h
    replace h := nthK_some h
    obtain ⟨o, ho, h⟩ := h
    have ho : ops[ix]? = some o := by simpa using ho
    replace h := cOper_some (E := E) (F := F) hT hF h
    obtain ⟨d, g, c, h, hr⟩ := h
    replace h := edgesK_some h
    obtain ⟨mask, h, hm1, hm2⟩ := h
    replace h := slotsK_some h
    obtain ⟨r0, h, _, hr0⟩ := h
    replace h := gBit_some h
    obtain ⟨gb, h, hgb⟩ := h
    rw [forceN_eq] at h
    replace h := dBit_some h
    obtain ⟨dM, h, hdM⟩ := h
    replace h := copClsK_some h
    obtain ⟨h, hnew⟩ := newK_some h
    have hmask : ∀ b, mask.testBit b = true → DepOn ops ix b := by
      intro b hb
      rcases hm1 b hb with h | ⟨e, he, hbd, s, hs, hix, h⟩
      · simp at h
      · intro oj hoj listed hcl hdir
        rw [ho] at hoj; injection hoj with hoj; subst hoj
        have hl := hdir e (by simpa using he) hbd
        rcases h with h | h
        · rw [h]; exact hl
        · obtain ⟨⟨os, hos⟩, hd⟩ := hS s hs
          exact hd b h os hos listed hcl (hcl s.ix os hos (by rw [hix]; exact hl))
    have head : ∀ am, (∀ x ∈ seen, mask.testBit x.ix = true ∨ Loose x ⟨ix, mask, Nat.lor r0 gb, dM, copCls c⟩ am) → DHead P E F ops N seen ⟨ix, mask, Nat.lor r0 gb, dM, copCls c⟩ o d g c ix am := fun am hconf =>
      ⟨ho, hr, rfl, rfl, hdM, fun t ht => lor_bit.2 (ht.imp (hr0 t) (hgb t)), hmask, hnew, fun e he hb => hm2 e (by simpa using he) hb, hconf⟩
    have hS' : ∀ s ∈ (⟨ix, mask, Nat.lor r0 gb, dM, copCls c⟩ : SeenE) :: seen, (∃ o, ops[s.ix]? = some o) ∧ ∀ b, s.mask.testBit b = true → DepOn ops s.ix b := by
      intro s hs
      rcases List.mem_cons.1 hs with rfl | hs
      · exact ⟨⟨o, ho⟩, hmask⟩
      · exact hS s hs
    replace h := ifK_two h
    rcases h with ⟨_, h⟩ | ⟨_, h⟩
    · replace h := amK_some h
      obtain ⟨am, h⟩ := h
      replace h := confK_some h
      obtain ⟨h, hconf⟩ := h
      replace h := cDrg_some hT hF h hS'
      obtain ⟨l, h, hl⟩ := h
      exact ⟨_, h, .cons (head am hconf) hl⟩
    · replace h := confK_some h
      obtain ⟨h, hconf⟩ := h
      replace h := cDrg_some hT hF h hS'
      obtain ⟨l, h, hl⟩ := h
      exact ⟨_, h, .cons (head 0 hconf) hl⟩
end
end Go.Proofs.YtdnahdcjnahfkaaGreatDoor.Ev
namespace Go.Proofs.YtdnahdcjnahfkaaGreatDoor.Ev
open Go

noncomputable def odrK (id : Nat) (k : List Nat → Bool) (no : Bool) (l : List (Nat × List Nat)) : Bool := @List.rec (Nat × List Nat) (fun _ => Bool) no (fun p _ ih => ifK (Nat.beq p.1 id) (k p.2) ih) l
noncomputable def idxK (l : List Oper) : Nat → (List Nat → Bool) → Bool := @List.rec Oper (fun _ => Nat → (List Nat → Bool) → Bool) (fun _ k => k []) (fun _ _ ih i k => forceN (Nat.succ i) fun j => ih j fun r => k (i :: r)) l
section
variable (P : Program) (tt : T TypeInfo) (N : Nat) (ords : List (Nat × List Nat))
noncomputable def drawnC (ops : Array Oper) (order : List Nat) (k : CCode → Bool) : Bool :=
  ifK (cDrg P tt ops.toList N ops.size order [] fun _ => true) (cDrg P tt ops.toList N ops.size order [] fun l => k (.drg l)) (k badC)
noncomputable def regionC (id : Nat) (ops : Array Oper) (draw : Bool) (k : CCode → Bool) : Bool :=
  @Bool.rec (fun _ => Bool) (cReg P tt ops.toList N ops.toList fun l => k (.reg l)) (odrK id (fun order => drawnC P tt N ops order k) (idxK ops.toList 0 fun order => drawnC P tt N ops order k) ords) draw
noncomputable def codeC (c : Code) : (CCode → Bool) → Bool :=
  @Code.rec (fun _ => (CCode → Bool) → Bool) (fun k => k .skip) (fun id ops draw k => regionC P tt N ords id ops draw k) (fun _ _ iha ihb k => iha fun a => ihb fun b => k (.seq a b))
    (fun x _ _ iha ihb k => copdK x fun x => iha fun a => ihb fun b => k (.cond x a b)) (fun i _ ih k => forceN i fun i => ih fun a => k (.block i a)) (fun _ ih k => ih fun a => k (.loop a)) (fun _ _ _ _ _ _ k => k badC) (fun i k => forceN i fun i => k (.exit i))
    (fun _ _ k => k badC) (fun _ k => k .skip) (fun _ k => k badC) (fun k => k .ret) (fun _ k => k badC) c
noncomputable def resC1 (r : ResultVar) (k : CRes → Bool) : Bool :=
  @ResultVar.rec (fun _ => Bool) (fun t => forceN t fun t => k (.tmp t)) (fun t ct => forceN t fun t => undK tt ct fun d => aggDK d (infoK tt ct fun it => forceN it.size fun n => k (.cn n t)) (k (.c1 t))) r
noncomputable def resC (l : List ResultVar) : (List CRes → Bool) → Bool := @List.rec ResultVar (fun _ => (List CRes → Bool) → Bool) (fun k => k []) (fun r _ ih k => resC1 tt r fun c => ih fun cs => k (c :: cs)) l
end
noncomputable def fnC (P : Program) (tt : T TypeInfo) (fn : Func) (ords : List (Nat × List Nat)) (k : FnE → Bool) : Bool :=
  someK fn.body fun b => forceN fn.ntmps fun n => resC tt fn.results.toList fun rs => codeC P tt n ords b fun c => k (.code n rs c)
structure FnD where
  id : Nat
  fn : Func
  ords : List (Nat × List Nat)
noncomputable def fnsK (P : Program) (tt : T TypeInfo) (l : List FnD) : T FnE → (T FnE → Bool) → Bool :=
  @List.rec FnD (fun _ => T FnE → (T FnE → Bool) → Bool) (fun ft k => k ft) (fun d _ ih ft k => fnC P tt d.fn d.ords fun e => forceN d.id fun i => setK e 40 ft i fun ft => ih ft k) l
noncomputable def orcsK (l : List (Nat × FnE)) : T FnE → (T FnE → Bool) → Bool :=
  @List.rec (Nat × FnE) (fun _ => T FnE → (T FnE → Bool) → Bool) (fun ft k => k ft) (fun p _ ih ft k => setK p.2 40 ft p.1 fun ft => ih ft k) l
noncomputable def typesK (P : Program) (k : T TypeInfo → Bool) : Bool := writeK P.types.toList .l 0 k
/-- The whole: tables, functions, the call. -/
noncomputable def runK (P : Program) (F : Facts) (fuel depth : Nat) (fns : List FnD) (orcs : List (Nat × FnE)) (f : Nat) (as : List AV) (h : T Blk) (nx : Nat) (k : KV) : Bool :=
  typesK P fun tt => orcsK orcs .l fun ft => fnsK P tt fns ft fun ft => callK F fuel ft depth f as h nx k

section
variable {P : Program} {tt : T TypeInfo} {E : Env} {F : Facts} {N : Nat} {ords : List (Nat × List Nat)}
theorem drawnC_some (hT : TypesOf P tt) (hF : F.Of E) {id : Nat} {ops : Array Oper} {order : List Nat} {k : CCode → Bool} (h : drawnC P tt N ops order k = true) : ∃ cc, k cc = true ∧ CodeRel P E F N (.region id ops true) cc := by
  rcases ifK_two h with ⟨_, h⟩ | ⟨_, h⟩
  · replace h := cDrg_some (E := E) (F := F) hT hF h (fun s hs => by cases hs)
    obtain ⟨l, h, hl⟩ := h
    exact ⟨_, h, .drg hl⟩
  · exact ⟨_, h, .bad _⟩
theorem odrK_some {id : Nat} {k : List Nat → Bool} {no : Bool} : ∀ {l : List (Nat × List Nat)}, odrK id k no l = true → (∃ o, k o = true) ∨ no = true
  | [], h => .inr h
  | p :: l, h => by
    rcases ifK_two (e := odrK id k no l) h with ⟨_, h⟩ | ⟨_, h⟩
    · exact .inl ⟨_, h⟩
    · exact odrK_some h
theorem idxK_some : ∀ {l : List Oper} {i : Nat} {k : List Nat → Bool}, idxK l i k = true → ∃ o, k o = true
  | [], _, _, h => ⟨_, h⟩
  | x :: l, i, k, h => by
    change forceN (Nat.succ i) (fun j => idxK l j fun r => k (i :: r)) = true at h
    rw [forceN_eq] at h
    obtain ⟨o, h⟩ := idxK_some h
    exact ⟨_, h⟩
theorem codeC_some (hT : TypesOf P tt) (hF : F.Of E) : ∀ {c : Code} {k : CCode → Bool}, codeC P tt N ords c k = true → ∃ cc, k cc = true ∧ CodeRel P E F N c cc := by
  intro c
  induction c with
  | skip => intro k h; exact ⟨_, h, .skip⟩
  | region id ops draw =>
    intro k h
    cases draw with
    | false =>
      replace h := cReg_some (E := E) (F := F) hT hF (k := fun l => k (.reg l)) h
      obtain ⟨l, h, hl⟩ := h
      exact ⟨_, h, .reg hl⟩
    | true =>
      rcases odrK_some (id := id) (k := fun order => drawnC P tt N ops order k) (l := ords) h with ⟨o, h⟩ | h
      · exact drawnC_some hT hF h
      · obtain ⟨o, h⟩ := idxK_some h
        exact drawnC_some hT hF h
  | seq a b iha ihb =>
    intro k h
    replace h := iha (k := fun a => codeC P tt N ords b fun b => k (.seq a b)) h
    obtain ⟨ca, h, ha⟩ := h
    replace h := ihb h
    obtain ⟨cb, h, hb⟩ := h
    exact ⟨_, h, .seq ha hb⟩
  | cond x a b iha ihb =>
    intro k h
    replace h := copdK_some (E := E) (k := fun x => codeC P tt N ords a fun a => codeC P tt N ords b fun b => k (.cond x a b)) h
    obtain ⟨cx, h, hx⟩ := h
    replace h := iha h
    obtain ⟨ca, h, ha⟩ := h
    replace h := ihb h
    obtain ⟨cb, h, hb⟩ := h
    exact ⟨_, h, .cond hx ha hb⟩
  | block i a ih =>
    intro k h
    change forceN i (fun i => codeC P tt N ords a fun a => k (.block i a)) = true at h
    rw [forceN_eq] at h
    replace h := ih h
    obtain ⟨ca, h, ha⟩ := h
    exact ⟨_, h, .block ha⟩
  | loop a ih =>
    intro k h
    replace h := ih (k := fun a => k (.loop a)) h
    obtain ⟨ca, h, ha⟩ := h
    exact ⟨_, h, .loop ha⟩
  | exit i =>
    intro k h
    change forceN i (fun i => k (.exit i)) = true at h
    rw [forceN_eq] at h
    exact ⟨_, h, .exit i⟩
  | label l => intro k h; exact ⟨_, h, .label l⟩
  | ret => intro k h; exact ⟨_, h, .ret⟩
  | _ => intro k h; exact ⟨_, h, .bad _⟩
theorem resC_some (hT : TypesOf P tt) : ∀ {l : List ResultVar} {k : List CRes → Bool}, resC tt l k = true → ∃ cs, k cs = true ∧ ResRel P l cs
  | [], k, h => ⟨_, h, .nil⟩
  | .tmp t :: l, k, h => by
    change forceN t (fun t => resC tt l fun cs => k (.tmp t :: cs)) = true at h
    rw [forceN_eq] at h
    replace h := resC_some hT h
    obtain ⟨cs, h, hs⟩ := h
    exact ⟨_, h, .tmp hs⟩
  | .cell t ct :: l, k, h => by
    change forceN t (fun t => undK tt ct fun d => aggDK d (infoK tt ct fun it => forceN it.size fun n => resC tt l fun cs => k (.cn n t :: cs)) (resC tt l fun cs => k (.c1 t :: cs))) = true at h
    rw [forceN_eq] at h
    replace h := undK_some hT h
    obtain ⟨d, hd, h⟩ := h
    replace h := aggDK_some hd h
    rcases h with ⟨h, hg⟩ | ⟨h, hg⟩
    · replace h := infoK_some hT h
      obtain ⟨it, hi, h⟩ := h
      rw [forceN_eq] at h
      replace h := resC_some hT h
      obtain ⟨cs, h, hs⟩ := h
      exact ⟨_, h, .cn hg hi hs⟩
    · replace h := resC_some hT h
      obtain ⟨cs, h, hs⟩ := h
      exact ⟨_, h, .c1 hg hs⟩
/-- A function of the program. -/
structure FnD.Of (P : Program) (d : FnD) : Prop where
  get : P.funcs[d.id]? = some d.fn
  name : (d.fn.name == "runtime.NumGoroutine") = false
theorem fnC_some (hT : TypesOf P tt) (hF : F.Of E) {d : FnD} (hd : d.Of P) {k : FnE → Bool} (h : fnC P tt d.fn d.ords k = true) : ∃ e, k e = true ∧ FnRel P E F d.id e := by
  unfold fnC at h
  replace h := someK_some h
  obtain ⟨b, hb, h⟩ := h
  rw [forceN_eq] at h
  replace h := resC_some hT h
  obtain ⟨rs, h, hr⟩ := h
  replace h := codeC_some (E := E) (F := F) hT hF h
  obtain ⟨c, h, hc⟩ := h
  exact ⟨_, h, .code hd.get hb hd.name hr hc⟩
def FtOk (P : Program) (E : Env) (F : Facts) (ft : T FnE) : Prop := ∀ i e, ft.get i = some e → FnRel P E F i e
theorem FtOk.set {ft ft' : T FnE} {i : Nat} {e : FnE} (h : FtOk P E F ft) (hu : Upd ft i e ft') (he : FnRel P E F i e) : FtOk P E F ft' := by
  intro j x hx
  rw [hu] at hx
  split at hx
  · rename_i hj; subst hj; injection hx with hx; subst hx; exact he
  · exact h j x hx
theorem fnsK_some (hT : TypesOf P tt) (hF : F.Of E) : ∀ {l : List FnD}, (∀ d ∈ l, d.Of P) → ∀ {ft : T FnE} {k : T FnE → Bool}, FtOk P E F ft → fnsK P tt l ft k = true → ∃ ft', k ft' = true ∧ FtOk P E F ft'
  | [], _, ft, k, hft, h => ⟨ft, h, hft⟩
  | d :: l, hl, ft, k, hft, h => by
    change fnC P tt d.fn d.ords (fun e => forceN d.id fun i => setK e 40 ft i fun ft => fnsK P tt l ft k) = true at h
    replace h := fnC_some (E := E) (F := F) hT hF (hl d List.mem_cons_self) h
    obtain ⟨e, h, he⟩ := h
    rw [forceN_eq] at h
    replace h := setK_some h
    obtain ⟨ft1, hu, h⟩ := h
    exact fnsK_some hT hF (fun x hx => hl x (List.mem_cons_of_mem _ hx)) (hft.set hu he) h
theorem orcsK_some : ∀ {l : List (Nat × FnE)}, (∀ p ∈ l, FnRel P E F p.1 p.2) → ∀ {ft : T FnE} {k : T FnE → Bool}, FtOk P E F ft → orcsK l ft k = true → ∃ ft', k ft' = true ∧ FtOk P E F ft'
  | [], _, ft, k, hft, h => ⟨ft, h, hft⟩
  | p :: l, hl, ft, k, hft, h => by
    change setK p.2 40 ft p.1 (fun ft => orcsK l ft k) = true at h
    replace h := setK_some h
    obtain ⟨ft1, hu, h⟩ := h
    exact orcsK_some (fun x hx => hl x (List.mem_cons_of_mem _ hx)) (hft.set hu (hl p List.mem_cons_self)) h
theorem typesK_some {k : T TypeInfo → Bool} (h : typesK P k = true) : ∃ tt, TypesOf P tt ∧ k tt = true := by
  unfold typesK at h
  obtain ⟨tt, ht, h⟩ := writeK_some h
  refine ⟨tt, fun i x hx => ?_, h⟩
  rw [ht] at hx
  have hgl : (T.l : T TypeInfo).get i = none := rfl
  split at hx
  · have : P.types.toList[i]? = some x := by simpa using hx
    have hlt : i < P.types.size := by
      rcases Nat.lt_or_ge i P.types.size with h | h
      · exact h
      · simp [h] at this
    unfold Tables.info?
    rw [if_pos hlt]; simpa using this
  · rw [hgl] at hx; cases hx
theorem runK_some (hF : F.Of E) (hm : P.follows .mixedOrders = true) {fuel depth : Nat} {fns : List FnD} {orcs : List (Nat × FnE)} (hfns : ∀ d ∈ fns, d.Of P) (horcs : ∀ p ∈ orcs, FnRel P E F p.1 p.2) {f : Nat} {as : List AV} {h : T Blk} {nx : Nat} {k : KV}
    (hf : FnHas P f) (hk : runK P F fuel depth fns orcs f as h nx k = true) (hfr : Fresh h nx) : ∃ r h' nx', k r h' nx' = true ∧ Fresh h' nx' ∧ nx ≤ nx' ∧ CallT P E f as h.get nx r h'.get nx' := by
  unfold runK at hk
  replace hk := typesK_some hk
  obtain ⟨tt, hT, hk⟩ := hk
  replace hk := orcsK_some (E := E) (F := F) horcs (fun i e he => by cases he) hk
  obtain ⟨ft0, hk, h0⟩ := hk
  replace hk := fnsK_some (E := E) (F := F) hT hF hfns h0 hk
  obtain ⟨ft, hk, hft⟩ := hk
  obtain ⟨r, h', nx', h1, h2, h3, h4⟩ := callK_some (E := E) (F := F) hm hft depth f as h nx k hk hfr
  exact ⟨r, h', nx', h1, h2, h3, h4.body hf⟩
end
end Go.Proofs.YtdnahdcjnahfkaaGreatDoor.Ev
namespace Go.Proofs.YtdnahdcjnahfkaaGreatDoor.Ev
open Go

abbrev Orc := List AV → T Blk → Nat → KV → Bool
noncomputable def codeOnlyK (e : FnE) (k : Nat → List CRes → CCode → Bool) : Bool := @FnE.rec (fun _ => Bool) (fun n rs c => k n rs c) (fun _ => false) (fun _ _ _ _ => false) e
noncomputable def mixK (l : List (Nat × (Orc → Orc))) : T FnE → (T FnE → Bool) → Bool :=
  @List.rec (Nat × (Orc → Orc)) (fun _ => T FnE → (T FnE → Bool) → Bool) (fun ft k => k ft) (fun p _ ih ft k => getK (fun e => codeOnlyK e fun n rs c => setK (.mix p.2 n rs c) 40 ft p.1 fun ft => ih ft k) ft p.1) l
noncomputable def runMK (P : Program) (F : Facts) (fuel depth : Nat) (fns : List FnD) (orcs : List (Nat × FnE)) (mixs : List (Nat × (Orc → Orc))) (f : Nat) (as : List AV) (h : T Blk) (nx : Nat) (k : KV) : Bool :=
  typesK P fun tt => orcsK orcs .l fun ft => fnsK P tt fns ft fun ft => mixK mixs ft fun ft => callK F fuel ft depth f as h nx k
section
variable {P : Program} {E : Env} {F : Facts}
def OrcOk (P : Program) (E : Env) (i : Nat) (g : Orc) : Prop := ∀ as h nx k, g as h nx k = true → Fresh h nx → ∃ r h' nx', k r h' nx' = true ∧ Fresh h' nx' ∧ nx ≤ nx' ∧ CallR P E i as h.get nx r h'.get nx'
theorem mixK_some : ∀ {l : List (Nat × (Orc → Orc))}, (∀ p ∈ l, ∀ run, OrcOk P E p.1 run → OrcOk P E p.1 (p.2 run)) → ∀ {ft : T FnE} {k : T FnE → Bool}, FtOk P E F ft → mixK l ft k = true → ∃ ft', k ft' = true ∧ FtOk P E F ft'
  | [], _, ft, k, hft, h => ⟨ft, h, hft⟩
  | p :: l, hl, ft, k, hft, h => by
    change getK (fun e => codeOnlyK e fun n rs c => setK (.mix p.2 n rs c) 40 ft p.1 fun ft => mixK l ft k) ft p.1 = true at h
    replace h := getK_some h
    obtain ⟨e, he, h⟩ := h
    have hrel := hft _ _ he
    cases hrel with
    | orc => cases h
    | mix => cases h
    | @code fn b rs c hf hb hn hr hc =>
      change setK (.mix p.2 fn.ntmps rs c) 40 ft p.1 (fun ft => mixK l ft k) = true at h
      replace h := setK_some h
      obtain ⟨ft1, hu, h⟩ := h
      exact mixK_some (fun x hx => hl x (List.mem_cons_of_mem _ hx)) (hft.set hu (.mix hf hb hn hr hc (hl p List.mem_cons_self))) h
theorem runMK_some (hF : F.Of E) (hm : P.follows .mixedOrders = true) {fuel depth : Nat} {fns : List FnD} {orcs : List (Nat × FnE)} {mixs : List (Nat × (Orc → Orc))} (hfns : ∀ d ∈ fns, d.Of P) (horcs : ∀ p ∈ orcs, FnRel P E F p.1 p.2) (hmix : ∀ p ∈ mixs, ∀ run, OrcOk P E p.1 run → OrcOk P E p.1 (p.2 run)) {f : Nat} {as : List AV} {h : T Blk} {nx : Nat} {k : KV}
    (hf : FnHas P f) (hk : runMK P F fuel depth fns orcs mixs f as h nx k = true) (hfr : Fresh h nx) : ∃ r h' nx', k r h' nx' = true ∧ Fresh h' nx' ∧ nx ≤ nx' ∧ CallT P E f as h.get nx r h'.get nx' := by
  unfold runMK at hk
  replace hk := typesK_some hk
  obtain ⟨tt, hT, hk⟩ := hk
  replace hk := orcsK_some (E := E) (F := F) horcs (fun i e he => by cases he) hk
  obtain ⟨ft0, hk, h0⟩ := hk
  replace hk := fnsK_some (E := E) (F := F) hT hF hfns h0 hk
  obtain ⟨ft1, hk, h1⟩ := hk
  replace hk := mixK_some (E := E) (F := F) hmix h1 hk
  obtain ⟨ft, hk, hft⟩ := hk
  obtain ⟨r, h', nx', g1, g2, g3, g4⟩ := callK_some (E := E) (F := F) hm hft depth f as h nx k hk hfr
  exact ⟨r, h', nx', g1, g2, g3, g4.body hf⟩
end
end Go.Proofs.YtdnahdcjnahfkaaGreatDoor.Ev
namespace Go.Proofs.YtdnahdcjnahfkaaGreatDoor.Ev
open Go

noncomputable def l3K {β : Type} (l : List β) (k : β → β → β → Bool) : Bool := @List.rec β (fun _ => Bool) false (fun x r _ => l2K r (fun y z => k x y z) false) l
noncomputable def cntK (ap : Bool) (m : Nat) (s : List Nat) : Nat → (Nat → Bool) → Bool :=
  @List.rec Nat (fun _ => Nat → (Nat → Bool) → Bool) (fun n k => k n) (fun x _ ih n k => eqS ap (fun b => @Bool.rec (fun _ => Bool) (ih n k) (forceN (Nat.succ n) fun n => ih n k) b) [x] [m]) s
noncomputable def gCount (F : Facts) : Orc := fun as h nx k => l2K as (fun s c => strK s fun s => atom1K c fun m => cntK F.apart m s 0 fun n => k (.int .i64 (Int.ofNat n)) h nx) false
noncomputable def idxBK (ap : Bool) (m : Nat) (s : List Nat) : Nat → (Int → Bool) → Bool :=
  @List.rec Nat (fun _ => Nat → (Int → Bool) → Bool) (fun _ k => k (Int.negSucc 0)) (fun x _ ih n k => eqS ap (fun b => @Bool.rec (fun _ => Bool) (forceN (Nat.succ n) fun n => ih n k) (k (Int.ofNat n)) b) [x] [m]) s
noncomputable def gIndexByte (F : Facts) : Orc := fun as h nx k => l2K as (fun s c => strK s fun s => atom1K c fun m => idxBK F.apart m s 0 fun n => k (.int .i64 n) h nx) false
noncomputable def gWord (wf : Nat → Nat) : Orc := fun as h nx k => l1K as (fun v => numK v (fun q n => ifK (kindEq q .u8) (@Int.rec (fun _ => Bool) (fun m => forceN (Nat.add 97 (Nat.mod m 26)) fun a => ifK (Nat.ble m 255) (k (.str [119, a]) h nx) false) (fun _ => false) n) false) (fun _ _ => false)
  (fun q i => ifK (kindEq q .u8) (forceN (Nat.add 256 (wf i)) fun a => k (.str [119, a]) h nx) false)) false
/-- A slice's cells. -/
noncomputable def rowK (h : T Blk) (es : Nat) (v : AV) (k : List AV → Nat → Bool) : Bool :=
  slK v (fun i o n _ _ es' => ifK (Nat.beq es es') (blkK h i fun m t => forceN (Nat.mul n es) fun ne => ifK (Nat.ble (Nat.add o ne) m) (readK t ne o fun cs => k cs n) false) false) (k [] 0) (k [] 0)
noncomputable def insNew (es i l m : Nat) (old new : List AV) (h : T Blk) (nx : Nat) (k : KV) : Bool :=
  forceN (Nat.mul i es) fun ie => takeK ie old fun a => dropK ie old fun b => appK new b fun c => appK a c fun cs => forceN (Nat.add l m) fun lm => mkK cs h nx fun h nx' => k (.sl nx 0 lm lm false es) h nx'
noncomputable def gInsert (es : Nat) : Orc := fun as h nx k => l3K as fun x i v => natK i fun i => rowK h es v fun new m => @Nat.rec (fun _ => Bool) (k x h nx) (fun _ _ =>
  slK x (fun xi _ l c ex _ => rowK h es x fun old _ => ifK (Nat.ble i l) (@Bool.rec (fun _ => Bool) (setK .dead 40 h xi fun h => insNew es i l m old new h nx k) (ifK (Nat.blt c (Nat.add l m)) (insNew es i l m old new h nx k) false) ex) false)
    (insNew es i 0 m [] new h nx k) (insNew es i 0 m [] new h nx k)) m
noncomputable def insK (s : List Nat) (l : List (List Nat)) : (List (List Nat) → Bool) → Bool :=
  @List.rec (List Nat) (fun _ => (List (List Nat) → Bool) → Bool) (fun k => k [s]) (fun x r ih k => ordS (fun n => @Nat.rec (fun _ => Bool) (k (s :: x :: r)) (fun n _ => @Nat.rec (fun _ => Bool) (k (x :: r)) (fun _ _ => ih fun r => k (x :: r)) n) n) s x) l
/-- The first of every three. -/
noncomputable def thirdK (cs : List AV) (acc : List (List Nat)) (k : List (List Nat) → Bool) : Nat → Bool :=
  fun n => @Nat.rec (fun _ => List AV → List (List Nat) → Bool) (fun _ acc => k acc) (fun _ ih cs acc => @List.rec AV (fun _ => Bool) false (fun x r _ => strK x fun s => insK s acc fun acc => dropK 2 r fun r => ih r acc) cs) n cs acc
noncomputable def rowsK (h : T Blk) (rows : List AV) : List (List Nat) → (List (List Nat) → Bool) → Bool :=
  @List.rec AV (fun _ => List (List Nat) → (List (List Nat) → Bool) → Bool) (fun acc k => k acc) (fun r _ ih acc k => rowK h 3 r fun cs n => thirdK cs acc (fun acc => ih acc k) n) rows
noncomputable def strsK (l : List (List Nat)) : (List AV → Bool) → Bool := @List.rec (List Nat) (fun _ => (List AV → Bool) → Bool) (fun k => k []) (fun s _ ih k => ih fun r => k (.str s :: r)) l
noncomputable def gPaths : Orc := fun as h nx k => l1K as (fun l => rowK h 1 l fun rows _ => rowsK h rows [] fun ps => strsK ps fun cs => lenK cs 0 fun n => @Nat.rec (fun _ => Bool) (k .nils h nx) (fun _ _ => mkK cs h nx fun h nx' => k (.sl nx 0 n n true 1) h nx') n) false
noncomputable def isTrue : KV := fun v _ _ => boolK v fun b => b
end Go.Proofs.YtdnahdcjnahfkaaGreatDoor.Ev
