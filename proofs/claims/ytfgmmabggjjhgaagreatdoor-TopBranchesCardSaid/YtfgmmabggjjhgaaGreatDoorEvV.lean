/- The evaluator: code and calls. It speaks of any program; nothing of the claim's own program stands here. -/
import Derived.Test.YtfgmmabggjjhgaaGreatDoorEvX2
import Derived.LoopN
namespace Go.Proofs.YtfgmmabggjjhgaaGreatDoor.Ev
open Go

def Closed (ops : Array Oper) (listed : Array Bool) : Prop := ∀ j oj, ops[j]? = some oj → listed.getD j false = true → ∀ e ∈ oj.after, Region.binds .any e = true → listed.getD e.on false = true
def DepOn (ops : Array Oper) (j b : Nat) : Prop := ∀ oj, ops[j]? = some oj → ∀ listed : Array Bool, Closed ops listed → (∀ e ∈ oj.after, Region.binds .any e = true → listed.getD e.on false = true) → listed.getD b false = true
/-- What is known of an operation before the run: what it hangs on, the slots that it looks at, its own slot, its class. -/
structure SeenE where
  ix : Nat
  mask : Nat
  rM : Nat
  dM : Nat
  cls : Nat
noncomputable def copCls (c : COp) : Nat := @COp.rec (fun _ => Nat) (fun _ => 0) (fun _ => 1) (fun _ => 2) (fun _ => 3) (fun _ _ => 3) c
/-- They need no order. -/
structure Loose (x s : SeenE) (am : Nat) : Prop where
  ww : ∀ t, x.dM.testBit t = true → s.rM.testBit t = true ∨ s.dM.testBit t = true → False
  rw_ : ∀ t, s.dM.testBit t = true → x.rM.testBit t = true → False
  cc : (x.cls = 2 ∨ x.cls = 3) → (s.cls = 3 ∨ s.cls = 1) → False
  am : x.cls = 1 → s.cls = 3 → am.testBit x.ix = true
def Rd (o : Oper) (g : Option (Nat × Bool)) (t : Nat) : Prop := Operand.tmp t ∈ o.op.operands.toList ∨ ∃ p, g = some p ∧ t = p.1
structure DHead (P : Program) (E : Env) (F : Facts) (ops : Array Oper) (N : Nat) (seen : List SeenE) (s : SeenE) (o : Oper) (d : Option Nat) (g : Option (Nat × Bool)) (c : COp) (ix am : Nat) : Prop where
  get : ops[ix]? = some o
  rel : OperRel P E F ops N o d g c
  hix : s.ix = ix
  cls : s.cls = copCls c
  dM : ∀ t, d = some t → s.dM.testBit t = true
  rM : ∀ t, Rd o g t → s.rM.testBit t = true
  mask : ∀ b, s.mask.testBit b = true → DepOn ops ix b
  new : ∀ x ∈ seen, x.ix ≠ ix
  topo : ∀ e ∈ o.after, Region.binds .any e = true → ∃ x ∈ seen, x.ix = e.on
  conf : ∀ x ∈ seen, s.mask.testBit x.ix = true ∨ Loose x s am
inductive DRel (P : Program) (E : Env) (F : Facts) (ops : Array Oper) (N : Nat) : List SeenE → List DOper → Prop where
  | nil {seen : List SeenE} (all : ∀ i, i < ops.size → ∃ s ∈ seen, s.ix = i) (len : seen.length = ops.size) : DRel P E F ops N seen []
  | cons {seen : List SeenE} {s : SeenE} {o : Oper} {d : Option Nat} {g : Option (Nat × Bool)} {c : COp} {ix am : Nat} {l : List DOper} (h : DHead P E F ops N seen s o d g c ix am) (hs : DRel P E F ops N (s :: seen) l) : DRel P E F ops N seen (.mk d g c ix am :: l)

def Found.push (ops : Array Oper) (X : Found) (ix cl : Nat) (v : AV) (dst : Option Nat) (fr : T AV) (h : T Blk) (nx : Nat) (blk : Blk) (rd : Nat → Prop) : Found where
  n := X.n + 1
  ix q := if q = X.n then ix else X.ix q
  cl q := if q = X.n then cl else X.cl q
  v q := if q = X.n then v else X.v q
  dst q := if q = X.n then dst else X.dst q
  fr q := if q = X.n + 1 then fr else X.fr q
  h q := if q = X.n + 1 then h else X.h q
  nx q := if q = X.n + 1 then nx else X.nx q
  blk q := if q = X.n then blk else X.blk q
  rd q := if q = X.n then rd else X.rd q
  dep q q' := DepOn ops (if q' = X.n then ix else X.ix q') (if q = X.n then ix else X.ix q)
structure Found.One (P : Program) (E : Env) (ops : Array Oper) (N : Nat) (X : Found) (q : Nat) : Prop where
  oper : ∃ o, ops[X.ix q]? = some o ∧ ∀ e ∈ o.after, Region.binds .any e = true → ∃ q', q' < q ∧ X.ix q' = e.on
  dst : ∀ t, X.dst q = some t → t < N
  cls : X.cl q ≤ 3
  frs : ∀ t, (X.fr (q + 1)).get t = if X.dst q = some t then some (X.v q) else (X.fr q).get t
  keep : X.cl q < 2 → X.h (q + 1) = X.h q ∧ X.nx (q + 1) = X.nx q
  make : X.cl q = 2 → Upd (X.h q) (X.nx q) (X.blk q) (X.h (q + 1)) ∧ X.nx (q + 1) = X.nx q + 1 ∧ ∃ m t, X.blk q = .live m t
  up : X.nx q ≤ X.nx (q + 1)
  fresh : Fresh (X.h q) (X.nx q)
  p0 : X.cl q = 0 → ∀ Q, X.pures P E ops Q q
  p1 : X.cl q = 1 → ∀ Q, X.reads P E ops Q q (X.h q).get
  p2 : X.cl q = 2 → ∀ Q, X.makes P E ops Q q
  p3 : X.cl q = 3 → ∀ Q, X.acts P E ops Q q
structure Found.Two (P : Program) (E : Env) (ops : Array Oper) (X : Found) (q q' : Nat) : Prop where
  ne : X.ix q ≠ X.ix q'
  ww : ∀ t, X.dst q = some t → (X.rd q' t ∨ X.dst q' = some t) → X.dep q q'
  rw_ : ∀ t, X.dst q' = some t → X.rd q t → X.dep q q'
  cc : (X.cl q = 2 ∨ X.cl q = 3) → (X.cl q' = 3 ∨ X.cl q' = 1) → X.dep q q'
  p1' : X.cl q = 1 → X.cl q' = 3 → ¬ X.dep q q' → ∀ Q, X.reads P E ops Q q (X.h (q' + 1)).get

structure Agree (X Y : Found) : Prop where
  ix : ∀ q, q < X.n → Y.ix q = X.ix q
  cl : ∀ q, q < X.n → Y.cl q = X.cl q
  v : ∀ q, q < X.n → Y.v q = X.v q
  dst : ∀ q, q < X.n → Y.dst q = X.dst q
  blk : ∀ q, q < X.n → Y.blk q = X.blk q
  rd : ∀ q, q < X.n → Y.rd q = X.rd q
  fr : ∀ q, q ≤ X.n → Y.fr q = X.fr q
  h : ∀ q, q ≤ X.n → Y.h q = X.h q
  nx : ∀ q, q ≤ X.n → Y.nx q = X.nx q
theorem agree_push {ops : Array Oper} {X : Found} {ix cl : Nat} {v : AV} {dst : Option Nat} {fr : T AV} {h : T Blk} {nx : Nat} {blk : Blk} {rd : Nat → Prop} : Agree X (X.push ops ix cl v dst fr h nx blk rd) := by
  constructor <;> intro q hq <;> simp only [Found.push] <;> rw [if_neg (by omega)]

section
variable {P : Program} {E : Env} {ops : Array Oper} {N : Nat} {X Y : Found}
theorem Found.One.agree {q : Nat} (A : Agree X Y) (hq : q < X.n) (h : X.One P E ops N q) : Y.One P E ops N q := by
  have i := A.ix q hq
  have c := A.cl q hq
  have v := A.v q hq
  have d := A.dst q hq
  have b := A.blk q hq
  have r := A.rd q hq
  have f1 := A.fr q (Nat.le_of_lt hq)
  have f2 := A.fr (q + 1) hq
  have h1 := A.h q (Nat.le_of_lt hq)
  have h2 := A.h (q + 1) hq
  have n1 := A.nx q (Nat.le_of_lt hq)
  have n2 := A.nx (q + 1) hq
  constructor
  · obtain ⟨o, h1, h2⟩ := h.oper
    rw [i]
    refine ⟨o, h1, fun e he hb => ?_⟩
    obtain ⟨q', a, b⟩ := h2 e he hb
    exact ⟨q', a, by rw [A.ix q' (by omega)]; exact b⟩
  · rw [d]; exact h.dst
  · rw [c]; exact h.cls
  · rw [d, v, f1, f2]; exact h.frs
  · rw [c, h1, h2, n1, n2]; exact h.keep
  · rw [c, h1, h2, n1, n2, b]; exact h.make
  · rw [n1, n2]; exact h.up
  · rw [h1, n1]; exact h.fresh
  · intro hc Q; unfold Found.pures; rw [i, v, d, f1, r]; exact h.p0 (c ▸ hc) Q
  · intro hc Q; unfold Found.reads; rw [i, v, d, f1, r, h1]; exact h.p1 (c ▸ hc) Q
  · intro hc Q; unfold Found.makes; rw [i, v, d, f1, r, n1, b]; exact h.p2 (c ▸ hc) Q
  · intro hc Q; unfold Found.acts; rw [i, v, d, f1, r, n1, n2, h1, h2]; exact h.p3 (c ▸ hc) Q
theorem reads_agree {q : Nat} (A : Agree X Y) (hq : q < X.n) {Q : Exit → Act → World → Prop} {H : Heap} (h : X.reads P E ops Q q H) : Y.reads P E ops Q q H := by
  unfold Found.reads; rw [A.ix q hq, A.v q hq, A.dst q hq, A.fr q (Nat.le_of_lt hq), A.rd q hq]; exact h
theorem Found.Two.agree {q q' : Nat} (A : Agree X Y) (hd : ∀ q q', X.dep q q' = DepOn ops (X.ix q') (X.ix q)) (hd' : ∀ q q', Y.dep q q' = DepOn ops (Y.ix q') (Y.ix q)) (hqq : q < q') (hq : q' < X.n) (h : X.Two P E ops q q') : Y.Two P E ops q q' := by
  have hq0 : q < X.n := by omega
  have de : Y.dep q q' = X.dep q q' := by rw [hd, hd', A.ix q hq0, A.ix q' hq]
  constructor
  · rw [A.ix q hq0, A.ix q' hq]; exact h.ne
  · rw [A.dst q hq0, A.dst q' hq, A.rd q' hq, de]; exact h.ww
  · rw [A.dst q' hq, A.rd q hq0, de]; exact h.rw_
  · rw [A.cl q hq0, A.cl q' hq, de]; exact h.cc
  · rw [A.cl q hq0, A.cl q' hq, de, A.h (q' + 1) hq]; exact fun a b c Q => reads_agree A hq0 (h.p1' a b c Q)
end

/-- What was found up to here. -/
structure Part (P : Program) (E : Env) (ops : Array Oper) (N : Nat) (fr0 : T AV) (h0 : T Blk) (nx0 : Nat) (X : Found) (seen : List SeenE) (rl : Reads) (fr : T AV) (h : T Blk) (nx : Nat) : Prop where
  f0 : X.fr 0 = fr0
  g0 : X.h 0 = h0
  n0 : X.nx 0 = nx0
  fr_ : X.fr X.n = fr
  h_ : X.h X.n = h
  nx_ : X.nx X.n = nx
  fresh : Fresh h nx
  len : seen.length = X.n
  one : ∀ q, q < X.n → X.One P E ops N q
  two : ∀ q q', q < q' → q' < X.n → X.Two P E ops q q'
  dep : ∀ q q', X.dep q q' = DepOn ops (X.ix q') (X.ix q)
  sn : ∀ q, q < X.n → ∃ s ∈ seen, s.ix = X.ix q ∧ (∀ t, X.rd q t → s.rM.testBit t = true) ∧ (∀ t, X.dst q = some t → s.dM.testBit t = true) ∧ (X.cl q = s.cls ∨ X.cl q = 0)
  back : ∀ s ∈ seen, ∃ q, q < X.n ∧ X.ix q = s.ix
  reads : ∀ q, q < X.n → X.cl q = 1 → ∃ x o, (X.ix q, X.fr q, X.v q, x) ∈ rl ∧ ReadOk P E o x ∧ ∀ Q H, ReadT P E o (X.fr q) H (X.v q) → X.reads P E ops Q q H
  rlo : ∀ e ∈ rl, ∃ o, ReadOk P E o e.2.2.2

section
variable {P : Program} {E : Env} {F : Facts} {ops : Array Oper} {N : Nat} {fr0 : T AV} {h0 : T Blk} {nx0 : Nat}
theorem Part.step {X : Found} {seen : List SeenE} {rl rl' : Reads} {fr fr' : T AV} {h h' : T Blk} {nx nx' : Nat} {s : SeenE} {o : Oper} {d : Option Nat} {g : Option (Nat × Bool)} {c : COp} {ix am cl : Nat} {v : AV} {blk : Blk}
    (hP : Part P E ops N fr0 h0 nx0 X seen rl fr h nx) (hH : DHead P E F ops N seen s o d g c ix am) (hcl : cl = s.cls ∨ cl = 0) (hle : cl ≤ 3) (hfr : ∀ t, fr'.get t = if d = some t then some v else fr.get t)
    (keep : cl < 2 → h' = h ∧ nx' = nx) (make : cl = 2 → Upd h nx blk h' ∧ nx' = nx + 1 ∧ ∃ m t, blk = .live m t) (up : nx ≤ nx') (fresh : Fresh h' nx')
    (p0 : cl = 0 → ∀ Q, (X.push ops ix cl v d fr' h' nx' blk (Rd o g)).pures P E ops Q X.n)
    (p1 : cl = 1 → (∀ Q, (X.push ops ix cl v d fr' h' nx' blk (Rd o g)).reads P E ops Q X.n h.get) ∧ ∃ x, rl' = (ix, fr, v, x) :: rl ∧ ReadOk P E o x ∧ ∀ Q H, ReadT P E o fr H v → (X.push ops ix cl v d fr' h' nx' blk (Rd o g)).reads P E ops Q X.n H)
    (p2 : cl = 2 → ∀ Q, (X.push ops ix cl v d fr' h' nx' blk (Rd o g)).makes P E ops Q X.n)
    (p3 : cl = 3 → (∀ Q, (X.push ops ix cl v d fr' h' nx' blk (Rd o g)).acts P E ops Q X.n) ∧ ∀ e ∈ rl, am.testBit e.1 = true → ∀ o, ReadOk P E o e.2.2.2 → ReadT P E o e.2.1 h'.get e.2.2.1)
    (prl : cl ≠ 1 → rl' = rl) :
    Part P E ops N fr0 h0 nx0 (X.push ops ix cl v d fr' h' nx' blk (Rd o g)) (s :: seen) rl' fr' h' nx' := by
  have A : Agree X (X.push ops ix cl v d fr' h' nx' blk (Rd o g)) := agree_push
  have hd' : ∀ q q', (X.push ops ix cl v d fr' h' nx' blk (Rd o g)).dep q q' = DepOn ops ((X.push ops ix cl v d fr' h' nx' blk (Rd o g)).ix q') ((X.push ops ix cl v d fr' h' nx' blk (Rd o g)).ix q) := fun q q' => rfl
  have e1 : (X.push ops ix cl v d fr' h' nx' blk (Rd o g)).ix X.n = ix := by simp [Found.push]
  have e2 : (X.push ops ix cl v d fr' h' nx' blk (Rd o g)).cl X.n = cl := by simp [Found.push]
  have e3 : (X.push ops ix cl v d fr' h' nx' blk (Rd o g)).v X.n = v := by simp [Found.push]
  have e4 : (X.push ops ix cl v d fr' h' nx' blk (Rd o g)).dst X.n = d := by simp [Found.push]
  have e5 : (X.push ops ix cl v d fr' h' nx' blk (Rd o g)).rd X.n = Rd o g := by simp [Found.push]
  have e6 : (X.push ops ix cl v d fr' h' nx' blk (Rd o g)).fr (X.n + 1) = fr' := by simp [Found.push]
  have e7 : (X.push ops ix cl v d fr' h' nx' blk (Rd o g)).h (X.n + 1) = h' := by simp [Found.push]
  have e8 : (X.push ops ix cl v d fr' h' nx' blk (Rd o g)).nx (X.n + 1) = nx' := by simp [Found.push]
  have e9 : (X.push ops ix cl v d fr' h' nx' blk (Rd o g)).blk X.n = blk := by simp [Found.push]
  have f1 := A.fr X.n (Nat.le_refl _)
  have f2 := A.h X.n (Nat.le_refl _)
  have f3 := A.nx X.n (Nat.le_refl _)
  rw [hP.fr_] at f1; rw [hP.h_] at f2; rw [hP.nx_] at f3
  have hn : (X.push ops ix cl v d fr' h' nx' blk (Rd o g)).n = X.n + 1 := rfl
  generalize X.push ops ix cl v d fr' h' nx' blk (Rd o g) = Y at *
  have cut : ∀ q, q < Y.n → q < X.n ∨ q = X.n := fun q hq => by omega
  refine ⟨?_, ?_, ?_, ?_, ?_, ?_, fresh, ?_, ?_, ?_, hd', ?_, ?_, ?_, ?_⟩
  · rw [A.fr 0 (Nat.zero_le _)]; exact hP.f0
  · rw [A.h 0 (Nat.zero_le _)]; exact hP.g0
  · rw [A.nx 0 (Nat.zero_le _)]; exact hP.n0
  · rw [hn]; exact e6
  · rw [hn]; exact e7
  · rw [hn]; exact e8
  · rw [hn, ← hP.len]; rfl
  · intro q hq
    rcases cut q hq with hq | rfl
    · exact (hP.one q hq).agree A hq
    · refine ⟨⟨o, by rw [e1]; exact hH.get, fun e he hb => ?_⟩, by rw [e4]; exact hH.rel.lt, by rw [e2]; exact hle, by rw [e4, e6, e3, f1]; exact hfr, by rw [e2, e7, e8, f2, f3]; exact keep, by rw [e2, e7, e8, f2, f3, e9]; exact make, by rw [e8, f3]; exact up, by rw [f2, f3]; exact hP.fresh,
        by rw [e2]; exact p0, by rw [e2, f2]; exact fun hc => (p1 hc).1, by rw [e2]; exact p2, by rw [e2]; exact fun hc => (p3 hc).1⟩
      obtain ⟨x, hx, h1⟩ := hH.topo e he hb
      obtain ⟨q', h2, h3⟩ := hP.back x hx
      exact ⟨q', h2, by rw [A.ix q' h2, h3, h1]⟩
  · intro q q' hqq hq'
    rcases cut q' hq' with hq' | rfl
    · exact (hP.two q q' hqq hq').agree A hP.dep hd' hqq hq'
    · obtain ⟨x, hx, x1, x2, x3, x4⟩ := hP.sn q hqq
      have hdep : Y.dep q X.n = DepOn ops ix (X.ix q) := by rw [hd', e1, A.ix q hqq]
      have key : Y.dep q X.n ∨ Loose x s am := by
        rcases hH.conf x hx with h | h
        · left; rw [hdep, ← x1]; exact hH.mask _ h
        · exact .inr h
      constructor
      · rw [A.ix q hqq, e1, ← x1]; exact hH.new x hx
      · rw [A.dst q hqq, e5, e4]
        intro t h1 h2
        rcases key with k | k
        · exact k
        · refine (k.ww t (x3 t h1) ?_).elim
          rcases h2 with h2 | h2
          · exact .inl (hH.rM t h2)
          · exact .inr (hH.dM t h2)
      · rw [e4, A.rd q hqq]
        intro t h1 h2
        rcases key with k | k
        · exact k
        · exact (k.rw_ t (hH.dM t h1) (x2 t h2)).elim
      · rw [A.cl q hqq, e2]
        intro h1 h2
        rcases key with k | k
        · exact k
        · refine (k.cc ?_ ?_).elim
          · rcases x4 with x4 | x4
            · rwa [← x4]
            · omega
          · rcases hcl with hcl | hcl
            · rwa [← hcl]
            · omega
      · rw [A.cl q hqq, e2, e7]
        intro h1 h2 h3 Q
        rcases key with k | k
        · exact absurd k h3
        · have h4 := k.am (by rcases x4 with x4 | x4 <;> omega) (by rcases hcl with hcl | hcl <;> omega)
          obtain ⟨y, oy, hy, hok, hrd⟩ := hP.reads q hqq h1
          exact reads_agree A hqq (hrd Q _ ((p3 h2).2 _ hy (by rw [← x1]; exact h4) oy hok))
  · intro q hq
    rcases cut q hq with hq | rfl
    · obtain ⟨x, hx, h1⟩ := hP.sn q hq
      refine ⟨x, List.mem_cons_of_mem _ hx, ?_⟩
      rw [A.ix q hq, A.rd q hq, A.dst q hq, A.cl q hq]; exact h1
    · refine ⟨s, List.mem_cons_self, ?_⟩
      rw [e1, e5, e4, e2]; exact ⟨hH.hix, hH.rM, hH.dM, hcl⟩
  · intro x hx
    rcases List.mem_cons.1 hx with rfl | hx
    · exact ⟨X.n, by omega, by rw [e1, hH.hix]⟩
    · obtain ⟨q, h1, h2⟩ := hP.back x hx
      exact ⟨q, by omega, by rw [A.ix q h1]; exact h2⟩
  · intro q hq hc
    rcases cut q hq with hq | rfl
    · rw [A.cl q hq] at hc
      obtain ⟨y, oy, hy, hok, hrd⟩ := hP.reads q hq hc
      refine ⟨y, oy, ?_, hok, ?_⟩
      · rw [A.ix q hq, A.fr q (by omega), A.v q hq]
        by_cases h1 : cl = 1
        · obtain ⟨_, x, h2, _⟩ := p1 h1
          rw [h2]; exact List.mem_cons_of_mem _ hy
        · rw [prl h1]; exact hy
      · rw [A.fr q (by omega), A.v q hq]; exact fun Q H h => reads_agree A hq (hrd Q H h)
    · rw [e2] at hc
      obtain ⟨_, x, h2, h3, h4⟩ := p1 hc
      refine ⟨x, o, ?_, h3, ?_⟩
      · rw [e1, f1, e3, h2]; exact List.mem_cons_self
      · rw [f1, e3]; exact h4
  · intro e he
    by_cases h1 : cl = 1
    · obtain ⟨_, x, h2, h3, _⟩ := p1 h1
      rw [h2] at he
      rcases List.mem_cons.1 he with rfl | he
      · exact ⟨o, h3⟩
      · exact hP.rlo e he
    · rw [prl h1] at he; exact hP.rlo e he
end
end Go.Proofs.YtfgmmabggjjhgaaGreatDoor.Ev
namespace Go.Proofs.YtfgmmabggjjhgaaGreatDoor.Ev
open Go

section
variable {P : Program} {E : Env} {F : Facts} {ops : Array Oper} {N : Nat} {fr0 : T AV} {h0 : T Blk} {nx0 : Nat}
theorem againK_some {am : Nat} {h : T Blk} {k : Bool} : ∀ {rl : Reads}, (∀ e ∈ rl, ∃ o, ReadOk P E o e.2.2.2) → againK am h k rl = true → k = true ∧ ∀ e ∈ rl, am.testBit e.1 = true → ∀ o, ReadOk P E o e.2.2.2 → ReadT P E o e.2.1 h.get e.2.2.1
  | [], _, h => ⟨h, fun e he => by cases he⟩
  | e :: rl, hr, hk => by
    change @Bool.rec (fun _ => Bool) (againK am h k rl) (readOp e.2.2.2 e.2.1 h fun v => avEq (againK am h k rl) e.2.2.1 v) (Nat.testBit am e.1) = true at hk
    cases hb : Nat.testBit am e.1 with
    | false =>
      rw [hb] at hk
      obtain ⟨h1, h2⟩ := againK_some (fun e he => hr e (List.mem_cons_of_mem _ he)) hk
      refine ⟨h1, fun x hx hbx => ?_⟩
      rcases List.mem_cons.1 hx with rfl | hx
      · rw [hb] at hbx; cases hbx
      · exact h2 x hx hbx
    | true =>
      rw [hb] at hk
      have go : ∀ o, ReadOk P E o e.2.2.2 → againK am h k rl = true ∧ ReadT P E o e.2.1 h.get e.2.2.1 := fun o ho => by
        obtain ⟨r, h1, h2⟩ := ho e.2.1 h (fun v => avEq (againK am h k rl) e.2.2.1 v) hk
        obtain ⟨h3, h4⟩ := avEq_some h1
        rw [h3]; exact ⟨h4, h2⟩
      obtain ⟨o, ho⟩ := hr e List.mem_cons_self
      obtain ⟨h1, h2⟩ := againK_some (fun e he => hr e (List.mem_cons_of_mem _ he)) (go o ho).1
      refine ⟨h1, fun x hx hbx o' ho' => ?_⟩
      rcases List.mem_cons.1 hx with rfl | hx
      · exact (go o' ho').2
      · exact h2 x hx hbx o' ho'

theorem wpOp_yes {o : Oper} {i : Nat} {Q : Exit → Act → World → Prop} {K : Act → World → Prop} {a : Act} {w : World} (h : ops[i]? = some o) (hw : Region.wanted o (yielded ops a.tmps) = true) (hk : o.wp P a w K Q) : wpOp P ops Q i K a w := by
  unfold wpOp; rw [h]; simp only [hw, if_true]; exact .inl hk
theorem wpOp_no {o : Oper} {i : Nat} {Q : Exit → Act → World → Prop} {K : Act → World → Prop} {a : Act} {w : World} (h : ops[i]? = some o) (hw : Region.wanted o (yielded ops a.tmps) = false) (hk : K (a.put o.dst undef) w) : wpOp P ops Q i K a w := by
  unfold wpOp; rw [h]; simp only [hw]; exact hk
theorem look_holds {o : Oper} {g : Option (Nat × Bool)} {ρ : Nat → Option Loc} {fr : T AV} {a : Act} (h : Look E ρ fr (Rd o g) a) : Holds E ρ fr a.eval o.op.operands.toList := fun t ht av hav => (h t (.inl ht) av hav).2
theorem look_guard {o : Oper} {g : Option (Nat × Bool)} {ρ : Nat → Option Loc} {fr : T AV} {a : Act} (h : Look E ρ fr (Rd o g) a) : Look E ρ fr (fun t => ∃ p, g = some p ∧ t = p.1) a := fun t ht av hav => h t (.inr ht) av hav
theorem put_frs {v : AV} {fr fr' : T AV} {d : Option Nat} (h : (d = none ∧ fr' = fr) ∨ ∃ t, d = some t ∧ Upd fr t v fr') : ∀ t, fr'.get t = if d = some t then some v else fr.get t := by
  intro t
  rcases h with ⟨rfl, rfl⟩ | ⟨s, rfl, hu⟩
  · rfl
  · rw [hu]
    by_cases e : t = s
    · subst e; simp
    · simp [e, Ne.symm e]

theorem Part.fin {X : Found} {seen : List SeenE} {rl : Reads} {fr : T AV} {h : T Blk} {nx : Nat} (hP : Part P E ops N fr0 h0 nx0 X seen rl fr h nx) (all : ∀ i, i < ops.size → ∃ s ∈ seen, s.ix = i) (len : seen.length = ops.size) (Q : Exit → Act → World → Prop) : X.Ok P E ops Q where
  size := by rw [← hP.len, len]
  ixlt q hq := by obtain ⟨o, h, _⟩ := (hP.one q hq).oper; exact (Array.getElem?_eq_some_iff.1 h).1
  dsts _ _ _ _ := trivial
  onto i hi := by
    obtain ⟨s, hs, e⟩ := all i hi
    obtain ⟨q, h1, h2⟩ := hP.back s hs
    exact ⟨q, h1, by rw [h2, e]⟩
  inj q q' hq hq' e := by
    rcases Nat.lt_trichotomy q q' with h | h | h
    · exact absurd e (hP.two q q' h hq').ne
    · exact h
    · exact absurd e.symm (hP.two q' q h hq).ne
  topo q o hq ho e he hb := by
    obtain ⟨o', h1, h2⟩ := (hP.one q hq).oper
    rw [ho] at h1; injection h1 with h1; subst h1
    exact h2 e he hb
  deps q q' o hq hq' hd ho listed hcl hdir := by
    rw [hP.dep] at hd
    exact hd o ho listed hcl hdir
  ww q q' t h h' := (hP.two q q' h h').ww t
  rw_ q q' t h h' := (hP.two q q' h h').rw_ t
  cls q hq := (hP.one q hq).cls
  cc q q' h h' := (hP.two q q' h h').cc
  frs q t hq := (hP.one q hq).frs t
  keep q hq := (hP.one q hq).keep
  make q hq := (hP.one q hq).make
  up q hq := (hP.one q hq).up
  fresh q hq := by
    rcases Nat.lt_or_ge q X.n with h | h
    · exact (hP.one q h).fresh
    · rw [show q = X.n by omega, hP.h_, hP.nx_]; exact hP.fresh
  p0 q hq hc := (hP.one q hq).p0 hc Q
  p1 q hq hc := (hP.one q hq).p1 hc Q
  p1' q q' h h' hc hc' hd := (hP.two q q' h h').p1' hc hc' hd Q
  p2 q hq hc := (hP.one q hq).p2 hc Q
  p3 q hq hc := (hP.one q hq).p3 hc Q

theorem drgK_some {call : CallF} (hc : CallOk P E call) : ∀ {seen : List SeenE} {l : List DOper}, DRel P E F ops N seen l → ∀ {X : Found} {rl : Reads} {fr : T AV} {h : T Blk} {nx : Nat} {k : KF}, Part P E ops N fr0 h0 nx0 X seen rl fr h nx → drgK F call l fr h nx rl k = true →
    ∃ X' fr' h' nx' rl' seen', k fr' h' nx' = true ∧ Part P E ops N fr0 h0 nx0 X' seen' rl' fr' h' nx' ∧ (∀ i, i < ops.size → ∃ s ∈ seen', s.ix = i) ∧ seen'.length = ops.size := by
  intro seen l hD
  induction hD with
  | @nil seen all len => intro X rl fr h nx k hP hk; exact ⟨X, fr, h, nx, rl, seen, hk, hP, all, len⟩
  | @cons seen s o d g c ix am l hH hs ih =>
    intro X rl fr h nx k hP hk
    change guardK fr (dOp F call ix am c d fr h nx rl fun fr h nx rl => drgK F call l fr h nx rl k) (putK und fr (fun fr => drgK F call l fr h nx rl k) d) g = true at hk
    have hdst := hH.rel.dst
    have n1 : X.n ≠ X.n + 1 := by omega
    have efr := hP.fr_
    have eh := hP.h_
    have enx := hP.nx_
    replace hk := guardK_some (E := E) hH.rel.guard hk
    rcases hk with ⟨hk, hw⟩ | ⟨hk, hw⟩
    · have hop := hH.rel.op
      have hcls := hH.cls
      cases c with
      | p x =>
        obtain ⟨r, hk, hT⟩ := hop fr (fun v => putK v fr (fun fr => drgK F call l fr h nx rl k) d) hk
        obtain ⟨fr1, hk, hu⟩ := putK_some hk
        refine ih (hP.step (cl := 0) (v := r) (blk := .dead) hH (.inr rfl) (by omega) (put_frs hu) (fun _ => ⟨rfl, rfl⟩) (by simp) (Nat.le_refl _) hP.fresh ?_ (by simp) (by simp) (by simp) (fun _ => rfl)) hk
        intro _ Q ρ a w K hl hK
        simp only [Found.push, if_pos, if_neg n1, efr] at hl hK ⊢
        obtain ⟨v, hv, hr⟩ := hT ρ a.eval (Ev.act a) (look_holds hl)
        exact wpOp_yes hH.get (hw ρ a (look_guard hl)) (wp_value (hr w) (by rw [hdst]; exact hK v hv))
      | r x =>
        obtain ⟨r, hk, hT⟩ := hop fr h (fun v => putK v fr (fun fr' => drgK F call l fr' h nx ((ix, fr, v, x) :: rl) k) d) hk
        obtain ⟨fr1, hk, hu⟩ := putK_some hk
        have key : ∀ Q H, ReadT P E o fr H r → (X.push ops ix 1 r d fr1 h nx .dead (Rd o g)).reads P E ops Q X.n H := by
          intro Q H hT ρ a w K hl hI hK
          simp only [Found.push, if_pos, if_neg n1, efr] at hl hK ⊢
          obtain ⟨v, hv, hr⟩ := hT ρ a.eval w (Ev.act a) (look_holds hl) hI
          exact wpOp_yes hH.get (hw ρ a (look_guard hl)) (wp_value hr (by rw [hdst]; exact hK v hv))
        exact ih (hP.step (cl := 1) (v := r) (blk := .dead) hH (.inl hcls.symm) (by omega) (put_frs hu) (fun _ => ⟨rfl, rfl⟩) (by simp) (Nat.le_refl _) hP.fresh (by simp) (fun _ => ⟨fun Q => key Q _ hT, x, rfl, hop, key⟩) (by simp) (by simp) (fun h => absurd rfl h)) hk
      | a x =>
        obtain ⟨f, cs, hk, hT⟩ := hop fr (fun f cs => mkFK f cs h nx fun h nx' => putK (afAV f nx) fr (fun fr => drgK F call l fr h nx' rl k) d) hk
        obtain ⟨t, h1, ht, hTy, hu1, hk⟩ := mkFK_some hk
        obtain ⟨fr1, hk, hu⟩ := putK_some hk
        refine ih (hP.step (cl := 2) (v := afAV f nx) (blk := .live cs.length t) hH (.inl hcls.symm) (by omega) (put_frs hu) (by simp) (fun _ => ⟨hu1, rfl, _, _, rfl⟩) (by omega) (hP.fresh.new hu1) (by simp) (by simp) ?_ (by simp) (fun _ => rfl)) hk
        intro _ Q ρ a w K hl hK
        simp only [Found.push, if_pos, if_neg n1, efr, enx] at hl hK ⊢
        obtain ⟨v, w', ce, el, z, vs, pl, hr, hp, hz, hv, h1', hce, hres, hty⟩ := hT ρ a.eval w (Ev.act a) (look_holds hl)
        refine wpOp_yes hH.get (hw ρ a (look_guard hl)) (wp_value hr ?_)
        rw [hdst]
        refine hK v w' ce el z cs.length t pl hp hz rfl ?_ (fun ty h => hty ty (hTy ty h)) fun ρ' _ hρ => hres ρ' _ hρ
        intro j hj
        obtain ⟨u, hu1, hu2⟩ := hv.get (i := j) (x := cs[j]) (by simp [hj])
        refine ⟨cs[j], u, by rw [ht j hj]; simp [hj], ?_, hu2, h1' u (List.mem_of_getElem? hu1)⟩
        rw [hce j (by rw [hv.length]; exact hj)]; exact hu1
      | e x =>
        obtain ⟨r, h1, nx1, hk, hf1, hle, hT⟩ := opK_some (k := fun v h nx => againK am h (putK v fr (fun fr => drgK F call l fr h nx rl k) d) rl) hc hop hk hP.fresh
        obtain ⟨hk, hag⟩ := againK_some hP.rlo hk
        obtain ⟨fr1, hk, hu⟩ := putK_some hk
        refine ih (hP.step (cl := 3) (v := r) (blk := .dead) hH (.inl hcls.symm) (by omega) (put_frs hu) (by simp) (by simp) hle hf1 (by simp) (by simp) (by simp) (fun _ => ⟨?_, hag⟩) (fun _ => rfl)) hk
        intro Q ρ a w K hfree hl hI hK
        simp only [Found.push, if_pos, if_neg n1, efr, eh, enx] at hfree hl hI hK ⊢
        refine wpOp_yes hH.get (hw ρ a (look_guard hl)) (hT ρ a w K Q hfree (look_holds hl) hI fun ρ' v w' s1 s2 s3 => ?_)
        rw [hdst]; exact hK ρ' v w' s1 s2 s3
      | call f xs =>
        obtain ⟨r, h1, nx1, hk, hf1, hle, hT⟩ := opK_some (k := fun v h nx => againK am h (putK v fr (fun fr => drgK F call l fr h nx rl k) d) rl) hc hop hk hP.fresh
        obtain ⟨hk, hag⟩ := againK_some hP.rlo hk
        obtain ⟨fr1, hk, hu⟩ := putK_some hk
        refine ih (hP.step (cl := 3) (v := r) (blk := .dead) hH (.inl hcls.symm) (by omega) (put_frs hu) (by simp) (by simp) hle hf1 (by simp) (by simp) (by simp) (fun _ => ⟨?_, hag⟩) (fun _ => rfl)) hk
        intro Q ρ a w K hfree hl hI hK
        simp only [Found.push, if_pos, if_neg n1, efr, eh, enx] at hfree hl hI hK ⊢
        refine wpOp_yes hH.get (hw ρ a (look_guard hl)) (hT ρ a w K Q hfree (look_holds hl) hI fun ρ' v w' s1 s2 s3 => ?_)
        rw [hdst]; exact hK ρ' v w' s1 s2 s3
    · obtain ⟨fr1, hk, hu⟩ := putK_some hk
      refine ih (hP.step (cl := 0) (v := und) (blk := .dead) hH (.inr rfl) (by omega) (put_frs hu) (fun _ => ⟨rfl, rfl⟩) (by simp) (Nat.le_refl _) hP.fresh ?_ (by simp) (by simp) (by simp) (fun _ => rfl)) hk
      intro _ Q ρ a w K hl hK
      simp only [Found.push, if_pos, if_neg n1, efr] at hl hK ⊢
      exact wpOp_no hH.get (hw ρ a (look_guard hl)) (by rw [hdst]; exact hK undef vr_und)

/-- A region that draws, run. -/
theorem drg_region {call : CallF} (hc : CallOk P E call) (hm : P.follows .mixedOrders = true) {l : List DOper} (hD : DRel P E F ops N [] l) {fr : T AV} {h : T Blk} {nx : Nat} {k : KF} (hk : drgK F call l fr h nx [] k = true) (hf : Fresh h nx) :
    ∃ fr' h' nx', k fr' h' nx' = true ∧ Fresh h' nx' ∧ nx ≤ nx' ∧ ∀ (Q : Exit → Act → World → Prop) (id : Nat), RegT E N fr h.get nx fr' h'.get nx' fun K a w => (∀ a w, K a w → Q .normal a w) → (Code.region id ops true).wp P Q a w := by
  have hP0 : Part P E ops N fr h nx ⟨0, fun _ => 0, fun _ => 0, fun _ => und, fun _ => none, fun _ => fr, fun _ => h, fun _ => nx, fun _ => .dead, fun _ _ => False, fun _ _ => DepOn ops 0 0⟩ [] [] fr h nx :=
    ⟨rfl, rfl, rfl, rfl, rfl, rfl, hf, rfl, fun q hq => absurd hq (Nat.not_lt_zero _), fun _ q hqq hq => absurd hq (Nat.not_lt_zero _), fun _ _ => rfl, fun q hq => absurd hq (Nat.not_lt_zero _), fun s hs => (List.not_mem_nil hs).elim, fun q hq => absurd hq (Nat.not_lt_zero _), fun e he => (List.not_mem_nil he).elim⟩
  obtain ⟨X, fr', h', nx', rl', seen', hk, hP, all, len⟩ := drgK_some hc hD hP0 hk
  have hle : nx ≤ nx' := by
    have := Found.nx_le (hP.fin all len fun _ _ _ => True) (Nat.zero_le X.n) (Nat.le_refl _)
    rwa [hP.n0, hP.nx_] at this
  refine ⟨fr', h', nx', hk, hP.fresh, hle, fun Q id ρ a w K hfree hA hI hK hq => ?_⟩
  have hX := hP.fin all len Q
  refine wp_region_any hm (found_any (N := N) (ρ0 := ρ) (w0 := { w with drawn := w.drawn + 1 }) hX (fun q t h => (hP.one q h).dst t) ?_ ops.size _ a _ (by simp) (by omega) ?_ ?_)
  · rw [hP.g0, hP.n0, hP.h_, hP.nx_, hP.fr_]
    intro ρ' a' w' s1 s2 s3
    exact hq _ _ (hK ρ' a' w' ⟨s1.le, s1.free, s1.same, s1.os, s1.tape, s1.output, s1.size, s1.keep, s1.own⟩ s2 s3)
  · intro j oj hj hl
    simp [Array.getElem?_replicate] at hl
    split at hl <;> simp at hl
  · have hno : ∀ q, ¬ ((Array.replicate ops.size false).getD (X.ix q) false = true) := fun q h => by
      simp [Array.getElem?_replicate] at h
      split at h <;> simp at h
    refine ⟨ρ, 0, (X.h 0).get, Nat.zero_le _, fun q _ h => absurd h (hno q), .inl rfl, fun id m t => ?_, ?_, ?_, ?_, ?_⟩
    · refine ⟨.inl, ?_⟩
      rintro (h | ⟨q, _, h, _⟩)
      · exact h
      · exact absurd h (hno q)
    · rw [hP.n0, hP.nx_]
      exact ⟨hle, hfree, fun _ _ => rfl, rfl, rfl, rfl, Nat.le_refl _, fun _ _ _ => rfl, fun i n t L h1 h2 => .inr ⟨i, n, t, L, h1, h2, rfl⟩⟩
    · rw [hP.g0]; exact ⟨hI.at_, hI.inj⟩
    · intro q hq _ i h1 h2
      refine hfree i (Nat.le_trans ?_ h1) (Nat.lt_of_lt_of_le h2 ?_)
      · have := Found.nx_le hX (Nat.zero_le q) (by omega); rwa [hP.n0] at this
      · have := Found.nx_le hX (show q + 1 ≤ X.n by omega) (Nat.le_refl _); rwa [hP.nx_] at this
    · refine ⟨hA.defers, hA.size, fun t av h => hA.at_ t av ?_⟩
      rcases h with ⟨q, _, h, _⟩ | ⟨_, h⟩
      · exact absurd h (hno q)
      · rwa [hP.f0] at h
end
end Go.Proofs.YtfgmmabggjjhgaaGreatDoor.Ev
set_option linter.unusedVariables false
set_option linter.unusedSimpArgs false
namespace Go.Proofs.YtfgmmabggjjhgaaGreatDoor.Ev
open Go

noncomputable def res1 (r : CRes) : T AV → T Blk → (AV → Bool) → Bool := @CRes.rec (fun _ => T AV → T Blk → (AV → Bool) → Bool) (fun t fr _ k => getK k fr t) (fun t => rLd1 (.tmp t)) (fun n t => rLdn n (.tmp t)) r
noncomputable def resK (rs : List CRes) (fr : T AV) (h : T Blk) : (List AV → Bool) → Bool := @List.rec CRes (fun _ => (List AV → Bool) → Bool) (fun k => k []) (fun r _ ih k => res1 r fr h fun v => ih fun vs => k (v :: vs)) rs
noncomputable def oneV (vs : List AV) (k : AV → Bool) : Bool := @List.rec AV (fun _ => Bool) (k (.tup [])) (fun v rest _ => @List.rec AV (fun _ => Bool) (k v) (fun _ _ _ => k (.tup vs)) rest) vs
/-- By how it ended. -/
noncomputable def cxK (n : Bool) (e : Nat → Bool) (r : Bool) (x : CX) : Bool := @CX.rec (fun _ => Bool) n e r x
noncomputable def loopK (body : T AV → T Blk → Nat → KX → Bool) (fuel : Nat) : T AV → T Blk → Nat → KX → Bool :=
  @Nat.rec (fun _ => T AV → T Blk → Nat → KX → Bool) (fun _ _ _ _ => false) (fun _ ih fr h nx k => body fr h nx fun x fr h nx => cxK (ih fr h nx k) (fun i => k (.exit i) fr h nx) (k .ret fr h nx) x) fuel
noncomputable def codeK (F : Facts) (call : CallF) (fuel : Nat) (c : CCode) : T AV → T Blk → Nat → KX → Bool :=
  @CCode.rec (fun _ => T AV → T Blk → Nat → KX → Bool) (fun fr h nx k => k .norm fr h nx) (fun l fr h nx k => regK F call l fr h nx fun fr h nx => k .norm fr h nx) (fun l fr h nx k => drgK F call l fr h nx [] fun fr h nx => k .norm fr h nx)
    (fun _ _ iha ihb fr h nx k => iha fr h nx fun x fr h nx => cxK (ihb fr h nx k) (fun i => k (.exit i) fr h nx) (k .ret fr h nx) x)
    (fun x _ _ iha ihb fr h nx k => opdK fr (fun v => boolK v fun t => @Bool.rec (fun _ => Bool) (ihb fr h nx k) (iha fr h nx k) t) x)
    (fun i _ ih fr h nx k => ih fr h nx fun x fr h nx => cxK (k .norm fr h nx) (fun j => ifK (Nat.beq j i) (k .norm fr h nx) (k (.exit j) fr h nx)) (k .ret fr h nx) x)
    (fun _ ih fr h nx k => loopK ih fuel fr h nx k) (fun i fr h nx k => k (.exit i) fr h nx) (fun fr h nx k => k .ret fr h nx) c
noncomputable def endK (rs : List CRes) (k : KV) (x : CX) (fr : T AV) (h : T Blk) (nx : Nat) : Bool :=
  cxK (resK rs fr h fun vs => oneV vs fun v => k v h nx) (fun _ => false) (resK rs fr h fun vs => oneV vs fun v => k v h nx) x
noncomputable def bodyK (F : Facts) (call : CallF) (fuel : Nat) (n : Nat) (rs : List CRes) (c : CCode) (as : List AV) (h : T Blk) (nx : Nat) (k : KV) : Bool :=
  lenK as 0 fun m => ifK (Nat.ble m n) (writeK as .l 0 fun fr => codeK F call fuel c fr h nx fun x fr h nx => endK rs k x fr h nx) false
noncomputable def fnK' (F : Facts) (call : CallF) (fuel : Nat) (e : FnE) : List AV → T Blk → Nat → KV → Bool :=
  @FnE.rec (fun _ => List AV → T Blk → Nat → KV → Bool) (fun n rs c => bodyK F call fuel n rs c) (fun g => g) (fun g n rs c => g (bodyK F call fuel n rs c)) e
noncomputable def callK (F : Facts) (fuel : Nat) (ft : T FnE) (d : Nat) : CallF :=
  @Nat.rec (fun _ => CallF) (fun _ _ _ _ _ => false) (fun _ ih i as h nx k => getK (fun e => fnK' F ih fuel e as h nx k) ft i) d

/-- What is never run. -/
noncomputable def badC : CCode := .reg [.mk none none (.p (.eqp 3 false (.const .nilp) (.const .nilp)))]
def CX.to : CX → Exit
  | .norm => .normal
  | .exit i => .exit i
  | .ret => .ret
inductive CodeRel (P : Program) (E : Env) (F : Facts) (N : Nat) : Code → CCode → Prop where
  | skip : CodeRel P E F N .skip .skip
  | label (l : Nat) : CodeRel P E F N (.label l) .skip
  | reg {id : Nat} {ops : Array Oper} {l : List COper} (h : RegRel P E F ops N ops.toList l) : CodeRel P E F N (.region id ops false) (.reg l)
  | drg {id : Nat} {ops : Array Oper} {l : List DOper} (h : DRel P E F ops N [] l) : CodeRel P E F N (.region id ops true) (.drg l)
  | seq {a b : Code} {ca cb : CCode} (ha : CodeRel P E F N a ca) (hb : CodeRel P E F N b cb) : CodeRel P E F N (.seq a b) (.seq ca cb)
  | cond {x : Operand} {a b : Code} {cx : COpd} {ca cb : CCode} (hx : OpdOk E x cx) (ha : CodeRel P E F N a ca) (hb : CodeRel P E F N b cb) : CodeRel P E F N (.cond x a b) (.cond cx ca cb)
  | block {i : Nat} {a : Code} {ca : CCode} (h : CodeRel P E F N a ca) : CodeRel P E F N (.block i a) (.block i ca)
  | loop {a : Code} {ca : CCode} (h : CodeRel P E F N a ca) : CodeRel P E F N (.loop a) (.loop ca)
  | exit (i : Nat) : CodeRel P E F N (.exit i) (.exit i)
  | ret : CodeRel P E F N .ret .ret
  | bad (c : Code) : CodeRel P E F N c badC
inductive ResRel (P : Program) : List ResultVar → List CRes → Prop where
  | nil : ResRel P [] []
  | tmp {t : Nat} {l : List ResultVar} {cl : List CRes} (h : ResRel P l cl) : ResRel P (.tmp t :: l) (.tmp t :: cl)
  | c1 {t ct : Nat} {l : List ResultVar} {cl : List CRes} (hg : ∀ w, (isAgg ct).run P w = .ok false w) (h : ResRel P l cl) : ResRel P (.cell t ct :: l) (.c1 t :: cl)
  | cn {t ct : Nat} {it : TypeInfo} {l : List ResultVar} {cl : List CRes} (hg : ∀ w, (isAgg ct).run P w = .ok true w) (hi : P.info? ct = some it) (h : ResRel P l cl) : ResRel P (.cell t ct :: l) (.cn it.size t :: cl)
inductive FnRel (P : Program) (E : Env) (F : Facts) (i : Nat) : FnE → Prop where
  | code {fn : Func} {b : Code} {rs : List CRes} {c : CCode} (hf : P.funcs[i]? = some fn) (hb : fn.body = some b) (hn : (fn.name == "runtime.NumGoroutine") = false) (hr : ResRel P fn.results.toList rs) (hc : CodeRel P E F fn.ntmps b c) : FnRel P E F i (.code fn.ntmps rs c)
  | orc {g : List AV → T Blk → Nat → KV → Bool} (hg : ∀ as h nx k, g as h nx k = true → Fresh h nx → ∃ r h' nx', k r h' nx' = true ∧ Fresh h' nx' ∧ nx ≤ nx' ∧ CallR P E i as h.get nx r h'.get nx') : FnRel P E F i (.orc g)
  | mix {g : (List AV → T Blk → Nat → KV → Bool) → List AV → T Blk → Nat → KV → Bool} {fn : Func} {b : Code} {rs : List CRes} {c : CCode} (hf : P.funcs[i]? = some fn) (hb : fn.body = some b) (hn : (fn.name == "runtime.NumGoroutine") = false) (hr : ResRel P fn.results.toList rs) (hc : CodeRel P E F fn.ntmps b c)
      (hg : ∀ run : List AV → T Blk → Nat → KV → Bool, (∀ as h nx k, run as h nx k = true → Fresh h nx → ∃ r h' nx', k r h' nx' = true ∧ Fresh h' nx' ∧ nx ≤ nx' ∧ CallR P E i as h.get nx r h'.get nx') →
        ∀ as h nx k, g run as h nx k = true → Fresh h nx → ∃ r h' nx', k r h' nx' = true ∧ Fresh h' nx' ∧ nx ≤ nx' ∧ CallR P E i as h.get nx r h'.get nx') : FnRel P E F i (.mix g fn.ntmps rs c)

section
variable {P : Program} {E : Env} {F : Facts} {N : Nat}
/-- What code does. -/
def CodeT (P : Program) (E : Env) (N : Nat) (c : Code) (fr : T AV) (H : Heap) (nx : Nat) (x : CX) (fr' : T AV) (H' : Heap) (nx' : Nat) : Prop :=
  ∀ (Q : Exit → Act → World → Prop), RegT E N fr H nx fr' H' nx' fun K a w => (∀ a w, K a w → Q x.to a w) → c.wp P Q a w
theorem RegT.seq {fr fr1 fr' : T AV} {H H1 H' : Heap} {nx nx1 nx' : Nat} {g1 g2 g : (Act → World → Prop) → Act → World → Prop} (hle1 : nx ≤ nx1) (hle2 : nx1 ≤ nx') (h1 : RegT E N fr H nx fr1 H1 nx1 g1) (h2 : RegT E N fr1 H1 nx1 fr' H' nx' g2) (hg : ∀ K a w, g1 (g2 K) a w → g K a w) : RegT E N fr H nx fr' H' nx' g :=
  fun ρ a w K hfree hA hI hK => hg _ _ _ (h1 ρ a w _ (fun i a b => hfree i a (by omega)) hA hI fun ρ1 a1 w1 s1 hA1 hI1 =>
    h2 ρ1 a1 w1 K (fun i a b => by rw [s1.same i (by omega)]; exact hfree i (by omega) b) hA1 hI1 fun ρ2 a2 w2 s2 hA2 hI2 => hK ρ2 a2 w2 (s1.trans s2) hA2 hI2)
theorem RegT.skip {fr : T AV} {H : Heap} {nx : Nat} {g : (Act → World → Prop) → Act → World → Prop} (hg : ∀ (K : Act → World → Prop) a w, K a w → g K a w) : RegT E N fr H nx fr H nx g := fun ρ a w K _ hA hI hK => hg _ _ _ (hK ρ a w Stp.rfl' hA hI)
theorem RegT.of {fr fr' : T AV} {H H' : Heap} {nx nx' : Nat} {g g' : (Act → World → Prop) → Act → World → Prop} (h : RegT E N fr H nx fr' H' nx' g) (hg : ∀ K a w, g K a w → g' K a w) : RegT E N fr H nx fr' H' nx' g' := fun ρ a w K hf hA hI hK => hg _ _ _ (h ρ a w K hf hA hI hK)

theorem loopK_some {c : Code} {body : T AV → T Blk → Nat → KX → Bool}
    (hb : ∀ {fr : T AV} {h : T Blk} {nx : Nat} {k : KX}, body fr h nx k = true → Fresh h nx → ∃ x fr' h' nx', k x fr' h' nx' = true ∧ Fresh h' nx' ∧ nx ≤ nx' ∧ CodeT P E N c fr h.get nx x fr' h'.get nx') :
    ∀ {fuel : Nat} {fr : T AV} {h : T Blk} {nx : Nat} {k : KX}, loopK body fuel fr h nx k = true → Fresh h nx →
      ∃ x fr' h' nx', k x fr' h' nx' = true ∧ Fresh h' nx' ∧ nx ≤ nx' ∧ ∀ (Q : Exit → Act → World → Prop), RegT E N fr h.get nx fr' h'.get nx' fun K a w => (∀ a w, K a w → Q x.to a w) → Code.rounds P c Q fuel a w := by
  intro fuel
  induction fuel with
  | zero => intro fr h nx k hk; cases hk
  | succ fuel ih =>
    intro fr h nx k hk hf
    obtain ⟨x, fr1, h1, nx1, hk, hf1, hle, hT⟩ := hb (k := fun x fr h nx => cxK (loopK body fuel fr h nx k) (fun i => k (.exit i) fr h nx) (k .ret fr h nx) x) hk hf
    cases x with
    | norm =>
      obtain ⟨x', fr', h', nx', hk, hf', hle', hT'⟩ := ih (k := k) hk hf1
      exact ⟨x', fr', h', nx', hk, hf', by omega, fun Q => RegT.seq hle hle' (hT (Exit.then (Code.rounds P c Q fuel) Q)) (hT' Q) fun K a w h hq => by rw [rounds_succ]; exact h fun a w hk => hk hq⟩
    | exit i => exact ⟨.exit i, fr1, h1, nx1, hk, hf1, hle, fun Q => (hT (Exit.then (Code.rounds P c Q fuel) Q)).of fun K a w h hq => by rw [rounds_succ]; exact h hq⟩
    | ret => exact ⟨.ret, fr1, h1, nx1, hk, hf1, hle, fun Q => (hT (Exit.then (Code.rounds P c Q fuel) Q)).of fun K a w h hq => by rw [rounds_succ]; exact h hq⟩

theorem codeK_some {call : CallF} (hc : CallOk P E call) (hm : P.follows .mixedOrders = true) {fuel : Nat} {c : Code} {cc : CCode} (hr : CodeRel P E F N c cc) : ∀ {fr : T AV} {h : T Blk} {nx : Nat} {k : KX}, codeK F call fuel cc fr h nx k = true → Fresh h nx →
    ∃ x fr' h' nx', k x fr' h' nx' = true ∧ Fresh h' nx' ∧ nx ≤ nx' ∧ CodeT P E N c fr h.get nx x fr' h'.get nx' := by
  induction hr with
  | skip => intro fr h nx k hk hf; exact ⟨.norm, fr, h, nx, hk, hf, Nat.le_refl _, fun Q => RegT.skip fun K a w hK hq => wp_skip (hq _ _ hK)⟩
  | label l => intro fr h nx k hk hf; exact ⟨.norm, fr, h, nx, hk, hf, Nat.le_refl _, fun Q => RegT.skip fun K a w hK hq => wp_label (hq _ _ hK)⟩
  | exit i => intro fr h nx k hk hf; exact ⟨.exit i, fr, h, nx, hk, hf, Nat.le_refl _, fun Q => RegT.skip fun K a w hK hq => wp_exit (hq _ _ hK)⟩
  | ret => intro fr h nx k hk hf; exact ⟨.ret, fr, h, nx, hk, hf, Nat.le_refl _, fun Q => RegT.skip fun K a w hK hq => wp_ret (hq _ _ hK)⟩
  | bad c =>
    intro fr h nx k hk hf
    have : (false : Bool) = true := hk
    cases this
  | reg hl =>
    intro fr h nx k hk hf
    obtain ⟨fr', h', nx', hk, hf', hle, hT⟩ := regK_some hc hl (k := fun fr h nx => k .norm fr h nx) hk hf
    exact ⟨.norm, fr', h', nx', hk, hf', hle, fun Q => (hT Q).of fun K a w h hq => wp_region_list (h hq)⟩
  | @drg id ops l hl =>
    intro fr h nx k hk hf
    obtain ⟨fr', h', nx', hk, hf', hle, hT⟩ := drg_region hc hm hl (k := fun fr h nx => k .norm fr h nx) hk hf
    exact ⟨.norm, fr', h', nx', hk, hf', hle, fun Q => hT Q id⟩
  | @seq a b ca cb ha hb iha ihb =>
    intro fr h nx k hk hf
    obtain ⟨x, fr1, h1, nx1, hk, hf1, hle, hT⟩ := iha (k := fun x fr h nx => cxK (codeK F call fuel cb fr h nx k) (fun i => k (.exit i) fr h nx) (k .ret fr h nx) x) hk hf
    cases x with
    | norm =>
      obtain ⟨x', fr', h', nx', hk, hf', hle', hT'⟩ := ihb (k := k) hk hf1
      exact ⟨x', fr', h', nx', hk, hf', by omega, fun Q => RegT.seq hle hle' (hT (Exit.then (b.wp P Q) Q)) (hT' Q) fun K a w h hq => wp_seq (h fun a w hk => hk hq)⟩
    | exit i => exact ⟨.exit i, fr1, h1, nx1, hk, hf1, hle, fun Q => (hT (Exit.then (b.wp P Q) Q)).of fun K a w h hq => wp_seq (h hq)⟩
    | ret => exact ⟨.ret, fr1, h1, nx1, hk, hf1, hle, fun Q => (hT (Exit.then (b.wp P Q) Q)).of fun K a w h hq => wp_seq (h hq)⟩
  | @cond x a b cx ca cb hx ha hb iha ihb =>
    intro fr h nx k hk hf
    obtain ⟨v, hk, hv⟩ := hx fr (fun v => boolK v fun t => @Bool.rec (fun _ => Bool) (codeK F call fuel cb fr h nx k) (codeK F call fuel ca fr h nx k) t) hk
    replace hk := boolK_some hk
    obtain ⟨t, rfl, hk⟩ := hk
    have hev : ∀ (ρ : Nat → Option Loc) (A : Act), AInv E ρ N (frOf fr) A → A.eval x = .bool t := fun ρ A hA => by
      have := hv ρ A.eval (Ev.act A) (hA.holds _)
      simpa only [VR] using this
    cases t with
    | false =>
      obtain ⟨x', fr', h', nx', hk, hf', hle', hT'⟩ := ihb (k := k) hk hf
      exact ⟨x', fr', h', nx', hk, hf', hle', fun Q ρ A w K hfree hA hI hK hq => wp_cond_false (hev ρ A hA) (hT' Q ρ A w K hfree hA hI hK hq)⟩
    | true =>
      obtain ⟨x', fr', h', nx', hk, hf', hle', hT'⟩ := iha (k := k) hk hf
      exact ⟨x', fr', h', nx', hk, hf', hle', fun Q ρ A w K hfree hA hI hK hq => wp_cond_true (hev ρ A hA) (hT' Q ρ A w K hfree hA hI hK hq)⟩
  | @block i a ca ha ih =>
    intro fr h nx k hk hf
    obtain ⟨x, fr1, h1, nx1, hk, hf1, hle, hT⟩ := ih (k := fun x fr h nx => cxK (k .norm fr h nx) (fun j => ifK (Nat.beq j i) (k .norm fr h nx) (k (.exit j) fr h nx)) (k .ret fr h nx) x) hk hf
    cases x with
    | norm => exact ⟨.norm, fr1, h1, nx1, hk, hf1, hle, fun Q => (hT (Exit.inBlock i Q)).of fun K a w h hq => wp_block (h hq)⟩
    | ret => exact ⟨.ret, fr1, h1, nx1, hk, hf1, hle, fun Q => (hT (Exit.inBlock i Q)).of fun K a w h hq => wp_block (h hq)⟩
    | exit j =>
      by_cases e : j = i
      · subst e
        have : Nat.beq j j = true := by simp
        change ifK (Nat.beq j j) (k .norm fr1 h1 nx1) (k (.exit j) fr1 h1 nx1) = true at hk
        rw [this] at hk
        exact ⟨.norm, fr1, h1, nx1, hk, hf1, hle, fun Q => (hT (Exit.inBlock j Q)).of fun K a w h hq => wp_block (h fun a w hk => by simp only [CX.to, Exit.inBlock, if_true]; exact hq a w hk)⟩
      · have : Nat.beq j i = false := by cases hb : Nat.beq j i with | false => rfl | true => exact absurd (beq_of hb) e
        change ifK (Nat.beq j i) (k .norm fr1 h1 nx1) (k (.exit j) fr1 h1 nx1) = true at hk
        rw [this] at hk
        exact ⟨.exit j, fr1, h1, nx1, hk, hf1, hle, fun Q => (hT (Exit.inBlock i Q)).of fun K a w h hq => wp_block (h fun a w hk => by simp only [CX.to, Exit.inBlock, if_neg e]; exact hq a w hk)⟩
  | @loop a ca ha ih =>
    intro fr h nx k hk hf
    obtain ⟨x, fr', h', nx', hk, hf', hle, hT⟩ := loopK_some (P := P) (E := E) (N := N) (c := a) (body := codeK F call fuel ca) (fun hk hf => ih hk hf) (fuel := fuel) (k := k) hk hf
    exact ⟨x, fr', h', nx', hk, hf', hle, fun Q => (hT Q).of fun K a w h hq => wp_loop_rounds fuel (h hq)⟩

def ResV (P : Program) (tmps : Array Value) (w : World) (r : ResultVar) (v : Value) : Prop :=
  (match r with | .tmp t => pure (tmps.getD t undef) | .cell a t => do loadVar t (← asAddr (tmps.getD a undef)) : Sem Value).run P w = .ok v w
theorem res_run {w : World} {fn : Func} {tmps : Array Value} : ∀ (rs : List ResultVar) (vs : List Value), fn.results.toList = rs → rs.length = vs.length → (∀ (i : Nat) (r : ResultVar) (v : Value), rs[i]? = some r → vs[i]? = some v → ResV P tmps w r v) →
    (results fn tmps).run P w = .ok (if h : vs.toArray.size = 1 then vs.toArray[0] else .tuple vs.toArray) w := by
  intro rs vs h hl hall
  have key : ∀ (rs : List ResultVar) (vs : List Value), rs.length = vs.length → (∀ (i : Nat) (r : ResultVar) (v : Value), rs[i]? = some r → vs[i]? = some v → ResV P tmps w r v) →
      (rs.mapM (fun (r : ResultVar) => (match r with | .tmp t => pure (tmps.getD t undef) | .cell a t => do loadVar t (← asAddr (tmps.getD a undef)) : Sem Value))).run P w = .ok vs w := by
    intro rs
    induction rs with
    | nil => intro vs hl _; cases vs with | nil => rfl | cons v vs => cases hl
    | cons r rs ih =>
      intro vs hl hall
      cases vs with
      | nil => cases hl
      | cons v vs =>
        have h0 : ResV P tmps w r v := hall 0 r v rfl rfl
        have h1 := ih vs (by simpa using hl) (fun i r v hr hv => hall (i + 1) r v (by simpa using hr) (by simpa using hv))
        unfold ResV at h0
        simp only [List.mapM_cons, Sem.run_bind, h0, Result.andThen_ok, h1]
        rfl
  have h' : fn.results = rs.toArray := by rw [← h]
  unfold results
  rw [h', List.mapM_toArray]
  have := key rs vs hl hall
  simp only [Sem.run_bind, Sem.run_map]
  refine (congrArg (fun r => Result.andThen (Result.andThen r _) _) this).trans ?_
  simp only [Result.andThen_ok]
  rfl
theorem rLd1_some {t ct : Nat} {fr : T AV} {h : T Blk} {k : AV → Bool} (hg : ∀ w, (isAgg ct).run P w = .ok false w) (hk : rLd1 (.tmp t) fr h k = true) :
    ∃ av, k av = true ∧ ∀ ρ (a : Act) w, AInv E ρ N (frOf fr) a → Inv E ρ h.get w → ∃ v, VR E ρ av v ∧ ResV P a.tmps w (.cell t ct) v := by
  replace hk := getK_some (k := fun v => ptrK v fun i p => blkK h i fun n t => ifK (Nat.blt p n) (getK k t p) false) (t := fr) (i := t) hk
  obtain ⟨x, hx, hk⟩ := hk
  replace hk := ptrK_some hk
  obtain ⟨i, p, rfl, hk⟩ := hk
  replace hk := blkK_some hk
  obtain ⟨n, tr, hb, hk⟩ := hk
  obtain ⟨hlt, h1⟩ := ifK_and hk
  obtain ⟨av, hav, h1⟩ := getK_some h1
  have hlt := blt_of hlt
  refine ⟨av, h1, fun ρ a w hA hI => ?_⟩
  have hv := (hA.at_ t _ hx).2
  simp only [VR] at hv
  obtain ⟨L, hL, hv⟩ := hv
  obtain ⟨v, hc, hr, _⟩ := (hI.blk hb hL).cell hlt hav
  exact ⟨v, hr, by unfold ResV; simp only []; rw [hv]; simp [asAddr, loadVar, hg, hc]⟩
theorem rLdn_some {t ct : Nat} {it : TypeInfo} {fr : T AV} {h : T Blk} {k : AV → Bool} (hg : ∀ w, (isAgg ct).run P w = .ok true w) (hi : P.info? ct = some it) (hk : rLdn it.size (.tmp t) fr h k = true) :
    ∃ av, k av = true ∧ ∀ ρ (a : Act) w, AInv E ρ N (frOf fr) a → Inv E ρ h.get w → ∃ v, VR E ρ av v ∧ ResV P a.tmps w (.cell t ct) v := by
  replace hk := getK_some (k := fun v => ptrK v fun i p => blkK h i fun n t => ifK (Nat.ble (Nat.add p it.size) n) (readK t it.size p fun l => k (.agg l)) false) (t := fr) (i := t) hk
  obtain ⟨x, hx, hk⟩ := hk
  replace hk := ptrK_some hk
  obtain ⟨i, p, rfl, hk⟩ := hk
  replace hk := blkK_some hk
  obtain ⟨n, tr, hb, hk⟩ := hk
  obtain ⟨hle, h1⟩ := ifK_and hk
  obtain ⟨l, hl, hlg, h1⟩ := readK_some h1
  have hle := ble_of hle
  refine ⟨_, h1, fun ρ a w hA hI => ?_⟩
  have hv := (hA.at_ t _ hx).2
  simp only [VR] at hv
  obtain ⟨L, hL, hv⟩ := hv
  obtain ⟨vs, g1, _, g3⟩ := (hI.blk hb hL).row hle hl hlg
  have hlen : vs.length = it.size := by rw [g1.length, hl]
  refine ⟨.agg vs.toArray, by simp only [VR]; exact ⟨vs, g1, rfl⟩, ?_⟩
  have hcells := run_loadCells (P := P) (w := w) L.b (L.o + p) vs g3
  rw [hlen] at hcells
  unfold ResV; simp only []; rw [hv]; simp [asAddr, loadVar, hg, run_sizeOf hi, hcells]
theorem resK_some {rs : List ResultVar} {crs : List CRes} (hr : ResRel P rs crs) : ∀ {fr : T AV} {h : T Blk} {k : List AV → Bool}, resK crs fr h k = true →
    ∃ as, k as = true ∧ ∀ ρ (a : Act) w, AInv E ρ N (frOf fr) a → Inv E ρ h.get w → ∃ vs, VRs E ρ as vs ∧ rs.length = vs.length ∧ ∀ (i : Nat) (r : ResultVar) (v : Value), rs[i]? = some r → vs[i]? = some v → ResV P a.tmps w r v := by
  have cons : ∀ {r : ResultVar} {l : List ResultVar} {av : AV} {as : List AV} {fr : T AV} {h : T Blk}, (∀ ρ (a : Act) w, AInv E ρ N (frOf fr) a → Inv E ρ h.get w → ∃ v, VR E ρ av v ∧ ResV P a.tmps w r v) →
      (∀ ρ (a : Act) w, AInv E ρ N (frOf fr) a → Inv E ρ h.get w → ∃ vs, VRs E ρ as vs ∧ l.length = vs.length ∧ ∀ (i : Nat) (r : ResultVar) (v : Value), l[i]? = some r → vs[i]? = some v → ResV P a.tmps w r v) →
      ∀ ρ (a : Act) w, AInv E ρ N (frOf fr) a → Inv E ρ h.get w → ∃ vs, VRs E ρ (av :: as) vs ∧ (r :: l).length = vs.length ∧ ∀ (i : Nat) (r' : ResultVar) (v : Value), (r :: l)[i]? = some r' → vs[i]? = some v → ResV P a.tmps w r' v := by
    intro r l av as fr h h1 h2 ρ a w hA hI
    obtain ⟨v, hv, hr⟩ := h1 ρ a w hA hI
    obtain ⟨vs, hvs, hl, hrs⟩ := h2 ρ a w hA hI
    refine ⟨v :: vs, VRs.cons hv hvs, by simp [hl], fun i r' v' h1 h2 => ?_⟩
    cases i with
    | zero => simp at h1 h2; subst h1; subst h2; exact hr
    | succ i => exact hrs i r' v' (by simpa using h1) (by simpa using h2)
  induction hr with
  | nil => intro fr h k hk; exact ⟨[], hk, fun ρ a w _ _ => ⟨[], VRs.nil, rfl, fun i r v h => by simp at h⟩⟩
  | @tmp t l cl hs ih =>
    intro fr h k hk
    replace hk := getK_some (k := fun v => resK cl fr h fun vs => k (v :: vs)) (t := fr) (i := t) hk
    obtain ⟨v, hv, hk⟩ := hk
    obtain ⟨as, hk, h2⟩ := ih hk
    exact ⟨v :: as, hk, cons (fun ρ a w hA hI => ⟨_, (hA.at_ t v hv).2, rfl⟩) h2⟩
  | @c1 t ct l cl hg hs ih =>
    intro fr h k hk
    obtain ⟨v, hk, h1⟩ := rLd1_some (E := E) (N := N) hg (k := fun v => resK cl fr h fun vs => k (v :: vs)) hk
    obtain ⟨as, hk, h2⟩ := ih hk
    exact ⟨v :: as, hk, cons h1 h2⟩
  | @cn t ct it l cl hg hi hs ih =>
    intro fr h k hk
    obtain ⟨v, hk, h1⟩ := rLdn_some (E := E) (N := N) hg hi (k := fun v => resK cl fr h fun vs => k (v :: vs)) hk
    obtain ⟨as, hk, h2⟩ := ih hk
    exact ⟨v :: as, hk, cons h1 h2⟩
theorem oneV_some {as : List AV} {k : AV → Bool} (h : oneV as k = true) : ∃ r, k r = true ∧ ∀ ρ vs, VRs E ρ as vs → VR E ρ r (if h : vs.toArray.size = 1 then vs.toArray[0] else .tuple vs.toArray) := by
  match as, h with
  | [], h =>
    refine ⟨_, h, fun ρ vs hv => ?_⟩
    simp only [VRs] at hv; subst hv
    simp only [VR]; exact ⟨[], VRs.nil, by simp⟩
  | [x], h =>
    refine ⟨_, h, fun ρ vs hv => ?_⟩
    simp only [VRs] at hv
    obtain ⟨v, r, h1, h2, rfl⟩ := hv
    subst h2
    simpa using h1
  | x :: y :: l, h =>
    refine ⟨_, h, fun ρ vs hv => ?_⟩
    have hl := hv.length
    have : ¬ vs.toArray.size = 1 := by simp; simp at hl; omega
    rw [dif_neg this]
    simp only [VR]; exact ⟨vs, hv, rfl⟩

theorem bodyK_some {call : CallF} (ih : CallOk P E call) (hm : P.follows .mixedOrders = true) {fuel f : Nat} {fn : Func} {b : Code} {rs : List CRes} {c : CCode} (hf : P.funcs[f]? = some fn) (hb : fn.body = some b) (hn : (fn.name == "runtime.NumGoroutine") = false) (hr : ResRel P fn.results.toList rs) (hc : CodeRel P E F fn.ntmps b c)
    {as : List AV} {h : T Blk} {nx : Nat} {k : KV} (hk : bodyK F call fuel fn.ntmps rs c as h nx k = true) (hfr : Fresh h nx) : ∃ r h' nx', k r h' nx' = true ∧ Fresh h' nx' ∧ nx ≤ nx' ∧ CallR P E f as h.get nx r h'.get nx' := by
  have hhas : FnHas P f := ⟨fn, hf, by rw [hb]; rfl, hn⟩
  change lenK as 0 (fun m => ifK (Nat.ble m fn.ntmps) (writeK as .l 0 fun fr => codeK F call fuel c fr h nx fun x fr h nx => endK rs k x fr h nx) false) = true at hk
  rw [lenK_eq] at hk
  obtain ⟨hle, hk⟩ := ifK_and hk
  have hle := ble_of hle
  rw [Nat.zero_add] at hle
  obtain ⟨fr0, hfr0, hk⟩ := writeK_some hk
  obtain ⟨x, fr', h', nx', hk, hf', hle', hT⟩ := codeK_some ih hm hc (k := fun x fr h nx => endK rs k x fr h nx) hk hfr
  have start : ∀ ρ vs, VRs E ρ as vs → AInv E ρ fn.ntmps (frOf fr0) { tmps := vs.toArray ++ Array.replicate (fn.ntmps - vs.toArray.size) undef, defers := [] } := by
    intro ρ vs hvs
    have hl := hvs.length
    refine ⟨rfl, by simp; omega, fun t av h => ?_⟩
    unfold frOf at h
    rw [hfr0] at h
    have hgl : (T.l : T AV).get t = none := by cases t <;> rfl
    by_cases ht : t < as.length
    · rw [if_pos ⟨Nat.zero_le _, by omega⟩, Nat.sub_zero] at h
      obtain ⟨u, hu, hv⟩ := hvs.get h
      refine ⟨by omega, ?_⟩
      have hlt : t < vs.length := by omega
      simp only [Array.getD_eq_getD_getElem?]
      rw [Array.getElem?_append_left (by simpa using hlt)]
      simpa [hu] using hv
    · rw [if_neg (by omega), hgl] at h; cases h
  have fin : x.to = .normal ∨ x.to = .ret → (resK rs fr' h' fun vs => oneV vs fun v => k v h' nx') = true → ∃ r h'' nx'', k r h'' nx'' = true ∧ Fresh h'' nx'' ∧ nx ≤ nx'' ∧ CallR P E f as h.get nx r h''.get nx'' := by
    intro hx hk
    obtain ⟨rs', hk, hR⟩ := resK_some (E := E) (N := fn.ntmps) hr hk
    obtain ⟨r, hk, hr1⟩ := oneV_some (E := E) hk
    refine ⟨r, h', nx', hk, hf', hle', .inl ⟨hhas, fun ρ w vs hfree hI hvs => ?_⟩⟩
    refine calls_of_wp hf hb (hT _ ρ _ w (fun a w' => ∃ ρ', Stp ρ h.get w nx ρ' h'.get w' nx' ∧ AInv E ρ' fn.ntmps (frOf fr') a ∧ Inv E ρ' h'.get w') hfree (start ρ vs hvs) hI (fun ρ' a' w' s1 s2 s3 => ⟨ρ', s1, s2, s3⟩) ?_)
    rintro a' w' ⟨ρ', s1, s2, s3⟩
    obtain ⟨vs', g1, g2, g3⟩ := hR ρ' a' w' s2 s3
    have hrun := res_run (P := P) (fn := fn) (tmps := a'.tmps) _ vs' rfl g2 g3
    rcases hx with hx | hx <;> rw [hx] <;> exact ⟨s2.defers, _, hrun, _, rfl, ρ', s1, s3, hr1 ρ' vs' g1⟩
  cases x with
  | norm => exact fin (.inl rfl) hk
  | ret => exact fin (.inr rfl) hk
  | exit i => cases hk
theorem callK_some (hm : P.follows .mixedOrders = true) {fuel : Nat} {ft : T FnE} (hft : ∀ i e, ft.get i = some e → FnRel P E F i e) : ∀ d, CallOk P E (callK F fuel ft d) := by
  intro d
  induction d with
  | zero => intro f as h nx k hk; cases hk
  | succ d ih =>
    intro f as h nx k hk hfr
    replace hk := getK_some (k := fun e => fnK' F (callK F fuel ft d) fuel e as h nx k) (t := ft) (i := f) hk
    obtain ⟨e, he, hk⟩ := hk
    have hrel := hft f e he
    cases hrel with
    | orc hg => exact hg as h nx k hk hfr
    | @code fn b rs c hf hb hn hr hc => exact bodyK_some ih hm hf hb hn hr hc hk hfr
    | @mix g fn b rs c hf hb hn hr hc hg => exact hg _ (fun as h nx k hk hfr => bodyK_some ih hm hf hb hn hr hc hk hfr) as h nx k hk hfr
end
end Go.Proofs.YtfgmmabggjjhgaaGreatDoor.Ev
