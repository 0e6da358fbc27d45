/- TopLong: true in every world: its calls by tables, the law itself by hand. -/
import Derived.Test.YtdnahdcjnahfkaaGreatDoorEvLTopLongK
import Derived.Test.YtdnahdcjnahfkaaGreatDoorEvLTopLongU0
import Derived.Test.YtdnahdcjnahfkaaGreatDoorEvLTopLongU1
import Derived.Test.YtdnahdcjnahfkaaGreatDoorEvLTopLongU2
import Derived.Test.YtdnahdcjnahfkaaGreatDoorEvLTopLongU3
import Derived.Test.YtdnahdcjnahfkaaGreatDoorEvLTopLongU4
import Derived.Test.YtdnahdcjnahfkaaGreatDoorEvLTopLongU5
import Derived.Test.YtdnahdcjnahfkaaGreatDoorEvLTopLongU6
import Derived.Test.YtdnahdcjnahfkaaGreatDoorEvLTopLongU7
import Derived.Test.YtdnahdcjnahfkaaGreatDoorEvLTopLongU8
import Derived.Test.YtdnahdcjnahfkaaGreatDoorEvLTopLongU9
import Derived.Test.YtdnahdcjnahfkaaGreatDoorEvLTopLongU10
import Derived.Test.YtdnahdcjnahfkaaGreatDoorEvLTopLongA0
import Derived.Test.YtdnahdcjnahfkaaGreatDoorEvLTopLongA1
set_option linter.unusedVariables false
namespace Go.Proofs.YtdnahdcjnahfkaaGreatDoor.Ev
open Go Go.Proofs
namespace TopLong
section
variable {E : Env}
theorem undo_all : ∀ i, i < 80 → ∀ j, j < mn i + 1 → EntOk Tryz.prog E 7 (undoE i j) := fun i hi => by
  rcases Nat.lt_or_ge i 28 with h0 | h0
  · exact roundsK_ok u0 i (by omega) (by omega)
  rcases Nat.lt_or_ge i 38 with h6 | h6
  · exact roundsK_ok u6 i (by omega) (by omega)
  rcases Nat.lt_or_ge i 45 with h1 | h1
  · exact roundsK_ok u1 i (by omega) (by omega)
  rcases Nat.lt_or_ge i 51 with h7 | h7
  · exact roundsK_ok u7 i (by omega) (by omega)
  rcases Nat.lt_or_ge i 56 with h2 | h2
  · exact roundsK_ok u2 i (by omega) (by omega)
  rcases Nat.lt_or_ge i 61 with h8 | h8
  · exact roundsK_ok u8 i (by omega) (by omega)
  rcases Nat.lt_or_ge i 65 with h3 | h3
  · exact roundsK_ok u3 i (by omega) (by omega)
  rcases Nat.lt_or_ge i 69 with h9 | h9
  · exact roundsK_ok u9 i (by omega) (by omega)
  rcases Nat.lt_or_ge i 73 with h4 | h4
  · exact roundsK_ok u4 i (by omega) (by omega)
  rcases Nat.lt_or_ge i 77 with h10 | h10
  · exact roundsK_ok u10 i (by omega) (by omega)
  rcases Nat.lt_or_ge i 80 with h5 | h5
  · exact roundsK_ok u5 i (by omega) (by omega)
  omega
theorem add_all : ∀ i, i < 80 → EntOk Tryz.prog E 7 (addE i) := fun i hi => by
  rcases Nat.lt_or_ge i 45 with h0 | h0
  · exact (addsK_ok a0).1 i (by omega) (by omega)
  rcases Nat.lt_or_ge i 80 with h1 | h1
  · exact (addsK_ok a1).1 i (by omega) (by omega)
  omega
theorem wr_all : ∀ i, i < 80 → EntOk Tryz.prog E 6 (wrE i) := fun i hi => by
  rcases Nat.lt_or_ge i 45 with h0 | h0
  · exact (addsK_ok a0).2 i (by omega) (by omega)
  rcases Nat.lt_or_ge i 80 with h1 | h1
  · exact (addsK_ok a1).2 i (by omega) (by omega)
  omega
end
end TopLong
end Go.Proofs.YtdnahdcjnahfkaaGreatDoor.Ev
namespace Go.Proofs.YtdnahdcjnahfkaaGreatDoor.Ev
open Go Go.Proofs
namespace TopLong
section
variable {E : Env}

/-! ### States, moved to other numbers -/
def Sh (ρ ρ' : Nat → Option Loc) : List AV → List AV → Prop
  | [], [] => True
  | a :: l, b :: m => (∀ v, VR E ρ a v → VR E ρ' b v) ∧ Sh ρ ρ' l m
  | _, _ => False
theorem Sh.vrs {ρ ρ' : Nat → Option Loc} : ∀ {l m : List AV} {vs : List Value}, Sh (E := E) ρ ρ' l m → VRs E ρ l vs → VRs E ρ' m vs
  | [], [], vs, _, h => by simpa [VRs] using h
  | a :: l, b :: m, vs, hs, h => by
    simp only [VRs] at h
    obtain ⟨v, r, h1, h2, rfl⟩ := h
    exact VRs.cons (hs.1 v h1) (hs.2.vrs h2)
  | [], _ :: _, _, hs, _ => hs.elim
  | _ :: _, [], _, hs, _ => hs.elim
theorem sl_shift {ρ : Nat → Option Loc} {n x y m es : Nat} {l : List AV} (hx : x = n + y) (v : Value) (h : VR E ρ (sl x m es l) v) : VR E (fun q => ρ (n + q)) (sl y m es l) v := by
  subst hx
  cases l with
  | nil =>
    change VR E ρ .nils v at h
    show VR E _ .nils v
    simpa only [VR] using h
  | cons a l =>
    change VR E ρ (.sl (n + y) 0 m m true es) v at h
    show VR E _ (.sl y 0 m m true es) v
    simpa only [VR] using h
theorem st_shift {ρ : Nat → Option Loc} {n : Nat} {W I B F : List AV} {v : Value} (h : VR E ρ (st n W I B F) v) : VR E (fun q => ρ (n + q)) (st 0 W I B F) v := by
  unfold st now at h ⊢
  simp only [VR] at h ⊢
  obtain ⟨l', h, rfl⟩ := h
  refine ⟨l', Sh.vrs (E := E) ?_ h, rfl⟩
  refine ⟨sl_shift rfl, sl_shift ?_, fun v h => ?_, fun v h => ?_, fun v h => ?_, fun v h => ?_, fun v h => ?_, fun v h => ?_, fun v h => ?_, fun v h => ?_, fun v h => ?_, fun v h => ?_, fun v h => ?_, fun v h => ?_, fun v h => ?_, fun v h => ?_, fun v h => ?_, fun v h => ?_, sl_shift ?_, sl_shift ?_, fun v h => ?_, trivial⟩
  all_goals first | (simp only [VR] at h ⊢; exact h) | (show n + _ = n + (0 + _); rw [Nat.zero_add])
theorem cnt_eq (W I B F : List AV) : cnt W I B F = (bl W I B F).length := by cases W <;> cases I <;> cases B <;> cases F <;> rfl
/-- Data that lies anywhere. -/
def plainB : AV → Bool
  | .str _ => true
  | .int _ _ => true
  | .nili => true
  | _ => false
theorem plain_vr {x : AV} (h : plainB x = true) {ρ ρ' : Nat → Option Loc} {v : Value} (hv : VR E ρ x v) : VR E ρ' x v := by
  cases x with
  | str s => simp only [VR] at hv ⊢; exact hv
  | int k n => simp only [VR] at hv ⊢; exact hv
  | nili => simp only [VR] at hv ⊢; exact hv
  | _ => cases h
def PlainL (l : List AV) : Prop := ∀ x ∈ l, plainB x = true
theorem nth_plain : ∀ {l : List AV} (_ : PlainL l) (i : Nat), plainB (nth l i) = true
  | [], _, _ => rfl
  | x :: l, h, 0 => h x (by simp)
  | x :: l, h, i + 1 => nth_plain (l := l) (fun y hy => h y (by simp [hy])) i
theorem tak_plain : ∀ {l : List AV} (_ : PlainL l) (n : Nat), PlainL (tak l n)
  | [], _, _ => fun _ h => (by cases h)
  | x :: l, h, 0 => fun _ h => (by cases h)
  | x :: l, h, n + 1 => fun y hy => by
    rcases List.mem_cons.1 (show y ∈ x :: tak l n from hy) with rfl | hy
    · exact h y (by simp)
    · exact tak_plain (fun z hz => h z (by simp [hz])) n y hy
theorem drp_plain : ∀ {l : List AV} (_ : PlainL l) (n : Nat), PlainL (drp l n)
  | [], _, _ => fun _ h => (by cases h)
  | x :: l, h, 0 => h
  | x :: l, h, n + 1 => drp_plain (l := l) (fun z hz => h z (by simp [hz])) n
theorem rev_plain : ∀ {l a : List AV} (_ : PlainL l) (_ : PlainL a), PlainL (rev l a)
  | [], a, _, h => h
  | x :: l, a, hl, ha => rev_plain (l := l) (a := x :: a) (fun z hz => hl z (by simp [hz])) fun z hz => by
    rcases List.mem_cons.1 hz with rfl | hz
    · exact hl z (by simp)
    · exact ha z hz
theorem iff_plain {a b : List AV} (ha : PlainL a) (hb : PlainL b) : ∀ n, PlainL (iff n a b)
  | 0 => ha
  | _ + 1 => hb
theorem nil_plain : PlainL [] := fun _ h => by cases h
theorem all_plain {l : List AV} (h : l.all plainB = true) : PlainL l := fun x hx => List.all_eq_true.1 h x hx
theorem da_plain : PlainL da := all_plain (by kernel_rfl)
theorem mk_plain : PlainL mk := all_plain (by kernel_rfl)
theorem fu_plain : PlainL fu := all_plain (by kernel_rfl)
theorem cons_plain {x : AV} {l : List AV} (h : plainB x = true) (k : PlainL l) : PlainL (x :: l) := fun y hy => by
  rcases List.mem_cons.1 hy with rfl | hy
  · exact h
  · exact k y hy
theorem wk_plain (i : Nat) : PlainL (wk i) := cons_plain rfl (cons_plain rfl (cons_plain (nth_plain da_plain i) nil_plain))
theorem ix_plain (i : Nat) : PlainL (ix i) := cons_plain rfl (cons_plain rfl (cons_plain rfl (cons_plain (nth_plain da_plain i) (cons_plain rfl (cons_plain rfl nil_plain)))))
theorem wkK_plain (k : Nat) : PlainL (wkK k) := iff_plain nil_plain (wk_plain _) k
theorem ixK_plain (k : Nat) : PlainL (ixK k) := iff_plain nil_plain (ix_plain _) k
theorem rng_plain {l : List AV} (h : PlainL l) (a b : Nat) : PlainL (rng l a b) := tak_plain (drp_plain h a) _
theorem back_plain (k : Nat) : PlainL (back k) := rng_plain mk_plain _ _
theorem wU_plain (k j : Nat) : PlainL (wU k j) := iff_plain (wkK_plain k) (wk_plain _) j
theorem iU_plain (k j : Nat) : PlainL (iU k j) := iff_plain (ixK_plain k) (ixK_plain _) j
theorem bU_plain (k j : Nat) : PlainL (bU k j) := rng_plain mk_plain _ _
theorem fU_plain (k j : Nat) : PlainL (fU k j) := iff_plain nil_plain (cons_plain (nth_plain fu_plain _) (rev_plain (rng_plain mk_plain _ _) nil_plain)) j
theorem bl_plain {W I B F : List AV} (hW : PlainL W) (hI : PlainL I) (hB : PlainL B) (hF : PlainL F) : ∀ cs ∈ bl W I B F, PlainL cs := by
  have hc : ∀ {l : List AV} {r : List (List AV)}, PlainL l → (∀ cs ∈ r, PlainL cs) → ∀ cs ∈ con l r, PlainL cs := fun {l r} h k cs hcs => by
    cases l with
    | nil => exact k cs hcs
    | cons a l =>
      rcases List.mem_cons.1 (show cs ∈ (a :: l) :: r from hcs) with rfl | hcs
      · exact h
      · exact k cs hcs
  exact hc hW (hc hI (hc hB (hc hF fun _ h => (by cases h))))
theorem lay_drop {ρ : Nat → Option Loc} {w : World} {a b : List (List AV)} (h : LayIn E ρ w (a ++ b)) (hp : ∀ cs ∈ b, PlainL cs) : LayIn E (fun q => ρ (a.length + q)) w b := by
  refine ⟨fun q cs hq => ?_, fun q q' L L' hq hq' hne hL hL' => ?_⟩
  · have := h.at_ (a.length + q) cs (by rw [List.getElem?_append_right (by omega), show a.length + q - a.length = q from by omega]; exact hq)
    obtain ⟨L, hL, c, e, z, b1, b2, b3, b4⟩ := this
    exact ⟨L, hL, c, e, z, b1, b2, b3, fun k x hx => by
      obtain ⟨v, c1, c2, c3⟩ := b4 k x hx
      exact ⟨v, c1, plain_vr (hp cs (List.mem_of_getElem? hq) x (List.mem_of_getElem? hx)) c2, c3⟩⟩
  · exact h.inj (a.length + q) (a.length + q') L L' (by rw [List.length_append]; omega) (by rw [List.length_append]; omega) (by omega) hL hL'
theorem lay_same {ρ : Nat → Option Loc} {w w' : World} {b : List (List AV)} (h : LayIn E ρ w b) (hs : ∀ q L, ρ q = some L → w'.heap[L.b]? = w.heap[L.b]?) : LayIn E ρ w' b := by
  refine ⟨fun q cs hq => ?_, h.inj⟩
  obtain ⟨L, hL, c, e, z, b1, b2⟩ := h.at_ q cs hq
  exact ⟨L, hL, c, e, z, by rw [hs q L hL]; exact b1, b2⟩

/-! ### A state, in a world -/
structure StIn (E : Env) (w : World) (W I B F : List AV) (ρ : Nat → Option Loc) (v : Value) : Prop where
  none_ : ∀ q, (bl W I B F).length ≤ q → ρ q = none
  lay : LayIn E ρ w (bl W I B F)
  val : VR E ρ (st 0 W I B F) v
theorem StIn.lt {w : World} {W I B F : List AV} {ρ : Nat → Option Loc} {v : Value} (h : StIn E w W I B F ρ v) {q : Nat} {L : Loc} (hq : ρ q = some L) : L.b < w.heap.size := by
  rcases Nat.lt_or_ge q (bl W I B F).length with hl | hl
  · obtain ⟨L', hL', hb⟩ := h.lay.at_ q _ (List.getElem?_eq_getElem hl)
    rw [hq] at hL'; injection hL' with hL'; subst hL'
    exact hb.lt
  · rw [h.none_ q hl] at hq; cases hq
theorem st_cells {ρ : Nat → Option Loc} {n : Nat} {W I B F : List AV} {v : Value} (h : VR E ρ (st n W I B F) v) : ∃ l : List Value, v = .agg l.toArray ∧ l.length = 21 ∧ ∀ u ∈ l, u.oneCell' = true := by
  unfold st now at h
  simp only [VR] at h
  obtain ⟨l, h, rfl⟩ := h
  refine ⟨l, rfl, h.length, ones_of h fun a ha => ?_⟩
  have hsl : ∀ q m es l, one1 (sl q m es l) = true := fun q m es l => by cases l <;> rfl
  simp only [List.mem_cons, List.not_mem_nil, or_false] at ha
  rcases ha with rfl | rfl | rfl | rfl | rfl | rfl | rfl | rfl | rfl | rfl | rfl | rfl | rfl | rfl | rfl | rfl | rfl | rfl | rfl | rfl | rfl <;> first | rfl | exact hsl _ _ _ _
/-- What a call leaves as it was. -/
structure FrK (w w' : World) (ρ : Nat → Option Loc) : Prop where
  os : w'.os = w.os
  tape : w'.tape = w.tape
  output : w'.output = w.output
  size : w.heap.size ≤ w'.heap.size
  keep : ∀ b, b < w.heap.size → (∀ q L, ρ q = some L → L.b ≠ b) → w'.heap[b]? = w.heap[b]?
theorem st_call {f : Nat} {W I B F : List AV} {xs : List AV} {vs : List Value} {r : AV} {out : List (List AV)} {w : World} {ρ : Nat → Option Loc} {v : Value} (h : EntOk Tryz.prog E f ⟨st 0 W I B F :: xs, bl W I B F, r, out⟩) (hS : StIn E w W I B F ρ v) (has : ∀ ρ, VRs E ρ xs vs) :
    Calls Tryz.prog f (v :: vs).toArray w (Go.Proofs.YtdnahdcjnahfkaaGreatDoor.Ret fun u w' => FrK w w' ρ ∧ ∃ ρ1, LayIn E ρ1 w' (bl W I B F ++ out) ∧ VR E ρ1 r u ∧ ∀ q L, (bl W I B F).length ≤ q → ρ1 q = some L → w.heap.size ≤ L.b ∧ q < (bl W I B F ++ out).length) := by
  refine (h ρ w (v :: vs) hS.none_ hS.lay (VRs.cons hS.val (has ρ))).mono ?_
  rintro e w' ⟨u, rfl, ρ1, _, h2, h3, h4, g1, g2, g3, g4, g5, g6⟩
  refine ⟨u, rfl, ⟨g1, g2, g3, g4, fun b hb hn => g5 b hb fun q L _ hq => hn q L hq⟩, ρ1, h3, h4, fun q L hq hL => ?_⟩
  rcases Nat.lt_or_ge q (bl W I B F ++ out).length with hl | hl
  · exact ⟨g6 q L hq hl hL, hl⟩
  · rw [h2 q hl] at hL; cases hL
theorem st_next {a : List (List AV)} {W I B F : List AV} {w w' : World} {ρ1 : Nat → Option Loc} {u : Value} (hL : LayIn E ρ1 w' (a ++ bl W I B F)) (hv : VR E ρ1 (st a.length W I B F) u) (hn : ∀ q L, a.length ≤ q → ρ1 q = some L → w.heap.size ≤ L.b ∧ q < (a ++ bl W I B F).length)
    (hW : PlainL W) (hI : PlainL I) (hB : PlainL B) (hF : PlainL F) : ∃ ρ', StIn E w' W I B F ρ' u ∧ ∀ q L, ρ' q = some L → w.heap.size ≤ L.b := by
  refine ⟨fun q => ρ1 (a.length + q), ⟨fun q hq => ?_, lay_drop hL (bl_plain hW hI hB hF), st_shift hv⟩, fun q L hq => (hn _ L (by omega) hq).1⟩
  cases e : ρ1 (a.length + q) with
  | none => rfl
  | some L =>
    have := (hn _ L (by omega) e).2
    rw [List.length_append] at this
    omega
/-- Where the law stands: the state is in the cells l, the variable's block holds lb. -/
structure LS (E : Env) (w0 w : World) (b3 : Nat) (W I B F : List AV) (ρ : Nat → Option Loc) (l lb : List Value) : Prop where
  st_ : StIn E w W I B F ρ (.agg l.toArray)
  len : l.length = 21
  one : ∀ u ∈ l, u.oneCell' = true
  blk : Go.Proofs.YtdnahdcjnahfkaaGreatDoor.Blk w b3 lb 41
  lenb : lb.length = 21
  own : ∀ q L, ρ q = some L → w0.heap.size ≤ L.b ∧ L.b ≠ b3
  old : w0.heap.size ≤ b3
  kp : Keeps w0 w
theorem Keeps.then_ {w0 w w' : World} (h : Keeps w0 w) (os : w'.os = w.os) (tape : w'.tape = w.tape) (output : w'.output = w.output) (size : w.heap.size ≤ w'.heap.size) (keep : ∀ b, b < w0.heap.size → w'.heap[b]? = w.heap[b]?) : Keeps w0 w' :=
  ⟨os.trans h.os, tape.trans h.tape, output.trans h.output, Nat.le_trans h.size size, fun b hb => (keep b hb).trans (h.keep b hb)⟩
variable {w0 w w' : World} {b3 : Nat} {W I B F W' I' B' F' : List AV} {ρ : Nat → Option Loc} {l lb : List Value}
/-- Another block is new, or turns. -/
theorem LS.other {b : Nat} (h : LS E w0 w b3 W I B F ρ l lb) (e : Evo [b] w w') (hb : b ≠ b3) (h0 : w0.heap.size ≤ b) (hr : ∀ q L, ρ q = some L → L.b ≠ b) : LS E w0 w' b3 W I B F ρ l lb := by
  refine ⟨⟨h.st_.none_, lay_same h.st_.lay fun q L hq => e.keep L.b (h.st_.lt hq) (by simpa using hr q L hq), h.st_.val⟩, h.len, h.one, h.blk.evo e (by simpa using Ne.symm hb), h.lenb, h.own, h.old, Keeps.then_ h.kp e.os e.tape e.output e.size fun c hc => e.keep c (Nat.lt_of_lt_of_le hc h.kp.size) ?_⟩
  simp only [List.mem_singleton]; omega
theorem LS.more (h : LS E w0 w b3 W I B F ρ l lb) (e : Evo [] w w') : LS E w0 w' b3 W I B F ρ l lb :=
  ⟨⟨h.st_.none_, lay_same h.st_.lay fun q L hq => e.keep L.b (h.st_.lt hq) (by simp), h.st_.val⟩, h.len, h.one, h.blk.evo0 e, h.lenb, h.own, h.old, Keeps.then_ h.kp e.os e.tape e.output e.size fun c hc => e.keep c (Nat.lt_of_lt_of_le hc h.kp.size) (by simp)⟩
theorem LS.store (h : LS E w0 w b3 W I B F ρ l lb) (e : Evo [b3] w w') (hk : Go.Proofs.YtdnahdcjnahfkaaGreatDoor.Blk w' b3 l 41) : LS E w0 w' b3 W I B F ρ l l := by
  refine ⟨⟨h.st_.none_, lay_same h.st_.lay fun q L hq => e.keep L.b (h.st_.lt hq) (by simpa using (h.own q L hq).2), h.st_.val⟩, h.len, h.one, hk, h.len, h.own, h.old, Keeps.then_ h.kp e.os e.tape e.output e.size fun c hc => e.keep c (Nat.lt_of_lt_of_le hc h.kp.size) ?_⟩
  have := h.old
  simp only [List.mem_singleton]; omega
/-- Behind a call. -/
theorem LS.called {ρ1 : Nat → Option Loc} {u : Value} (h : LS E w0 w b3 W I B F ρ l lb) (hF : FrK w w' ρ) (hL : LayIn E ρ1 w' (bl W I B F ++ bl W' I' B' F')) (hv : VR E ρ1 (st (cnt W I B F) W' I' B' F') u) (hn : ∀ q L, (bl W I B F).length ≤ q → ρ1 q = some L → w.heap.size ≤ L.b ∧ q < (bl W I B F ++ bl W' I' B' F').length)
    (pW : PlainL W') (pI : PlainL I') (pB : PlainL B') (pF : PlainL F') : ∃ ρ' l', u = .agg l'.toArray ∧ LS E w0 w' b3 W' I' B' F' ρ' l' lb := by
  rw [cnt_eq] at hv
  obtain ⟨ρ', hS, hge⟩ := st_next hL hv hn pW pI pB pF
  obtain ⟨l', rfl, h1, h2⟩ := st_cells hS.val
  have hlt := h.blk.lt
  refine ⟨ρ', l', rfl, hS, h1, h2, ?_, h.lenb, fun q L hq => ?_, h.old, Keeps.then_ h.kp hF.os hF.tape hF.output hF.size fun c hc => hF.keep c (Nat.lt_of_lt_of_le hc h.kp.size) fun q L hq => ?_⟩
  · exact (hF.keep b3 hlt fun q L hq => (h.own q L hq).2).trans h.blk
  · have := hge q L hq; have := h.kp.size; exact ⟨by omega, by omega⟩
  · have := (h.own q L hq).1; omega
theorem LS.keepsCall (h : LS E w0 w b3 W I B F ρ l lb) (hF : FrK w w' ρ) : Keeps w0 w' := Keeps.then_ h.kp hF.os hF.tape hF.output hF.size fun c hc => hF.keep c (Nat.lt_of_lt_of_le hc h.kp.size) fun q L hq => by have := (h.own q L hq).1; omega

/-! ### How long the rows are -/
theorem tak_len : ∀ (l : List AV) (n : Nat), (tak l n).length = min n l.length
  | [], n => by show 0 = _; simp
  | x :: l, 0 => by show 0 = _; simp
  | x :: l, n + 1 => by show (tak l n).length + 1 = _; rw [tak_len l n, List.length_cons]; omega
theorem drp_len : ∀ (l : List AV) (n : Nat), (drp l n).length = l.length - n
  | [], n => by show 0 = _; simp
  | x :: l, 0 => rfl
  | x :: l, n + 1 => by show (drp l n).length = _; rw [drp_len l n, List.length_cons]; omega
theorem mk_len : mk.length = 80 := by kernel_rfl
theorem bU_len {k j : Nat} (hk : k < 80) (hj : j ≤ mn k) : (bU k j).length = mn k - j := by
  have hm : mn k = k - (k - 64) := rfl
  have : (bU k j).length = min (k - j - (k - 64)) (80 - (k - 64)) := by
    show (tak (drp mk (k - 64)) (k - j - (k - 64))).length = _
    rw [tak_len, drp_len, mk_len]
  omega
theorem da_nth : ∀ i, i < 79 → nth da i = .str [48 + i / 26, 97 + i % 26] := by
  have h : (List.range 79).all (fun i => match nth da i with | .str [a, b] => Nat.beq a (48 + i / 26) && Nat.beq b (97 + i % 26) | _ => false) = true := by kernel_rfl
  intro i hi
  have := List.all_eq_true.1 h i (List.mem_range.2 hi)
  revert this
  match nth da i with
  | .str [a, b] =>
    intro this
    simp only [Bool.and_eq_true] at this
    rw [Nat.eq_of_beq_eq_true this.1, Nat.eq_of_beq_eq_true this.2]
  | .str [] => intro this; cases this
  | .str [_] => intro this; cases this
  | .str (_ :: _ :: _ :: _) => intro this; cases this
  | .bool _ => intro this; cases this
  | .int _ _ => intro this; cases this
  | .sym _ _ => intro this; cases this
  | .opq _ _ => intro this; cases this
  | .ptr _ _ => intro this; cases this
  | .nilp => intro this; cases this
  | .glob _ => intro this; cases this
  | .sl _ _ _ _ _ _ => intro this; cases this
  | .nils => intro this; cases this
  | .empt => intro this; cases this
  | .fn _ _ _ => intro this; cases this
  | .nilf => intro this; cases this
  | .ifc _ _ => intro this; cases this
  | .nili => intro this; cases this
  | .agg _ => intro this; cases this
  | .tup _ => intro this; cases this
  | .any => intro this; cases this
  | .atl _ _ => intro this; cases this
theorem two_bytes {a b : Nat} (ha : a < 256) (hb : b < 256) : strOfNums [(a : Int), (b : Int)] = E.bytes [a, b] := by
  simp [strOfNums, Env.bytes, Env.byte, ha, hb]
/-- The state at first. -/
noncomputable def newE : Ent := ⟨[], [], st 0 [] [] [] [], []⟩
theorem has5 : FnHas Tryz.prog 5 := ⟨_, Tryz.func5, by kernel_rfl, by kernel_rfl⟩
theorem newR : manyK Tryz.prog ⟨[], false⟩ 5000 60 fl (ol ⟨[], false⟩ (fun i => i)) ml 5 (fun _ => newE) 0 1 = true := by kernel_rfl
theorem new_ok : EntOk Tryz.prog E 5 newE := manyK_ok (E := E) hF0 (by kernel_rfl) fl_of (ol_of hF0) ml_of has5 newR 0 (Nat.le_refl _) (by decide)
end
end TopLong
end Go.Proofs.YtdnahdcjnahfkaaGreatDoor.Ev
namespace Go.Proofs.YtdnahdcjnahfkaaGreatDoor
open Go Go.Proofs

/-- An empty state. -/
def stateZero : List Value := [.slice none 0 0, .slice none 0 0, .slice none 0 0, .string (ByteArray.mk #[]), .int .i64 0, .string (ByteArray.mk #[]), .int .i64 0, .string (ByteArray.mk #[]), .slice none 0 0, .slice none 0 0, .int .i64 0, .string (ByteArray.mk #[]), .string (ByteArray.mk #[]), .int .i64 0, .slice none 0 0, .slice none 0 0, .slice none 0 0, .slice none 0 0, .slice none 0 0, .slice none 0 0, .int .i64 0]
theorem stateCells {l : List Value} (h : l.length = 21) : (Value.agg l.toArray).cells.size = 21 := by show l.toArray.size = 21; simp [h]
/-- The variable's state is loaded. -/
theorem x_ldS {n : Nat} {f : Nat → Value} {u : List (Nat × Value)} {w : World} {dst : Option Tmp} {ty : TypeId} {pos : String} {aft : Array Edge} {gd : Option (Nat × Bool)} {x : Operand} {b : Nat} {l : List Value} (hB : Blk w b l 41) (hl : l.length = 21) (hx : evf n f u x = .pointer (some ⟨b, 0, none⟩)) :
    (execOp (evf n f u) ⟨dst, .load 41 x, ty, pos, aft, gd⟩).run Tryz.prog w = .ok (.value (.agg l.toArray)) w :=
  x_loadN l hx Tryz.isAgg41 (fun w => by rw [hl]; exact Tryz.sizeOf41 w) (hB.cells' 0 (by simp))
section
variable {ops : Array Oper} {Q : Exit → Act → World → Prop} {n : Nat} {f : Nat → Value} {u : List (Nat × Value)} {w : World} {next : Act → World → Prop}
variable {dst : Option Tmp} {ty : TypeId} {pos : String} {aft : Array Edge} {gd : Option (Nat × Bool)}
/-- .. and stored. -/
theorem o_stS21 {x y : Operand} {b : Nat} {lo l : List Value} (hg : Region.wanted ⟨dst, .store 41 x y, ty, pos, aft, gd⟩ (yielded ops (Fr n f u).tmps) = true) (hB : Blk w b lo 41) (hlo : lo.length = 21) (hl : l.length = 21) (h1 : ∀ v ∈ l, v.oneCell' = true)
    (hx : evf n f u x = .pointer (some ⟨b, 0, none⟩)) (hy : evf n f u y = .agg l.toArray) (h : ∀ w', Evo [b] w w' → Blk w' b l 41 → next (Fr n f (pusho dst undef u)) w') : OpW Tryz.prog ops Q ⟨dst, .store 41 x y, ty, pos, aft, gd⟩ n f u w next := by
  have hc : (Value.agg l.toArray).cells = l.toArray := rfl
  refine o_store (o := 0) (v := .agg l.toArray) l hg hB hx hy (fun w => by rw [stateCells hl]; exact Tryz.sizeOf41 w) (by rw [stateCells hl, hlo]; rfl) (by rw [hc]; simpa using h1) ?_ h
  rw [hc]
  simp [hl, hlo]
end
theorem wrap8 {a : Int} (h0 : 0 ≤ a) (h1 : a ≤ 255) : IntKind.u8.wrap a = a := wrap_inR (inR_u8.2 ⟨h0, h1⟩)
theorem wrap64 {a : Int} (h0 : 0 ≤ a) (h1 : a ≤ 1000) : IntKind.i64.wrap a = a := wrap_inR (inR_i64.2 ⟨by omega, by omega⟩)
open Ev.TopLong in
set_option maxRecDepth 20000 in
set_option maxHeartbeats 4000000 in
theorem topLong_calls (a : Nat) (ha : a ≤ 255) (w0 : World) : Calls Tryz.prog 3 #[.int .u8 (a : Int)] w0 (Ev.Ret fun v w' => v = .bool true ∧ Ev.Keeps w0 w') := by
  let E : Ev.Env := Ev.envOf [] (by simp)
  obtain ⟨k, hk, hk80⟩ : ∃ k, k = a % 80 ∧ k < 80 := ⟨_, rfl, Nat.mod_lt a (by decide)⟩
  refine enter_ Tryz.func3 rfl 61 [(0, (.int .u8 (a : Int)))] (by kernel_rfl) (fun Qe hQ => ?_)
  refine seq_ (fun _ K0 => ?_)
  refine reg_ ?_
  refine sq (o_pv (.bool false) rfl (by kernel_rfl) ?_)
  refine nil_ ?_
  refine then_normal (K0 _ _ _ _ ?_)
  refine seq_ (fun _ K1 => ?_)
  refine seq_ (fun _ K2 => ?_)
  refine reg_ ?_
  refine sq (o_call 4 #[] rfl (x_call Tryz.call4 (by kernel_rfl)) (Ev.known_calls w0) ?_)
  rintro _ w1 ⟨rfl, kp1⟩
  refine sq (o_pv (.bool false) rfl (by kernel_rfl) ?_)
  refine nil_ ?_
  refine then_normal (K2 _ _ _ _ ?_)
  refine cond_f (by kernel_rfl) ?_
  refine wp_skip ?_
  refine then_normal (K1 _ _ _ _ ?_)
  refine seq_ (fun _ K3 => ?_)
  refine reg_ ?_
  have hnew := new_ok (E := E) (fun _ => none) w1 [] (fun _ _ => rfl) ⟨fun q cs hq => (by cases hq), fun q q' L L' hq => (by cases hq)⟩ Ev.VRs.nil
  refine sq (o_call 5 #[] rfl (x_call Tryz.call5 (by kernel_rfl)) hnew ?_)
  rintro v w2 ⟨ρ, _, hn2, hl2, hv2, e1, e2, e3, e4, e5, e6⟩
  have hS2 : StIn E w2 [] [] [] [] ρ v := ⟨fun q _ => hn2 q (Nat.zero_le _), hl2, hv2⟩
  obtain ⟨l, rfl, hl21, hl1⟩ := st_cells hS2.val
  have kp2 : Ev.Keeps w0 w2 := Keeps.then_ kp1 e1 e2 e3 e4 fun b hb => e5 b (Nat.lt_of_lt_of_le hb kp1.size) fun q L hq => (by cases hq)
  refine sq (o_new stateZero 41 rfl (by kernel_rfl) fun b3 w3 hb3 he3 hk3 => ?_)
  refine sq (o_stS21 rfl hk3 rfl hl21 hl1 (by kernel_rfl) (by kernel_rfl) fun w4 he4 hk4 => ?_)
  have hge3 : w0.heap.size ≤ b3 := by rw [hb3]; exact kp2.size
  have L4 : LS E w0 w4 b3 [] [] [] [] ρ l l := by
    have hno : ∀ q L, ρ q = some L → False := fun q L hq => by rw [hn2 q (Nat.zero_le _)] at hq; cases hq
    refine ⟨⟨fun q _ => hn2 q (Nat.zero_le _), lay_same hl2 fun q L hq => (hno q L hq).elim, hv2⟩, hl21, hl1, hk4, hl21, fun q L hq => (hno q L hq).elim, hge3, ?_⟩
    refine Keeps.then_ (Keeps.then_ kp2 he3.os he3.tape he3.output he3.size fun b hb => he3.keep b (Nat.lt_of_lt_of_le hb kp2.size) (by simp)) he4.os he4.tape he4.output he4.size fun b hb => he4.keep b (Nat.lt_of_lt_of_le (Nat.lt_of_lt_of_le hb kp2.size) he3.size) ?_
    simp only [List.mem_singleton]; omega
  refine nil_ ?_
  refine then_normal (K3 _ _ _ _ ?_)
  refine seq_ (fun _ K4 => ?_)
  refine reg_ ?_
  refine sq (o_pv (.int .u8 (a : Int)) rfl (by kernel_rfl) ?_)
  refine sq (o_pv (.int .u8 (k : Int)) rfl (x_rem (k := .u8) (a := (a : Int)) (b := (80 : Int)) (k : Int) (by kernel_rfl) (by kernel_rfl) (by omega) (by omega) (by rw [hk]; omega)) ?_)
  refine sq (o_pv (.int .i64 (k : Int)) rfl (x_conv (k := .u8) (k' := .i64) (a := (k : Int)) Tryz.underlying5 Tryz.underlying3 (by kernel_rfl) (wrap64 (by omega) (by omega))) ?_)
  refine sq (o_pv (.int .i64 (k : Int)) rfl (by kernel_rfl) ?_)
  refine nil_ ?_
  refine then_normal (K4 _ _ _ _ ?_)
  refine seq_ (fun _ K5 => ?_)
  refine seq_ (fun _ K6 => ?_)
  refine reg_ ?_
  refine sq (o_pv (.int .i64 (0 : Int)) rfl (by kernel_rfl) ?_)
  refine nil_ ?_
  refine then_normal (K6 _ _ _ _ ?_)
  refine wp_block ?_
  refine loop_ 8796092760292 (fun kq lq w => ∃ (i : Nat) (ρ : Nat → Option Ev.Loc) (l : List Value), (lq = [(5, (.int .i64 (i : Int)))]) ∧ (kq = k - i) ∧ i ≤ k ∧ LS E w0 w b3 (wkK i) (ixK i) (back i) [] ρ l l) k [(5, (.int .i64 (0 : Int)))] (vs_cons (by kernel_rfl) vs_nil) ⟨0, ρ, l, rfl, rfl, Nat.zero_le _, L4⟩ ?_
  rintro _ _ w g ⟨i, ρ, l, rfl, rfl, hi, L⟩ Kl hA
  refine seq_ (fun _ K7 => ?_)
  refine seq_ (fun _ K8 => ?_)
  refine reg_ ?_
  refine sq (o_pv (.int .i64 (i : Int)) rfl (by kernel_rfl) ?_)
  refine sq (o_pv (.int .i64 (k : Int)) rfl (by kernel_rfl) ?_)
  by_cases hlt : (i : Int) < (k : Int)
  · refine sq (o_pv (.bool true) rfl (x_dt (p := (i : Int) < (k : Int)) (by kernel_rfl) hlt) ?_)
    refine nil_ ?_
    refine then_normal (K8 _ _ _ _ ?_)
    refine cond_t (by kernel_rfl) ?_
    refine wp_skip ?_
    refine then_normal (K7 _ _ _ _ ?_)
    refine seq_ (fun _ K9 => ?_)
    refine wp_block ?_
    refine seq_ (fun _ K10 => ?_)
    refine reg_ ?_
    have hik : i < k := by omega
    refine sq (o_pv (.agg l.toArray) rfl (x_ldS L.blk L.len (by kernel_rfl)) ?_)
    refine sq (o_pv (.int .i64 (i : Int)) rfl (by kernel_rfl) ?_)
    refine sq (o_pv (.int .i64 ((i / 26 : Nat) : Int)) rfl (x_quo (k := .i64) (a := (i : Int)) (b := (26 : Int)) ((i / 26 : Nat) : Int) (by kernel_rfl) (by kernel_rfl) (by omega) (by omega) (by omega) (wrap64 (by omega) (by omega))) ?_)
    refine sq (o_pv (.int .i64 ((48 + i / 26 : Nat) : Int)) rfl (x_add (k := .i64) (a := (48 : Int)) (b := ((i / 26 : Nat) : Int)) ((48 + i / 26 : Nat) : Int) (by kernel_rfl) (by kernel_rfl) (by omega) (wrap64 (by omega) (by omega))) ?_)
    refine sq (o_pv (.int .u8 ((48 + i / 26 : Nat) : Int)) rfl (x_conv (k := .i64) (k' := .u8) (a := ((48 + i / 26 : Nat) : Int)) Tryz.underlying3 Tryz.underlying5 (by kernel_rfl) (wrap8 (by omega) (by omega))) ?_)
    refine sq (o_pv (.int .i64 (i : Int)) rfl (by kernel_rfl) ?_)
    refine sq (o_pv (.int .i64 ((i % 26 : Nat) : Int)) rfl (x_rem (k := .i64) (a := (i : Int)) (b := (26 : Int)) ((i % 26 : Nat) : Int) (by kernel_rfl) (by kernel_rfl) (by omega) (by omega) (by omega)) ?_)
    refine sq (o_pv (.int .i64 ((97 + i % 26 : Nat) : Int)) rfl (x_add (k := .i64) (a := (97 : Int)) (b := ((i % 26 : Nat) : Int)) ((97 + i % 26 : Nat) : Int) (by kernel_rfl) (by kernel_rfl) (by omega) (wrap64 (by omega) (by omega))) ?_)
    refine sq (o_pv (.int .u8 ((97 + i % 26 : Nat) : Int)) rfl (x_conv (k := .i64) (k' := .u8) (a := ((97 + i % 26 : Nat) : Int)) Tryz.underlying3 Tryz.underlying5 (by kernel_rfl) (wrap8 (by omega) (by omega))) ?_)
    refine sq (o_row [.int .u8 ((48 + i / 26 : Nat) : Int), .int .u8 ((97 + i % 26 : Nat) : Int)] 5 2 rfl (by kernel_rfl) fun b5 w5 hb5 he5 hk5 => ?_)
    have L5 := L.more he5
    refine sq (o_pv (.string (strOfNums [((48 + i / 26 : Nat) : Int), ((97 + i % 26 : Nat) : Int)])) rfl (x_b2s (c := 2) [((48 + i / 26 : Nat) : Int), ((97 + i % 26 : Nat) : Int)] Tryz.underlying44 Tryz.underlying5 Tryz.underlying9 (by kernel_rfl) rfl (hk5.cells' 0 rfl)) ?_)
    have hdat : Ev.VR E (fun _ => none) (nth da i) (.string (strOfNums [((48 + i / 26 : Nat) : Int), ((97 + i % 26 : Nat) : Int)])) := by
      rw [da_nth i (by omega), two_bytes (E := E) (by omega) (by omega)]
      simp only [Ev.VR]
    have hw := st_call (vs := [.string (ByteArray.mk #[102]), .string (strOfNums [((48 + i / 26 : Nat) : Int), ((97 + i % 26 : Nat) : Int)])]) (wr_all (E := E) i (by omega)) L5.st_ fun ρ => Ev.VRs.cons (by simp only [Ev.VR]; rfl) (Ev.VRs.cons (plain_vr (nth_plain da_plain i) hdat) Ev.VRs.nil)
    refine sq (o_call 6 #[.agg l.toArray, .string (ByteArray.mk #[102]), .string (strOfNums [((48 + i / 26 : Nat) : Int), ((97 + i % 26 : Nat) : Int)])] rfl (x_call Tryz.call6 (by kernel_rfl)) hw ?_)
    rintro u6 w6 ⟨hF6, ρ6, hL6, hv6, hn6⟩
    obtain ⟨ρ6', l6, rfl, L6⟩ := L5.called hF6 hL6 hv6 hn6 (wk_plain i) (ixK_plain i) (back_plain i) nil_plain
    refine sq (o_stS21 rfl L6.blk L6.lenb L6.len L6.one (by kernel_rfl) (by kernel_rfl) fun w7 he7 hk7 => ?_)
    have L7 := L6.store he7 hk7
    refine nil_ ?_
    refine then_normal (K10 _ _ _ _ ?_)
    refine seq_ (fun _ K11 => ?_)
    refine reg_ ?_
    refine sq (o_pv (.agg l6.toArray) rfl (x_ldS L7.blk L7.len (by kernel_rfl)) ?_)
    have hw8 := st_call (vs := [.string (ByteArray.mk #[97, 100, 100])]) (add_all (E := E) i (by omega)) L7.st_ fun ρ => Ev.VRs.cons (by simp only [Ev.VR]; rfl) Ev.VRs.nil
    refine sq (o_call 7 #[.agg l6.toArray, .string (ByteArray.mk #[97, 100, 100])] rfl (x_call Tryz.call7 (by kernel_rfl)) hw8 ?_)
    rintro u8 w8 ⟨hF8, ρ8, hL8, hv8, hn8⟩
    simp only [Ev.VR, Ev.VRs] at hv8
    obtain ⟨_, ⟨v8, _, hv8, ⟨_, _, rfl, rfl, rfl⟩, rfl⟩, rfl⟩ := hv8
    obtain ⟨ρ8', l8, rfl, L8⟩ := L7.called hF8 hL8 hv8 hn8 (wk_plain i) (ix_plain i) (back_plain (Nat.succ i)) nil_plain
    refine sq (o_pv (.tuple #[.agg l8.toArray, .nilIface]) rfl (by kernel_rfl) ?_)
    refine sq (o_pv (.agg l8.toArray) rfl (by kernel_rfl) ?_)
    refine sq (o_pv .nilIface rfl (by kernel_rfl) ?_)
    refine sq (o_new stateZero 41 rfl (by kernel_rfl) fun b9 w9 hb9 he9 hk9 => ?_)
    have L9 := L8.more he9
    have n9 : b9 ≠ b3 := by have := L8.blk.lt; omega
    have r9 : ∀ q L, ρ8' q = some L → L.b ≠ b9 := fun q L hq => by have := L8.st_.lt hq; omega
    have o9 : w0.heap.size ≤ b9 := by have := L8.kp.size; omega
    refine sq (o_stS21 rfl hk9 rfl L9.len L9.one (by kernel_rfl) (by kernel_rfl) fun w10 he10 hk10 => ?_)
    have L10 := L9.other he10 n9 o9 r9
    refine sq (o_pv .nilIface rfl (by kernel_rfl) ?_)
    refine nil_ ?_
    refine then_normal (K11 _ _ _ _ ?_)
    refine seq_ (fun _ K12 => ?_)
    refine seq_ (fun _ K13 => ?_)
    refine reg_ ?_
    refine sq (o_pv .nilIface rfl (by kernel_rfl) ?_)
    refine sq (o_pv (.bool false) rfl (x_nilnil_ne Tryz.underlying46 (by kernel_rfl) (by kernel_rfl)) ?_)
    refine nil_ ?_
    refine then_normal (K13 _ _ _ _ ?_)
    refine cond_f (by kernel_rfl) ?_
    refine wp_skip ?_
    refine then_normal (K12 _ _ _ _ ?_)
    refine reg_ ?_
    refine sq (o_pv (.agg l8.toArray) rfl (x_ldS hk10 L9.len (by kernel_rfl)) ?_)
    refine sq (o_stS21 rfl L10.blk L10.lenb L10.len L10.one (by kernel_rfl) (by kernel_rfl) fun w11 he11 hk11 => ?_)
    have L11 := L10.store he11 hk11
    refine nil_ ?_
    refine blk_normal ?_
    refine then_normal (K9 _ _ _ _ ?_)
    refine reg_ ?_
    refine sq (o_pv (.int .i64 (i : Int)) rfl (by kernel_rfl) ?_)
    refine sq (o_pv (.int .i64 ((i + 1 : Nat) : Int)) rfl (x_add (k := .i64) (a := (i : Int)) (b := (1 : Int)) ((i + 1 : Nat) : Int) (by kernel_rfl) (by kernel_rfl) (by omega) (wrap64 (by omega) (by omega))) ?_)
    refine sq (o_pv (.int .i64 ((i + 1 : Nat) : Int)) rfl (by kernel_rfl) ?_)
    refine nil_ ?_
    exact hA _ _ _ ⟨k - (i + 1), [(5, (.int .i64 ((i + 1 : Nat) : Int)))], by omega, fit_mk (AgB.mix _ _ _) (by kernel_rfl) (vs_cons (by kernel_rfl) vs_nil), i + 1, ρ8', l8, rfl, rfl, hik, L11⟩
  · refine sq (o_pv (.bool false) rfl (x_df (p := (i : Int) < (k : Int)) (by kernel_rfl) hlt) ?_)
    refine nil_ ?_
    refine then_normal (K8 _ _ _ _ ?_)
    refine cond_f (by kernel_rfl) ?_
    refine wp_exit ?_
    refine then_exit ?_
    refine then_exit ?_
    refine blk_exit ?_
    have hik : i = k := by omega
    subst hik
    refine then_normal (K5 _ _ _ _ ?_)
    refine seq_ (fun _ K14 => ?_)
    refine reg_ ?_
    refine sq (o_pv (.int .i64 (0 : Int)) rfl (by kernel_rfl) ?_)
    refine nil_ ?_
    refine then_normal (K14 _ _ _ _ ?_)
    refine seq_ (fun _ K15 => ?_)
    refine wp_block ?_
    have hmn : mn i = i - (i - 64) := rfl
    refine loop_ 36020000925943556 (fun kq lq w => ∃ (j : Nat) (ρ : Nat → Option Ev.Loc) (l : List Value), (lq = [(8, (.int .i64 (j : Int)))]) ∧ (kq = mn i - j) ∧ j ≤ mn i ∧ LS E w0 w b3 (wU i j) (iU i j) (bU i j) (fU i j) ρ l l) (mn i) [(8, (.int .i64 (0 : Int)))] (vs_cons (by kernel_rfl) vs_nil) ⟨0, ρ, l, rfl, rfl, Nat.zero_le _, L⟩ ?_
    rintro _ _ w g2 ⟨j, ρ, l, rfl, rfl, hj, L⟩ Kl2 hA2
    refine wp_block ?_
    refine seq_ (fun _ K16 => ?_)
    refine reg_ ?_
    refine sq (o_pv (.agg l.toArray) rfl (x_ldS L.blk L.len (by kernel_rfl)) ?_)
    have hU := undo_all (E := E) i hk80 j (by omega)
    have hlen := bU_len hk80 hj
    cases hb : bU i j with
    | cons x r =>
      have hjm : j < mn i := by rw [hb, List.length_cons] at hlen; omega
      have hU2 : Ev.EntOk Tryz.prog E 7 ⟨[st 0 (wU i j) (iU i j) (bU i j) (fU i j), .str [117, 110, 100, 111]], bl (wU i j) (iU i j) (bU i j) (fU i j), .tup [st (cnt (wU i j) (iU i j) (bU i j) (fU i j)) (wU i (Nat.succ j)) (iU i (Nat.succ j)) (bU i (Nat.succ j)) (fU i (Nat.succ j)), .nili], bl (wU i (Nat.succ j)) (iU i (Nat.succ j)) (bU i (Nat.succ j)) (fU i (Nat.succ j))⟩ := by
        unfold undoE at hU
        rw [hb] at hU ⊢
        exact hU
      have hw8 := st_call (vs := [.string (ByteArray.mk #[117, 110, 100, 111])]) hU2 L.st_ fun ρ => Ev.VRs.cons (by simp only [Ev.VR]; rfl) Ev.VRs.nil
      refine sq (o_call 7 #[.agg l.toArray, .string (ByteArray.mk #[117, 110, 100, 111])] rfl (x_call Tryz.call7 (by kernel_rfl)) hw8 ?_)
      rintro u8 w8 ⟨hF8, ρ8, hL8, hv8, hn8⟩
      simp only [Ev.VR, Ev.VRs] at hv8
      obtain ⟨_, ⟨v8, _, hv8, ⟨_, _, rfl, rfl, rfl⟩, rfl⟩, rfl⟩ := hv8
      obtain ⟨ρ8', l8, rfl, L8⟩ := L.called hF8 hL8 hv8 hn8 (wU_plain i _) (iU_plain i _) (bU_plain i _) (fU_plain i _)
      refine sq (o_pv (.tuple #[.agg l8.toArray, .nilIface]) rfl (by kernel_rfl) ?_)
      refine sq (o_pv (.agg l8.toArray) rfl (by kernel_rfl) ?_)
      refine sq (o_pv .nilIface rfl (by kernel_rfl) ?_)
      refine sq (o_new stateZero 41 rfl (by kernel_rfl) fun b9 w9 hb9 he9 hk9 => ?_)
      have L9 := L8.more he9
      have n9 : b9 ≠ b3 := by have := L8.blk.lt; omega
      have r9 : ∀ q L, ρ8' q = some L → L.b ≠ b9 := fun q L hq => by have := L8.st_.lt hq; omega
      have o9 : w0.heap.size ≤ b9 := by have := L8.kp.size; omega
      refine sq (o_stS21 rfl hk9 rfl L9.len L9.one (by kernel_rfl) (by kernel_rfl) fun w10 he10 hk10 => ?_)
      have L10 := L9.other he10 n9 o9 r9
      refine sq (o_pv .nilIface rfl (by kernel_rfl) ?_)
      refine nil_ ?_
      refine then_normal (K16 _ _ _ _ ?_)
      refine seq_ (fun _ K17 => ?_)
      refine seq_ (fun _ K18 => ?_)
      refine reg_ ?_
      refine sq (o_pv .nilIface rfl (by kernel_rfl) ?_)
      refine sq (o_pv (.bool false) rfl (x_nilnil_ne Tryz.underlying46 (by kernel_rfl) (by kernel_rfl)) ?_)
      refine nil_ ?_
      refine then_normal (K18 _ _ _ _ ?_)
      refine cond_f (by kernel_rfl) ?_
      refine wp_skip ?_
      refine then_normal (K17 _ _ _ _ ?_)
      refine seq_ (fun _ K19 => ?_)
      refine reg_ ?_
      refine sq (o_pv (.agg l8.toArray) rfl (x_ldS hk10 L9.len (by kernel_rfl)) ?_)
      refine sq (o_stS21 rfl L10.blk L10.lenb L10.len L10.one (by kernel_rfl) (by kernel_rfl) fun w11 he11 hk11 => ?_)
      have L11 := L10.store he11 hk11
      refine nil_ ?_
      refine then_normal (K19 _ _ _ _ ?_)
      refine seq_ (fun _ K20 => ?_)
      refine reg_ ?_
      refine sq (o_pv (.int .i64 (j : Int)) rfl (by kernel_rfl) ?_)
      refine sq (o_pv (.int .i64 ((j + 1 : Nat) : Int)) rfl (x_add (k := .i64) (a := (j : Int)) (b := (1 : Int)) ((j + 1 : Nat) : Int) (by kernel_rfl) (by kernel_rfl) (by omega) (wrap64 (by omega) (by omega))) ?_)
      refine sq (o_pv (.int .i64 ((j + 1 : Nat) : Int)) rfl (by kernel_rfl) ?_)
      refine nil_ ?_
      refine then_normal (K20 _ _ _ _ ?_)
      refine seq_ (fun _ K21 => ?_)
      refine reg_ ?_
      refine sq (o_pv (.int .i64 ((j + 1 : Nat) : Int)) rfl (by kernel_rfl) ?_)
      refine sq (o_pv (.bool false) rfl (x_df (p := ((j + 1 : Nat) : Int) > (100 : Int)) (by kernel_rfl) (by omega)) ?_)
      refine nil_ ?_
      refine then_normal (K21 _ _ _ _ ?_)
      refine cond_f (by kernel_rfl) ?_
      refine wp_skip ?_
      refine blk_normal ?_
      exact hA2 _ _ _ ⟨mn i - (j + 1), [(8, (.int .i64 ((j + 1 : Nat) : Int)))], by omega, fit_mk (AgB.mix _ _ _) (by kernel_rfl) (vs_cons (by kernel_rfl) vs_nil), j + 1, ρ8', l8, rfl, rfl, hjm, L11⟩
    | nil =>
      have hjm : j = mn i := by rw [hb, List.length_nil] at hlen; omega
      obtain ⟨out, hU2⟩ : ∃ out, Ev.EntOk Tryz.prog E 7 ⟨[st 0 (wU i j) (iU i j) (bU i j) (fU i j), .str [117, 110, 100, 111]], bl (wU i j) (iU i j) (bU i j) (fU i j), .tup [st (cnt (wU i j) (iU i j) (bU i j) (fU i j)) (wU i j) (iU i j) (bU i j) (fU i j), .ifc 70 (.ptr (Nat.mul 2 (cnt (wU i j) (iU i j) (bU i j) (fU i j))) 0)], out⟩ := by
        unfold undoE at hU
        rw [hb] at hU ⊢
        exact ⟨_, hU⟩
      have hw8 := st_call (vs := [.string (ByteArray.mk #[117, 110, 100, 111])]) hU2 L.st_ fun ρ => Ev.VRs.cons (by simp only [Ev.VR]; rfl) Ev.VRs.nil
      refine sq (o_call 7 #[.agg l.toArray, .string (ByteArray.mk #[117, 110, 100, 111])] rfl (x_call Tryz.call7 (by kernel_rfl)) hw8 ?_)
      rintro u8 w8 ⟨hF8, ρ8, hL8, hv8, hn8⟩
      have kp8 := L.keepsCall hF8
      simp only [Ev.VR, Ev.VRs] at hv8
      obtain ⟨_, ⟨v8, _, hv8, ⟨_, _, ⟨x8, _, rfl⟩, rfl, rfl⟩, rfl⟩, rfl⟩ := hv8
      obtain ⟨l8, rfl, hl8, ho8⟩ := st_cells hv8
      refine sq (o_pv (.tuple #[.agg l8.toArray, .iface 70 x8]) rfl (by kernel_rfl) ?_)
      refine sq (o_pv (.agg l8.toArray) rfl (by kernel_rfl) ?_)
      refine sq (o_pv (.iface 70 x8) rfl (by kernel_rfl) ?_)
      refine sq (o_new stateZero 41 rfl (by kernel_rfl) fun b9 w9 hb9 he9 hk9 => ?_)
      have kp9 : Ev.Keeps w0 w9 := Keeps.then_ kp8 he9.os he9.tape he9.output he9.size fun b hb => he9.keep b (Nat.lt_of_lt_of_le hb kp8.size) (by simp)
      refine sq (o_stS21 rfl hk9 rfl hl8 ho8 (by kernel_rfl) (by kernel_rfl) fun w10 he10 hk10 => ?_)
      have kp10 : Ev.Keeps w0 w10 := Keeps.then_ kp9 he10.os he10.tape he10.output he10.size fun b hb => he10.keep b (Nat.lt_of_lt_of_le hb kp9.size) (by have := kp8.size; simp only [List.mem_singleton]; omega)
      refine sq (o_pv (.iface 70 x8) rfl (by kernel_rfl) ?_)
      refine nil_ ?_
      refine then_normal (K16 _ _ _ _ ?_)
      refine seq_ (fun _ K17 => ?_)
      refine seq_ (fun _ K18 => ?_)
      refine reg_ ?_
      refine sq (o_pv (.iface 70 x8) rfl (by kernel_rfl) ?_)
      refine sq (o_pv (.bool true) rfl (x_inil_ne (tp := 70) (v := x8) Tryz.underlying46 (by kernel_rfl) (by kernel_rfl)) ?_)
      refine nil_ ?_
      refine then_normal (K18 _ _ _ _ ?_)
      refine cond_t (by kernel_rfl) ?_
      refine wp_exit ?_
      refine then_exit ?_
      refine blk_exit_ne rfl ?_
      refine then_exit ?_
      refine blk_exit ?_
      refine then_normal (K15 _ _ _ _ ?_)
      refine seq_ (fun _ K22 => ?_)
      refine reg_ ?_
      refine sq (o_pv (.int .i64 (i : Int)) rfl (by kernel_rfl) ?_)
      refine sq (o_pv (.int .i64 (i : Int)) rfl (by kernel_rfl) ?_)
      refine nil_ ?_
      refine then_normal (K22 _ _ _ _ ?_)
      refine seq_ (fun _ K23 => ?_)
      refine seq_ (fun _ K24 => ?_)
      refine reg_ ?_
      refine sq (o_pv (.int .i64 (i : Int)) rfl (by kernel_rfl) ?_)
      by_cases h64 : (i : Int) > (64 : Int)
      · refine sq (o_pv (.bool true) rfl (x_dt (p := (i : Int) > (64 : Int)) (by kernel_rfl) h64) ?_)
        refine nil_ ?_
        refine then_normal (K24 _ _ _ _ ?_)
        refine cond_t (by kernel_rfl) ?_
        refine reg_ ?_
        refine sq (o_pv (.int .i64 (64 : Int)) rfl (by kernel_rfl) ?_)
        refine nil_ ?_
        refine then_normal (K23 _ _ _ _ ?_)
        refine seq_ (fun _ K25 => ?_)
        refine reg_ ?_
        refine sq (o_pv (.int .i64 (j : Int)) rfl (by kernel_rfl) ?_)
        refine sq (o_pv (.int .i64 (64 : Int)) rfl (by kernel_rfl) ?_)
        refine sq (o_pv (.bool true) rfl (x_dt (p := (j : Int) = (64 : Int)) (by kernel_rfl) (by omega)) ?_)
        refine sq (o_pv (.bool true) rfl (by kernel_rfl) ?_)
        refine nil_ ?_
        refine then_normal (K25 _ _ _ _ ?_)
        refine wp_ret ?_
        refine end_ret hQ (.bool true) (by kernel_rfl) ?_
        exact ⟨rfl, kp10⟩
      · refine sq (o_pv (.bool false) rfl (x_df (p := (i : Int) > (64 : Int)) (by kernel_rfl) h64) ?_)
        refine nil_ ?_
        refine then_normal (K24 _ _ _ _ ?_)
        refine cond_f (by kernel_rfl) ?_
        refine wp_skip ?_
        refine then_normal (K23 _ _ _ _ ?_)
        refine seq_ (fun _ K25 => ?_)
        refine reg_ ?_
        refine sq (o_pv (.int .i64 (j : Int)) rfl (by kernel_rfl) ?_)
        refine sq (o_pv (.int .i64 (i : Int)) rfl (by kernel_rfl) ?_)
        refine sq (o_pv (.bool true) rfl (x_dt (p := (j : Int) = (i : Int)) (by kernel_rfl) (by omega)) ?_)
        refine sq (o_pv (.bool true) rfl (by kernel_rfl) ?_)
        refine nil_ ?_
        refine then_normal (K25 _ _ _ _ ?_)
        refine wp_ret ?_
        refine end_ret hQ (.bool true) (by kernel_rfl) ?_
        exact ⟨rfl, kp10⟩
end Go.Proofs.YtdnahdcjnahfkaaGreatDoor
