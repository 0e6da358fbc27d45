/- The evaluator: what is left as it was; a whole run that ends in 'true'. It speaks of any program; nothing of the claim's own program stands here. -/
import Derived.Test.YtfgmmabggjjhgaaGreatDoorEvG
namespace Go.Proofs.YtfgmmabggjjhgaaGreatDoor.Ev
open Go

/-- What was there stays as it was. -/
structure Keeps (w w' : World) : Prop where
  os : w'.os = w.os
  tape : w'.tape = w.tape
  output : w'.output = w.output
  size : w.heap.size ≤ w'.heap.size
  keep : ∀ b, b < w.heap.size → w'.heap[b]? = w.heap[b]?
section
variable {E : Env} {ρ : Nat → Option Loc} {H : Heap} {w w' : World}
theorem Keeps.of_stp {ρ' : Nat → Option Loc} {H' : Heap} {nx nx' : Nat} (h : Stp ρ (T.l : T Blk).get w nx ρ' H' w' nx') : Keeps w w' :=
  ⟨h.os, h.tape, h.output, h.size, fun b hb => h.keep b hb fun i n t L hi => by rw [T.get_l] at hi; cases hi⟩
theorem Keeps.stp {nx : Nat} (h : Keeps w w') : Stp ρ H w nx ρ H w' nx :=
  ⟨Nat.le_refl _, fun i h1 h2 => by omega, fun _ _ => rfl, h.os, h.tape, h.output, h.size, fun b hb _ => h.keep b hb, fun i n t L h1 h2 => .inr ⟨i, n, t, L, h1, h2, rfl⟩⟩
theorem Keeps.inv (h : Keeps w w') (hI : Inv E ρ H w) : Inv E ρ H w' := by
  refine ⟨fun i n t hi => ?_, hI.inj⟩
  obtain ⟨L, hL, hb⟩ := hI.at_ i n t hi
  refine ⟨L, hL, ?_⟩
  have hlt := hb.lt
  obtain ⟨c, el, z, h1, h2⟩ := hb
  exact ⟨c, el, z, by rw [h.keep _ hlt]; exact h1, h2⟩
end

/-- Functions of the program, one by one. -/
theorem fns_nil {P : Program} : ∀ d ∈ ([] : List FnD), d.Of P := fun d hd => by cases hd
theorem fns_cons {P : Program} {i : Nat} {fn : Func} {o : List (Nat × List Nat)} {l : List FnD} (h : P.funcs[i]? = some fn) (hn : (fn.name == "runtime.NumGoroutine") = false) (hl : ∀ d ∈ l, d.Of P) : ∀ d ∈ (⟨i, fn, o⟩ : FnD) :: l, d.Of P := fun d hd => by
  rcases List.mem_cons.1 hd with rfl | hd
  · exact ⟨h, hn⟩
  · exact hl d hd
theorem orcs_nil {P : Program} {E : Env} {F : Facts} : ∀ p ∈ ([] : List (Nat × FnE)), FnRel P E F p.1 p.2 := fun d hd => by cases hd
theorem orcs_cons {P : Program} {E : Env} {F : Facts} {i : Nat} {e : FnE} {l : List (Nat × FnE)} (h : FnRel P E F i e) (hl : ∀ p ∈ l, FnRel P E F p.1 p.2) : ∀ p ∈ (i, e) :: l, FnRel P E F p.1 p.2 := fun p hp => by
  rcases List.mem_cons.1 hp with rfl | hp
  · exact h
  · exact hl p hp
def MixOk (P : Program) (E : Env) (p : Nat × (Orc → Orc)) : Prop := ∀ run, OrcOk P E p.1 run → OrcOk P E p.1 (p.2 run)
theorem mixs_nil {P : Program} {E : Env} : ∀ p ∈ ([] : List (Nat × (Orc → Orc))), MixOk P E p := fun d hd => by cases hd
theorem mixs_cons {P : Program} {E : Env} {p : Nat × (Orc → Orc)} {l : List (Nat × (Orc → Orc))} (h : MixOk P E p) (hl : ∀ p ∈ l, MixOk P E p) : ∀ q ∈ p :: l, MixOk P E q := fun q hq => by
  rcases List.mem_cons.1 hq with rfl | hq
  · exact h
  · exact hl q hq
/-- A run that ends in 'true', over any world. -/
theorem run_true {P : Program} {E : Env} {F : Facts} (hF : F.Of E) (hm : P.follows .mixedOrders = true) {fuel depth : Nat} {fns : List FnD} {orcs : List (Nat × FnE)} {mixs : List (Nat × (Orc → Orc))} (hfns : ∀ d ∈ fns, d.Of P) (horcs : ∀ p ∈ orcs, FnRel P E F p.1 p.2) (hmix : ∀ p ∈ mixs, MixOk P E p) {f : Nat} {as : List AV}
    (hf : FnHas P f) (hk : runMK P F fuel depth fns orcs mixs f as .l 0 isTrue = true) {vs : List Value} (hvs : VRs E (fun _ => none) as vs) (w : World) : Calls P f vs.toArray w (Ret fun v w' => v = .bool true ∧ Keeps w w') := by
  obtain ⟨r, h', nx', hk, _, _, hC⟩ := runMK_some (E := E) hF hm hfns horcs hmix hf hk (fun i _ => T.get_l i)
  replace hk := boolK_some hk
  obtain ⟨b, rfl, hk⟩ := hk
  have hb : b = true := hk
  subst hb
  have hI : Inv E (fun _ => none) (T.l : T Blk).get w := ⟨fun i n t hi => (by rw [T.get_l] at hi; cases hi), fun i j n t m u hi => (by rw [T.get_l] at hi; cases hi)⟩
  refine (hC (fun _ => none) w vs (fun _ _ _ => rfl) hI hvs).mono ?_
  rintro e w' ⟨v, rfl, ρ', s1, _, s3⟩
  refine ⟨v, rfl, ?_, Keeps.of_stp s1⟩
  simpa only [VR] using s3
/-- A function without arguments that always answers 'true'. -/
noncomputable def gTrue : Orc := fun as h nx k => @List.rec AV (fun _ => Bool) (k (.bool true) h nx) (fun _ _ _ => false) as
theorem true_orc {P : Program} {E : Env} {F : Facts} {f : Nat} (hf : FnHas P f) (hC : ∀ w, Calls P f #[] w (Ret fun v w' => v = .bool true ∧ Keeps w w')) : FnRel P E F f (.orc gTrue) := by
  refine .orc fun as h nx k hk hfr => ?_
  cases as with
  | cons _ _ => cases hk
  | nil =>
    refine ⟨_, h, nx, hk, hfr, Nat.le_refl _, .inl ⟨hf, fun ρ w vs _ hI hvs => ?_⟩⟩
    simp only [VRs] at hvs
    subst hvs
    refine (hC w).mono ?_
    rintro e w' ⟨v, rfl, rfl, hkp⟩
    exact ⟨_, rfl, ρ, hkp.stp, hkp.inv hI, by simp only [VR]⟩
end Go.Proofs.YtfgmmabggjjhgaaGreatDoor.Ev
