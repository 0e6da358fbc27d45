/- The evaluator: many calls after one set-up; data in normal form. It speaks of any program; nothing of the claim's own program stands here. -/
import Derived.Test.YtdnahdcjnahfkaaGreatDoorEvG
import Derived.Lib.Bytealg
import Derived.Laws.Externs
import Derived.Laws.Entries
import Derived.Lib.Builder
import Derived.Lib.MakeNoZero
import Derived.Lib.Overlaps
namespace Go.Proofs.YtdnahdcjnahfkaaGreatDoor.Ev
open Go

section
variable {P : Program} {E : Env} {F : Facts}
theorem atom_eq_some (hF : F.Of E) {x m : Nat} {c : Bool → Bool} (h : eqS F.apart c [x] [m] = true) : c (decide (E.byte x = E.byte m)) = true := by
  have := eqS_some hF h
  have e : decide ([x].map E.num = [m].map E.num) = decide (E.byte x = E.byte m) := decide_eq_decide.2 (by rw [byte_inj]; simp)
  rwa [e] at this
theorem cntK_some (hF : F.Of E) {m : Nat} : ∀ {s : List Nat} {n : Nat} {k : Nat → Bool}, cntK F.apart m s n k = true → k (n + (s.map E.byte).count (E.byte m)) = true
  | [], n, k, h => h
  | x :: s, n, k, h => by
    replace h := atom_eq_some (c := fun b => @Bool.rec (fun _ => Bool) (cntK F.apart m s n k) (forceN (Nat.succ n) fun n => cntK F.apart m s n k) b) hF h
    by_cases e : E.byte x = E.byte m
    · rw [decide_eq_true e] at h
      change forceN (Nat.succ n) (fun n => cntK F.apart m s n k) = true at h
      rw [forceN_eq] at h
      replace h := cntK_some hF h
      have e2 : n.succ + (s.map E.byte).count (E.byte m) = n + ((x :: s).map E.byte).count (E.byte m) := by
        rw [List.map_cons, e, List.count_cons_self]; omega
      rwa [e2] at h
    · rw [decide_eq_false e] at h
      replace h := cntK_some hF (show cntK F.apart m s n k = true from h)
      rwa [List.map_cons, List.count_cons_of_ne e]
theorem idxBK_some (hF : F.Of E) {m : Nat} : ∀ {s : List Nat} {n : Nat} {k : Int → Bool}, idxBK F.apart m s n k = true → k (if Lib.indexByte (s.map E.byte) (E.byte m) = -1 then -1 else n + Lib.indexByte (s.map E.byte) (E.byte m)) = true
  | [], n, k, h => by
    have h : k (-1) = true := h
    simpa [Lib.indexByte] using h
  | x :: s, n, k, h => by
    replace h := atom_eq_some (c := fun b => @Bool.rec (fun _ => Bool) (forceN (Nat.succ n) fun n => idxBK F.apart m s n k) (k (Int.ofNat n)) b) hF h
    by_cases e : E.byte x = E.byte m
    · rw [decide_eq_true e] at h
      have : Lib.indexByte ((x :: s).map E.byte) (E.byte m) = 0 := by simp [Lib.indexByte, e]
      rw [this]
      simpa using h
    · rw [decide_eq_false e] at h
      change forceN (Nat.succ n) (fun n => idxBK F.apart m s n k) = true at h
      rw [forceN_eq] at h
      replace h := idxBK_some hF h
      have hne : (E.byte x == E.byte m) = false := by simpa using e
      rw [List.map_cons]
      simp only [Lib.indexByte, hne]
      have hge := Lib.indexByte_ge (s.map E.byte) (E.byte m)
      by_cases h1 : Lib.indexByte (s.map E.byte) (E.byte m) = -1
      · simpa [h1] using h
      · have e3 : ((n.succ : Nat) : Int) + Lib.indexByte (s.map E.byte) (E.byte m) = (n : Int) + (Lib.indexByte (s.map E.byte) (E.byte m) + 1) := by omega
        rw [if_neg h1, e3] at h
        have h2 : ¬ (Lib.indexByte (s.map E.byte) (E.byte m) + 1 = -1) := by omega
        simpa [h1, h2] using h
theorem u8_back (b : UInt8) : ((b.toNat : Int)).toNat.toUInt8 = b := by simp
theorem pair_vs {ρ : Nat → Option Loc} {x y : AV} {vs : List Value} (h : VRs E ρ [x, y] vs) : ∃ u v, vs = [u, v] ∧ VR E ρ x u ∧ VR E ρ y v := by
  simp only [VRs] at h
  obtain ⟨u, r, h1, ⟨v, r', h2, h3, rfl⟩, rfl⟩ := h
  subst h3
  exact ⟨u, v, rfl, h1, h2⟩
theorem count_orc (hF : F.Of E) {f : Nat} {fn : Func} (hf : P.funcs[f]? = some fn) (hname : (fn.name == "runtime.NumGoroutine") = false) (hb : fn.body.isNone = true) (hn : Extern.findNext fn = none) (he : Extern.find fn = some Extern.BytealgCount.count) : FnRel P E F f (.orc (gCount F)) := by
  refine .orc fun as h nx k hk hfr => ?_
  unfold gCount at hk
  replace hk := l2K_some hk
  rcases hk with ⟨x, y, rfl, hk⟩ | hk
  rotate_left
  · cases hk
  replace hk := strK_some hk
  obtain ⟨s, rfl, hk⟩ := hk
  replace hk := atom1K_some (E := E) hk
  obtain ⟨m, hk, hm⟩ := hk
  replace hk := cntK_some hF hk
  refine ⟨_, _, _, hk, hfr, Nat.le_refl _, .inr fun ρ w vs _ hI hvs => ?_⟩
  obtain ⟨u, v, rfl, h1, h2⟩ := pair_vs hvs
  simp only [VR] at h1; subst h1
  have := hm ρ v h2; subst this
  refine ⟨.int .i64 (Lib.countByte (E.bytes s).data.toList (((E.byte m).toNat : Int).toNat.toUInt8)), w, ρ, ?_, Stp.rfl', hI, ?_⟩
  · rw [run_callFunc_extern hf hname hb hn he]
    have := Lib.run_countString (P := P) (E.bytes s) ((E.byte m).toNat : Int) w
    rw [show [Value.string (E.bytes s), Value.int .u8 ((E.byte m).toNat : Int)].toArray = #[Value.string (E.bytes s), Value.int .u8 ((E.byte m).toNat : Int)] from rfl, this]
    rfl
  · simp only [VR]
    rw [u8_back]
    simp [Lib.countByte, Env.bytes]
theorem indexByte_orc (hF : F.Of E) {f : Nat} {fn : Func} (hf : P.funcs[f]? = some fn) (hname : (fn.name == "runtime.NumGoroutine") = false) (hb : fn.body.isNone = true) (hn : Extern.findNext fn = none) (he : Extern.find fn = some Extern.BytealgIndexByte.indexByte) : FnRel P E F f (.orc (gIndexByte F)) := by
  refine .orc fun as h nx k hk hfr => ?_
  unfold gIndexByte at hk
  replace hk := l2K_some hk
  rcases hk with ⟨x, y, rfl, hk⟩ | hk
  rotate_left
  · cases hk
  replace hk := strK_some hk
  obtain ⟨s, rfl, hk⟩ := hk
  replace hk := atom1K_some (E := E) hk
  obtain ⟨m, hk, hm⟩ := hk
  replace hk := idxBK_some hF hk
  refine ⟨_, _, _, hk, hfr, Nat.le_refl _, .inr fun ρ w vs _ hI hvs => ?_⟩
  obtain ⟨u, v, rfl, h1, h2⟩ := pair_vs hvs
  simp only [VR] at h1; subst h1
  have := hm ρ v h2; subst this
  refine ⟨.int .i64 (Lib.indexByte (E.bytes s).data.toList (((E.byte m).toNat : Int).toNat.toUInt8)), w, ρ, ?_, Stp.rfl', hI, ?_⟩
  · rw [run_callFunc_extern hf hname hb hn he]
    have := Lib.run_indexByteString (P := P) (E.bytes s) ((E.byte m).toNat : Int) w
    rw [show [Value.string (E.bytes s), Value.int .u8 ((E.byte m).toNat : Int)].toArray = #[Value.string (E.bytes s), Value.int .u8 ((E.byte m).toNat : Int)] from rfl, this]
    rfl
  · simp only [VR]
    rw [u8_back]
    have : (E.bytes s).data.toList = s.map E.byte := by simp [Env.bytes]
    rw [this]
    by_cases h1 : Lib.indexByte (s.map E.byte) (E.byte m) = -1
    · rw [if_pos h1, h1]
    · rw [if_neg h1]; simp
/-! ### What reflectlite tells of an error's type -/
noncomputable def gTypeOf (rt gs : Nat) : Orc := fun as h nx k => l1K as (fun x => ifcK x (fun t _ => forceN (Nat.add gs (Nat.mul 65536 t)) fun g => k (.ifc rt (.agg [.glob g])) h nx) false) false
noncomputable def globK (x : AV) (k : Nat → Bool) : Bool :=
  @AV.casesOn (fun _ => Bool) x (fun _ => false) (fun _ _ => false) (fun _ _ => false) (fun _ _ => false) (fun _ => false) (fun _ _ => false) false (fun g => k g) (fun _ _ _ _ _ _ => false) false false (fun _ _ _ => false) false (fun _ _ => false) false (fun _ => false) (fun _ => false) false (fun _ _ => false)
theorem globK_some {x : AV} {k : Nat → Bool} (h : globK x k = true) : ∃ g, x = .glob g ∧ k g = true := by cases x <;> first | exact ⟨_, rfl, h⟩ | cases h
noncomputable def gCmp (g0 : Nat) : Orc := fun as h nx k => l1K as (fun x => aggK x fun l => l1K l (fun a => globK a fun g => ifK (Nat.beq g g0) (k (.bool true) h nx) false) false) false
theorem typeOf_orc {f : Nat} {fn : Func} {rt gs : Nat} (hf : P.funcs[f]? = some fn) (hname : (fn.name == "runtime.NumGoroutine") = false) (hb : fn.body.isNone = true) (hn : Extern.findNext fn = none) (he : Extern.find fn = some Extern.ReflectliteType.typeOf)
    (hrun : ∀ t v w, (Extern.ReflectliteType.typeOf #[.iface t v]).run P w = .ok (.iface rt (.agg #[.pointer (some ⟨gs, t, none⟩)])) w) (hgs : gs < 65536) : FnRel P E F f (.orc (gTypeOf rt gs)) := by
  refine .orc fun as h nx k hk hfr => ?_
  unfold gTypeOf at hk
  replace hk := l1K_some hk
  rcases hk with ⟨x, rfl, hk⟩ | hk
  rotate_left
  · cases hk
  replace hk := ifcK_some hk
  rcases hk with ⟨t, y, rfl, hk⟩ | ⟨_, hk⟩
  rotate_left
  · cases hk
  rw [forceN_eq] at hk
  refine ⟨_, _, _, hk, hfr, Nat.le_refl _, .inr fun ρ w vs _ hI hvs => ?_⟩
  simp only [VRs] at hvs
  obtain ⟨v, r, hv, hr, rfl⟩ := hvs
  subst hr
  simp only [VR] at hv
  obtain ⟨v', _, rfl⟩ := hv
  refine ⟨.iface rt (.agg #[.pointer (some ⟨gs, t, none⟩)]), w, ρ, ?_, Stp.rfl', hI, ?_⟩
  · rw [run_callFunc_extern hf hname hb hn he]
    rw [show [Value.iface t v'].toArray = #[Value.iface t v'] from rfl, hrun]
    rfl
  · simp only [VR]
    refine ⟨_, ⟨_, VRs.cons (v := .pointer (some ⟨gs, t, none⟩)) ?_ VRs.nil, rfl⟩, rfl⟩
    simp only [VR]
    have e1 : (gs.add (Nat.mul 65536 t)) % 65536 = gs := by show (gs + 65536 * t) % 65536 = gs; omega
    have e2 : (gs.add (Nat.mul 65536 t)) / 65536 = t := by show (gs + 65536 * t) / 65536 = t; omega
    rw [e1, e2]
theorem cmp_orc {f : Nat} {fn : Func} {g0 : Nat} {e : Array Value → Sem Value} (hf : P.funcs[f]? = some fn) (hname : (fn.name == "runtime.NumGoroutine") = false) (hb : fn.body.isNone = true) (hn : Extern.findNext fn = none) (he : Extern.find fn = some e)
    (hrun : ∀ w, (e #[.agg #[.pointer (some ⟨g0 % 65536, g0 / 65536, none⟩)]]).run P w = .ok (.bool true) w) : FnRel P E F f (.orc (gCmp g0)) := by
  refine .orc fun as h nx k hk hfr => ?_
  unfold gCmp at hk
  replace hk := l1K_some hk
  rcases hk with ⟨x, rfl, hk⟩ | hk
  rotate_left
  · cases hk
  replace hk := aggK_some hk
  obtain ⟨l, rfl, hk⟩ := hk
  replace hk := l1K_some hk
  rcases hk with ⟨a, rfl, hk⟩ | hk
  rotate_left
  · cases hk
  replace hk := globK_some hk
  obtain ⟨g, rfl, hk⟩ := hk
  replace hk := ifK_and hk
  obtain ⟨hg, hk⟩ := hk
  have := beq_of hg; subst this
  refine ⟨_, _, _, hk, hfr, Nat.le_refl _, .inr fun ρ w vs _ hI hvs => ?_⟩
  simp only [VRs] at hvs
  obtain ⟨v, r, hv, hr, rfl⟩ := hvs
  subst hr
  simp only [VR] at hv
  obtain ⟨l', hl, rfl⟩ := hv
  simp only [VRs] at hl
  obtain ⟨u, r, hu, hr, rfl⟩ := hl
  subst hr
  simp only [VR] at hu
  subst hu
  refine ⟨.bool true, w, ρ, ?_, Stp.rfl', hI, by simp only [VR]⟩
  rw [run_callFunc_extern hf hname hb hn he]
  rw [show [Value.agg [Value.pointer (some ⟨g % 65536, g / 65536, none⟩)].toArray].toArray = #[Value.agg #[.pointer (some ⟨g % 65536, g / 65536, none⟩)]] from rfl, hrun]
  rfl
/-! ### A pointer handed back as it is; room for bytes -/
noncomputable def gSame : Orc := fun as h nx k => l1K as (fun x => k x h nx) false
theorem same_orc {f : Nat} {fn : Func} (hf : P.funcs[f]? = some fn) (hname : (fn.name == "runtime.NumGoroutine") = false) (hb : fn.body.isNone = true) (hn : Extern.findNext fn = none) (he : Extern.find fn = some Extern.AbiNoEscape.same) : FnRel P E F f (.orc gSame) := by
  refine .orc fun as h nx k hk hfr => ?_
  unfold gSame at hk
  rcases l1K_some hk with ⟨x, rfl, hk⟩ | hk
  rotate_left
  · cases hk
  refine ⟨_, _, _, hk, hfr, Nat.le_refl _, .inr fun ρ w vs _ hI hvs => ?_⟩
  simp only [VRs] at hvs
  obtain ⟨v, r, hv, hr, rfl⟩ := hvs
  subst hr
  refine ⟨v, w, ρ, ?_, Stp.rfl', hI, hv⟩
  rw [run_callFunc_extern hf hname hb hn he]
  have := Lib.run_noEscape (P := P) w v
  rw [show [v].toArray = #[v] from rfl, this]
  rfl
theorem digits_byte : ∀ (n t : Nat) (acc : Array Value), (∀ v ∈ acc, IsByte v) → ∀ v ∈ Extern.BytealgMakeNoZero.digits n t acc, IsByte v
  | 0, _, _, h => h
  | n + 1, t, acc, h => by
    rw [Extern.BytealgMakeNoZero.digits]
    refine digits_byte n _ _ fun v hv => ?_
    rcases Array.mem_push.1 hv with hv | rfl
    · exact h v hv
    · exact ⟨t % 256, Nat.mod_lt _ (by decide), rfl⟩
theorem IsByte.one {v : Value} (h : IsByte v) : v.oneCell' = true := by obtain ⟨m, _, rfl⟩ := h; rfl
theorem run_noz (w : World) (ps : Array TypeId) (t e : TypeId) (ht : P.underlying t = some (.slice e)) (n : Nat) (hn : n ≤ 1000000) :
    ∃ cs : Array Value, (Extern.BytealgMakeNoZero.makeNoZero ps #[t] #[.int .i64 n]).run P w = .ok (.slice (some ⟨w.heap.size, 0, none⟩) n cs.size) (w.drew.drew.alloc (.cells cs e)) ∧ n ≤ cs.size ∧ cs.size ≤ maxLen ∧ ∀ v ∈ cs, IsByte v := by
  have hdef : Extern.BytealgMakeNoZero.makeNoZero ps #[t] #[.int .i64 n] =
      (do
        let .slice elem ← underlying t | stuck "bytealg.MakeNoZero: slice type expected"
        if (n : Int) < 0 || (n : Int) > 2 ^ 48 then runtimePanic (.error "makeslice: len out of range")
        let cap ← choose (.appendCap (n : Int).toNat 0 elem)
        askRoom cap
        let bytes ← choose (.extern "internal/bytealg.MakeNoZero.bytes" 0)
        let a ← newRow elem (Extern.BytealgMakeNoZero.digits cap bytes #[])
        pure (.slice (some a) (n : Int).toNat cap)) := rfl
  refine ⟨Extern.BytealgMakeNoZero.digits (grownCap w n 0 e) ((Question.extern "internal/bytealg.MakeNoZero.bytes" 0).cut (w.tape (w.drawn + 1) (.extern "internal/bytealg.MakeNoZero.bytes" 0))) #[], ?_, ?_, ?_, ?_⟩
  · rw [hdef]
    have h1 : ¬ (n : Int) < 0 := by omega
    have h2 : ¬ (281474976710656 : Int) < (n : Int) := by omega
    simp [run_underlying ht, h1, h2, Question.forced, newRow, Lib.size_digits, grownCap]
  · rw [Lib.size_digits]
    simpa using grownCap_ge w n 0 e
  · rw [Lib.size_digits]
    simpa using grownCap_le_maxLen w n 0 e (by unfold maxLen; omega)
  · exact digits_byte _ _ _ fun v hv => by simp at hv
theorem anys_vr {ρ : Nat → Option Loc} : ∀ {vs : List Value}, (∀ v ∈ vs, v.oneCell' = true) → VRs E ρ (List.replicate vs.length AV.any) vs
  | [], _ => VRs.nil
  | v :: vs, h => VRs.cons (by simp only [VR]; exact h v List.mem_cons_self) (anys_vr fun u hu => h u (List.mem_cons_of_mem _ hu))
theorem any_rep : ∀ n : Nat, (List.replicate n [AV.any]).flatten = List.replicate n AV.any
  | 0 => rfl
  | n + 1 => by rw [List.replicate_succ, List.flatten_cons, any_rep n]; rfl
noncomputable def gNoz (el : Nat) : Orc := fun as h nx k => l1K as (fun x => intK x fun q z => ifK (kindEq q .i64) (@Int.rec (fun _ => Bool) (fun n => ifK (Nat.ble n 1000000) (repK [.any] n fun cs => mkTK (.glob el) cs h nx fun h nx' => k (.sl nx 0 n n false 1) h nx') false) (fun _ => false) z) false) false
theorem noz_orc {f : Nat} {fn : Func} {ps : Array TypeId} {t el : TypeId} (hf : P.funcs[f]? = some fn) (hname : (fn.name == "runtime.NumGoroutine") = false) (hb : fn.body.isNone = true) (hn : Extern.findNext fn = none) (he : Extern.find fn = some (Extern.BytealgMakeNoZero.makeNoZero ps #[t]))
    (ht : P.underlying t = some (.slice el)) : FnRel P E F f (.orc (gNoz el)) := by
  refine .orc fun as h nx k hk hfr => ?_
  unfold gNoz at hk
  rcases l1K_some hk with ⟨x, rfl, hk⟩ | hk
  rotate_left
  · cases hk
  replace hk := intK_some hk
  obtain ⟨q, z, rfl, hk⟩ := hk
  replace hk := ifK_and hk
  obtain ⟨hq, hk⟩ := hk
  have := kindEq_of hq; subst this
  cases z with
  | negSucc n => cases hk
  | ofNat n =>
    replace hk := ifK_and (b := Nat.ble n 1000000) (t := repK [.any] n fun cs => mkTK (.glob el) cs h nx fun h nx' => k (.sl nx 0 n n false 1) h nx') hk
    obtain ⟨hle, hk⟩ := hk
    have hle := ble_of hle
    replace hk := repK_some hk
    rw [any_rep] at hk
    replace hk := mkTK_some hk
    obtain ⟨t', h', h1, h2, h3, hk⟩ := hk
    refine ⟨_, _, _, hk, hfr.new h3, Nat.le_succ _, .inr fun ρ w vs hfree hI hvs => ?_⟩
    simp only [VRs, VR] at hvs
    obtain ⟨v, r, rfl, hr, rfl⟩ := hvs
    subst hr
    obtain ⟨cs, hrun, g1, g2, g3⟩ := run_noz (P := P) w ps t el ht n hle
    have hp : Pushed w (w.drew.drew.alloc (.cells cs el)) (.cells cs el (0, 0)) := ⟨rfl, rfl, rfl, rfl⟩
    have htl : (cs.toList.take n).length = n := by rw [List.length_take, Array.length_toList]; omega
    have hone : ∀ v ∈ cs.toList.take n, v.oneCell' = true := fun v hv => (g3 v (by simpa using List.mem_of_mem_take hv)).one
    have hvr : VRs E ρ (List.replicate n AV.any) (cs.toList.take n) := by
      have := anys_vr (E := E) (ρ := ρ) hone
      rwa [htl] at this
    obtain ⟨s1, s2⟩ := new_step (pl := 1) hI hp (fun k _ hk => by omega) (hfree nx (Nat.le_refl _) (Nat.lt_succ_self _)) hvr hone (fun j hj => by
      rw [htl] at hj
      rw [List.getElem?_take, if_pos hj]; simp) h1 (by
      rw [h2]
      refine ⟨fun ty hty => ?_, fun _ _ h => (by cases h), fun _ _ h => (by cases h)⟩
      injection hty with hty; injection hty with hty; subst hty
      refine ⟨rfl, rfl, rfl, fun j hj => ?_⟩
      rw [List.length_replicate] at hj
      have hjs : j < cs.size := by omega
      obtain ⟨m, q1, q2⟩ := g3 cs[j] (Array.getElem_mem hjs)
      exact ⟨m, q1, by rw [Array.getElem?_eq_getElem hjs, q2]⟩) h3
    refine ⟨.slice (some ⟨w.heap.size, 0, none⟩) n cs.size, _, _, ?_, s1, s2, ?_⟩
    · rw [run_callFunc_extern hf hname hb hn he]
      rw [show [Value.int .i64 (Int.ofNat n)].toArray = #[.int .i64 (n : Int)] from rfl, hrun]
      rfl
    · simp only [VR]
      exact ⟨⟨w.heap.size, 0, cs.size, 1⟩, cs.size, if_pos rfl, rfl, g1, fun h => (by cases h), by show 0 + 0 + cs.size * 1 ≤ cs.size; omega, fun _ => rfl, g2, fun _ => by show 0 + 0 + cs.size * 1 = cs.size; omega⟩
end
end Go.Proofs.YtdnahdcjnahfkaaGreatDoor.Ev
set_option linter.unusedVariables false
set_option linter.unusedSimpArgs false
namespace Go.Proofs.YtdnahdcjnahfkaaGreatDoor.Ev
open Go

/-! ### Values that name no block -/
noncomputable def flat1 (a : AV) (k : Bool) : Bool :=
  @AV.casesOn (fun _ => Bool) a (fun _ => k) (fun _ _ => k) (fun _ _ => k) (fun _ _ => k) (fun _ => k) (fun _ _ => false) k (fun _ => k) (fun _ _ _ _ _ _ => false) k k (fun _ _ _ => false) k (fun _ _ => false) k (fun _ => false) (fun _ => false) false (fun _ _ => false)
noncomputable def flatsK (k : Bool) (l : List AV) : Bool := @List.rec AV (fun _ => Bool) k (fun x _ ih => flat1 x ih) l
theorem flat1_some {a : AV} {k : Bool} (h : flat1 a k = true) : k = true ∧ ∀ (E : Env) (ρ ρ' : Nat → Option Loc) (v : Value), VR E ρ a v → VR E ρ' a v := by
  cases a <;> first | exact ⟨h, fun E ρ ρ' v hv => by simpa only [VR] using hv⟩ | cases h
theorem flatsK_some {k : Bool} : ∀ {l : List AV}, flatsK k l = true → k = true ∧ ∀ (E : Env) (ρ ρ' : Nat → Option Loc) (i : Nat) (a : AV) (v : Value), l[i]? = some a → VR E ρ a v → VR E ρ' a v
  | [], h => ⟨h, fun _ _ _ i a v hi => by simp at hi⟩
  | x :: l, h => by
    obtain ⟨h, h1⟩ := flat1_some (a := x) (k := flatsK k l) h
    obtain ⟨h, h2⟩ := flatsK_some h
    refine ⟨h, fun E ρ ρ' i a v hi hv => ?_⟩
    cases i with
    | zero => simp at hi; subst hi; exact h1 E ρ ρ' v hv
    | succ i => exact h2 E ρ ρ' i a v (by simpa using hi) hv

/-! ### slices.overlaps -/
noncomputable def notK (b : Bool) (k : Bool) : Bool := @Bool.rec (fun _ => Bool) k false b
theorem notK_some {b k : Bool} (h : notK b k = true) : b = false ∧ k = true := by cases b <;> first | exact ⟨rfl, h⟩ | cases h
theorem bne_of {a b : Nat} (h : Nat.beq a b = false) : a ≠ b := fun e => by subst e; simp at h
noncomputable def gOverlaps : Orc := fun as h nx k => l2K as (fun x y => slK x (fun i _ n c _ es => slK y (fun j _ m d _ es' =>
  ifK (Nat.beq es es') (notK (Nat.beq es 1) (ifK (Nat.blt 0 es) (notK (Nat.beq i j) (ifK (Nat.blt 0 n) (ifK (Nat.ble n c) (ifK (Nat.blt 0 m) (ifK (Nat.ble m d) (blkK h i fun _ _ => blkK h j fun _ _ => k (.bool false) h nx) false) false) false) false)) false)) false) false false) false false) false

section
variable {P : Program} {E : Env} {F : Facts}
theorem overlaps_orc {f : Nat} {fn : Func} {tS tR el size : Nat} (hf : P.funcs[f]? = some fn) (hname : (fn.name == "runtime.NumGoroutine") = false) (hb : fn.body.isNone = true) (hn : Extern.findNext fn = none) (he : Extern.find fn = some (Extern.SlicesOverlaps.overlaps #[tS, tS] #[tR]))
    (ht : P.underlying tS = some (.slice el)) (hz : ∀ w, (sizeOf el).run P w = .ok size w) : FnRel P E F f (.orc gOverlaps) := by
  refine .orc fun as h nx k hk hfr => ?_
  unfold gOverlaps at hk
  replace hk := l2K_some hk
  rcases hk with ⟨x, y, rfl, hk⟩ | hk
  rotate_left
  · cases hk
  replace hk := slK_some hk
  rcases hk with ⟨i, p, n, c, ex, es, rfl, hk⟩ | ⟨_, hk⟩ | ⟨_, hk⟩
  rotate_left
  · cases hk
  · cases hk
  replace hk := slK_some hk
  rcases hk with ⟨j, q, m, d, ex', es', rfl, hk⟩ | ⟨_, hk⟩ | ⟨_, hk⟩
  rotate_left
  · cases hk
  · cases hk
  replace hk := ifK_and hk
  obtain ⟨h1, hk⟩ := hk
  have := beq_of h1; subst this
  replace hk := notK_some hk
  obtain ⟨h2, hk⟩ := hk
  have h2 := bne_of h2
  replace hk := ifK_and hk
  obtain ⟨h3, hk⟩ := hk
  have h3 := blt_of h3
  replace hk := notK_some hk
  obtain ⟨h4, hk⟩ := hk
  have h4 := bne_of h4
  replace hk := ifK_and hk
  obtain ⟨h5, hk⟩ := hk
  have h5 := blt_of h5
  replace hk := ifK_and hk
  obtain ⟨h6, hk⟩ := hk
  have h6 := ble_of h6
  replace hk := ifK_and hk
  obtain ⟨h7, hk⟩ := hk
  have h7 := blt_of h7
  replace hk := ifK_and hk
  obtain ⟨h8, hk⟩ := hk
  have h8 := ble_of h8
  replace hk := blkK_some hk
  obtain ⟨N, t, hbi, hk⟩ := hk
  replace hk := blkK_some hk
  obtain ⟨M, u, hbj, hk⟩ := hk
  refine ⟨_, _, _, hk, hfr, Nat.le_refl _, .inr fun ρ w vs _ hI hvs => ?_⟩
  simp only [VRs] at hvs
  obtain ⟨vx, r, hx, ⟨vy, r', hy, hr', rfl⟩, rfl⟩ := hvs
  subst hr'
  simp only [VR] at hx hy
  obtain ⟨L, cx, hL, rfl, x1, _, x3, x4⟩ := hx
  obtain ⟨K, cy, hK, rfl, y1, _, y3, y4⟩ := hy
  have hne := hI.inj i j _ _ _ _ hbi hbj h4 L K hL hK
  obtain ⟨ci, ei, zi, a1, a2, a3, _⟩ := hI.blk hbi hL
  obtain ⟨cj, ej, zj, b1, b2, b3, _⟩ := hI.blk hbj hK
  have l1 := x4.1 h2
  have m1 : 1 * 1 ≤ cy * es := Nat.mul_le_mul (by omega) h3
  have fz : ∀ o, o ≤ ci.size → w.frozen? ⟨L.b, o, none⟩ = false := fun o ho => by
    have := a2 o (by omega)
    obtain ⟨lo, hi⟩ := zi
    simp only [World.frozen?, a1]
    simp only [Bool.and_eq_false_iff, decide_eq_false_iff_not]
    by_cases hl : lo ≤ o
    · exact .inr fun hh => this ⟨hl, hh⟩
    · exact .inl hl
  have hrun := Lib.run_overlaps_apart (P := P) w tS tR el ht size hz ⟨L.b, L.o + p, none⟩ ⟨K.b, K.o + q, none⟩ n cx m cy hne ei ej ci.size cj.size (by simp [World.shape?, a1]) (by simp [World.shape?, b1]) (by omega) (fz _ (by omega)) (fz _ (Nat.le_refl _))
  refine ⟨.bool false, w, ρ, ?_, Stp.rfl', hI, by simp only [VR]⟩
  rw [run_callFunc_extern hf hname hb hn he]
  rw [show [Value.slice (some ⟨L.b, L.o + p, none⟩) n cx, Value.slice (some ⟨K.b, K.o + q, none⟩) m cy].toArray = #[Value.slice (some ⟨L.b, L.o + p, none⟩) n cx, Value.slice (some ⟨K.b, K.o + q, none⟩) m cy] from rfl, hrun]
  rfl

/-! ### What is run on a part of what is known -/
theorem sub_step {ρ ρ' : Nat → Option Loc} {H0 H H0' H'' : Heap} {w w' : World} {nx n1 nm j p N : Nat} {t t2 : T AV} {L : Loc} {cs : List AV} (hI : Inv E ρ H w) (hl : Less H0 H) (hS : Stp ρ H0 w nx ρ' H0' w' n1) (hI' : Inv E ρ' H0' w') (hj : H0' j = some (.live N t)) (hL : ρ' j = some L)
    (hfit : p + cs.length ≤ N) (hcs : ∀ k, k < cs.length → t.get (p + k) = cs[k]?) (hfl : ∀ (E : Env) (ρ ρ' : Nat → Option Loc) (i : Nat) (a : AV) (v : Value), cs[i]? = some a → VR E ρ a v → VR E ρ' a v) (hnm : nx < nm) (hfree : ∀ i, nx ≤ i → i < nm → ρ i = none)
    (ht2 : ∀ k, k < cs.length → t2.get k = cs[k]?) (hT2 : t2.get (cs.length + 7) = none) (hH : ∀ i n u, H'' i = some (.live n u) → (i = nx ∧ n = cs.length ∧ u = t2) ∨ (i ≠ nx ∧ H i = some (.live n u) ∧ ∀ n' u', H0 i ≠ some (.live n' u'))) :
    Stp ρ H w nx (ρset ρ nx ⟨L.b, L.o + p, L.sz, L.pl⟩) H'' w' nm ∧ Inv E (ρset ρ nx ⟨L.b, L.o + p, L.sz, L.pl⟩) H'' w' := by
  have hnx : ρ nx = none := hfree nx (Nat.le_refl _) hnm
  have hext : Ext ρ (ρset ρ nx ⟨L.b, L.o + p, L.sz, L.pl⟩) := ρset_ext hnx
  -- where the new one lies
  have hown := hS.own j N t L hj hL
  have apart : ∀ i n u M, H i = some (.live n u) → (∀ n' u', H0 i ≠ some (.live n' u')) → ρ i = some M → L.b ≠ M.b := fun i n u M hi h0 hM => by
    rcases hown with h1 | ⟨j0, m, v, K, h1, h2, h3⟩
    · have := (hI.blk hi hM).lt; omega
    · rw [← h3]
      exact hI.inj j0 i m v n u (hl _ _ _ h1) hi (fun e => by subst e; exact h0 _ _ h1) K M h2 hM
  refine ⟨⟨Nat.le_of_lt hnm, hfree, fun i hi => by unfold ρset; rw [if_neg (by omega)], hS.os, hS.tape, hS.output, hS.size, fun b hb hn => hS.keep b hb fun i n u M hi hM => hn i n u M (hl _ _ _ hi) hM, fun i n u M hi hM => ?_⟩, ⟨fun i n u hi => ?_, fun i k n u n' u' hi hk hne M M' hM hM' => ?_⟩⟩
  · rcases hH i n u hi with ⟨rfl, _, _⟩ | ⟨h1, h2, _⟩
    · simp only [ρset, if_pos] at hM; injection hM with hM; subst hM
      rcases hown with h1 | ⟨j0, m, v, K, h1, h2, h3⟩
      · exact .inl h1
      · exact .inr ⟨j0, m, v, K, hl _ _ _ h1, h2, h3⟩
    · simp only [ρset, if_neg h1] at hM
      exact .inr ⟨i, n, u, M, h2, hM, rfl⟩
  · rcases hH i n u hi with ⟨rfl, rfl, rfl⟩ | ⟨h1, h2, h3⟩
    · refine ⟨⟨L.b, L.o + p, L.sz, L.pl⟩, by simp [ρset], ?_⟩
      obtain ⟨c, el, z, b1, b2, b3, b4, _⟩ := hI'.blk hj hL
      refine ⟨c, el, z, b1, b2, b3, fun k hk => ?_, TyAt.of hT2⟩
      obtain ⟨av, v, a1, a2, a3, a4⟩ := b4 (p + k) (by omega)
      have hck := hcs k hk
      rw [a1] at hck
      exact ⟨av, v, by rw [ht2 k hk, hck], by show c[L.o + p + k]? = _; rw [Nat.add_assoc]; exact a2, hfl E _ _ k av v hck.symm a3, a4⟩
    · obtain ⟨M, hM, hB⟩ := hI.at_ i n u h2
      exact ⟨M, hext _ _ hM, (hB.ext hext).same (hS.keep M.b hB.lt fun i0 n0 u0 K h0 hK => hI.inj i0 i n0 u0 n u (hl _ _ _ h0) h2 (fun e => by subst e; exact h3 _ _ h0) K M hK hM)⟩
  · rcases hH i n u hi with ⟨rfl, _, _⟩ | ⟨h1, h2, h3⟩
    · rcases hH k n' u' hk with ⟨rfl, _, _⟩ | ⟨g1, g2, g3⟩
      · exact absurd rfl hne
      · simp only [ρset, if_pos] at hM; injection hM with hM; subst hM
        simp only [ρset, if_neg g1] at hM'
        exact apart k n' u' M' g2 g3 hM'
    · simp only [ρset, if_neg h1] at hM
      rcases hH k n' u' hk with ⟨rfl, _, _⟩ | ⟨g1, g2, g3⟩
      · simp only [ρset, if_pos] at hM'; injection hM' with hM'; subst hM'
        exact fun e => apart i n u M h2 h3 hM e.symm
      · simp only [ρset, if_neg g1] at hM'
        exact hI.inj i k n u n' u' h2 g2 hne M M' hM hM'

/-! ### slices.Insert -/
noncomputable def maxK (a b : Nat) (k : Nat → Bool) : Bool := @Bool.rec (fun _ => Bool) (k a) (k b) (Nat.ble a b)
theorem maxK_some {a b : Nat} {k : Nat → Bool} (h : maxK a b k = true) : ∃ m, a ≤ m ∧ b ≤ m ∧ k m = true := by
  unfold maxK at h
  cases hb : Nat.ble a b with
  | true => rw [hb] at h; exact ⟨b, ble_of hb, Nat.le_refl _, h⟩
  | false =>
    rw [hb] at h
    have : ¬ (a ≤ b) := fun hh => by rw [← Nat.ble_eq] at hh; rw [hh] at hb; cases hb
    exact ⟨a, Nat.le_refl _, by omega, h⟩
/-- The cells of what comes back. -/
noncomputable def outK (es n : Nat) (r : AV) (h : T Blk) (k : List AV → Bool) : Bool :=
  slK r (fun j p l c ex es' => @Bool.rec (fun _ => Bool) (ifK (Nat.beq es es') (ifK (Nat.beq n l) (ifK (Nat.ble l c) (blkK h j fun N t => forceN (Nat.mul l es) fun q => ifK (Nat.ble (Nat.add p q) N) (readK t q p fun cs => flatsK (k cs) cs) false) false) false) false) false ex) false false
theorem outK_some {es n : Nat} {r : AV} {h : T Blk} {k : List AV → Bool} (e : outK es n r h k = true) : ∃ j p c N t cs, r = .sl j p n c false es ∧ n ≤ c ∧ h.get j = some (.live N t) ∧ p + cs.length ≤ N ∧ cs.length = n * es ∧ (∀ i, i < cs.length → t.get (p + i) = cs[i]?) ∧
    (∀ (E : Env) (ρ ρ' : Nat → Option Loc) (i : Nat) (a : AV) (v : Value), cs[i]? = some a → VR E ρ a v → VR E ρ' a v) ∧ k cs = true := by
  unfold outK at e
  replace e := slK_some e
  rcases e with ⟨j, p, l, c, ex, es', rfl, e⟩ | ⟨_, e⟩ | ⟨_, e⟩
  rotate_left
  · cases e
  · cases e
  cases ex with
  | true => cases e
  | false =>
  replace e := ifK_and e
  obtain ⟨h1, e⟩ := e
  have := beq_of h1; subst this
  replace e := ifK_and e
  obtain ⟨h2, e⟩ := e
  have := beq_of h2; subst this
  replace e := ifK_and e
  obtain ⟨h3, e⟩ := e
  replace e := blkK_some e
  obtain ⟨N, t, hb, e⟩ := e
  rw [forceN_eq] at e
  replace e := ifK_and e
  obtain ⟨h4, e⟩ := e
  have h4 := ble_of h4
  replace e := readK_some e
  obtain ⟨cs, hl, hg, e⟩ := e
  obtain ⟨e, hfl⟩ := flatsK_some e
  exact ⟨j, p, c, N, t, cs, rfl, ble_of h3, hb, by rw [hl]; exact h4, hl, by rw [hl]; exact hg, hfl, e⟩
/-- Two blocks alone. -/
noncomputable def twoK (i : Nat) (n : Nat) (t : T AV) (j : Nat) (m : Nat) (u : T AV) (k : T Blk → Bool) : Bool := setK (.live n t) 40 .l i fun h => setK (.live m u) 40 h j k
noncomputable def insGo (es xi vi n : Nat) (cs : List AV) (nm nx : Nat) (h : T Blk) (k : KV) : Bool :=
  ifK (Nat.blt nx nm) (setK .dead 40 h xi fun h => setK .dead 40 h vi fun h => writeK cs .l 0 fun t => lenK cs 0 fun l => setK (.live l t) 40 h nx fun h => k (.sl nx 0 n n false es) h nm) false
noncomputable def insOpen (es : Nat) (run : Orc) (i v : AV) (xi xo l vi N M : Nat) (t u : T AV) (h : T Blk) (nx : Nat) (k : KV) : Bool :=
  forceN (Nat.succ l) fun l' => twoK xi N t vi M u fun h0 =>
    run [.sl xi xo l l true es, i, v] h0 nx fun r1 h1 n1 => outK es l' r1 h1 fun cs1 =>
      run [.sl xi xo l l' false es, i, v] h0 nx fun r2 h2 n2 => outK es l' r2 h2 fun cs2 =>
        avsEq (maxK n1 n2 fun nm => insGo es xi vi l' cs1 nm nx h k) cs1 cs2
noncomputable def gIns (run : Orc) : Orc := fun as h nx k => l3K as fun x i v =>
  slK x (fun xi xo l c ex es => natK i fun a => @Bool.rec (fun _ => Bool)
      (@Bool.rec (fun _ => Bool) (slK v (fun vi _ _ _ _ _ => notK (Nat.beq xi vi) (@Bool.rec (fun _ => Bool) (run as h nx k) (blkK h xi fun N t => blkK h vi fun M u => insOpen es run i v xi xo l vi N M t u h nx k) (Nat.beq c l))) false false) (run as h nx k) (Nat.beq a l))
      (run as h nx k) ex)
    (run as h nx k) (run as h nx k)
theorem l3K_some {β : Type} {l : List β} {k : β → β → β → Bool} (h : l3K l k = true) : ∃ x y z, l = [x, y, z] ∧ k x y z = true := by
  match l, h with
  | [], h => cases h
  | x :: r, h =>
    rcases l2K_some (l := r) (k := fun y z => k x y z) h with ⟨y, z, rfl, h⟩ | h
    · exact ⟨x, y, z, rfl, h⟩
    · cases h
theorem twoK_some {i n j m : Nat} {t u : T AV} {k : T Blk → Bool} (hij : i ≠ j) (h : twoK i n t j m u k = true) : ∃ h0, k h0 = true ∧ ∀ q b, h0.get q = some b → (q = i ∧ b = .live n t) ∨ (q = j ∧ b = .live m u) := by
  unfold twoK at h
  replace h := setK_some h
  obtain ⟨h1, hu1, h⟩ := h
  replace h := setK_some h
  obtain ⟨h0, hu0, h⟩ := h
  refine ⟨h0, h, fun q b hq => ?_⟩
  rw [hu0] at hq
  split at hq
  · rename_i e; injection hq with hq; exact .inr ⟨e, hq.symm⟩
  · rw [hu1] at hq
    split at hq
    · rename_i e; injection hq with hq; exact .inl ⟨e, hq.symm⟩
    · rw [T.get_l] at hq; cases hq
theorem gIns_ok {f : Nat} (hf : FnHas P f) (run : Orc) (hrun : OrcOk P E f run) : OrcOk P E f (gIns run) := by
  intro as h nx k hk hfr
  unfold gIns at hk
  obtain ⟨x, i, v, rfl, hk⟩ := l3K_some hk
  have plain : run [x, i, v] h nx k = true → _ := fun hk => hrun [x, i, v] h nx k hk hfr
  replace hk := slK_some hk
  rcases hk with ⟨xi, xo, l, c, ex, es, rfl, hk⟩ | ⟨rfl, hk⟩ | ⟨rfl, hk⟩
  rotate_left
  · exact plain hk
  · exact plain hk
  obtain ⟨a, hk, ha⟩ := natK_some (E := E) hk
  cases ex with
  | true => exact plain hk
  | false =>
  cases hal : Nat.beq a l with
  | true => rw [hal] at hk; exact plain hk
  | false =>
  rw [hal] at hk
  replace hk := slK_some hk
  rcases hk with ⟨vi, vo, vl, vc, vex, ves, rfl, hk⟩ | ⟨_, hk⟩ | ⟨_, hk⟩
  rotate_left
  · cases hk
  · cases hk
  replace hk := notK_some hk
  obtain ⟨hxv, hk⟩ := hk
  have hxv := bne_of hxv
  cases hcl : Nat.beq c l with
  | false => rw [hcl] at hk; exact plain hk
  | true =>
  rw [hcl] at hk
  have := beq_of hcl; subst this
  replace hk := blkK_some hk
  obtain ⟨N, t, hbx, hk⟩ := hk
  replace hk := blkK_some hk
  obtain ⟨M, u, hbv, hk⟩ := hk
  unfold insOpen at hk
  rw [forceN_eq] at hk
  replace hk := twoK_some hxv hk
  obtain ⟨h0, hk, hh0⟩ := hk
  have hless : Less h0.get h.get := fun q n tr hq => by
    rcases hh0 q _ hq with ⟨rfl, e⟩ | ⟨rfl, e⟩
    · rw [e]; exact hbx
    · rw [e]; exact hbv
  have hfr0 : Fresh h0 nx := fun q hq => by
    cases e : h0.get q with
    | none => rfl
    | some b =>
      rcases hh0 q _ e with ⟨rfl, _⟩ | ⟨rfl, _⟩
      · have := hfr.lt hbx; omega
      · have := hfr.lt hbv; omega
  obtain ⟨r1, h1, n1, hk, hf1, hle1, hC1⟩ := hrun _ _ _ _ hk hfr0
  obtain ⟨j1, p1, c1, N1, t1, cs1, rfl, hc1, hb1, hfit1, hlen1, hg1, hfl1, hk⟩ := outK_some hk
  obtain ⟨r2, h2, n2, hk, hf2, hle2, hC2⟩ := hrun _ _ _ _ hk hfr0
  obtain ⟨j2, p2, c2, N2, t2, cs2, rfl, hc2, hb2, hfit2, hlen2, hg2, hfl2, hk⟩ := outK_some hk
  replace hk := avsEq_some hk
  obtain ⟨rfl, hk⟩ := hk
  replace hk := maxK_some hk
  obtain ⟨nm, hm1, hm2, hk⟩ := hk
  unfold insGo at hk
  replace hk := ifK_and hk
  obtain ⟨hnm, hk⟩ := hk
  have hnm := blt_of hnm
  replace hk := setK_some hk
  obtain ⟨ha1, hua, hk⟩ := hk
  replace hk := setK_some hk
  obtain ⟨ha2, hub, hk⟩ := hk
  replace hk := writeK_some hk
  obtain ⟨tn, htn, hk⟩ := hk
  rw [lenK_eq] at hk
  replace hk := setK_some hk
  obtain ⟨ha3, huc, hk⟩ := hk
  have hxlt := hfr.lt hbx
  have hvlt := hfr.lt hbv
  have hH : ∀ q n tr, ha3.get q = some (.live n tr) → (q = nx ∧ n = cs1.length ∧ tr = tn) ∨ (q ≠ nx ∧ h.get q = some (.live n tr) ∧ ∀ n' u', h0.get q ≠ some (.live n' u')) := fun q n tr hq => by
    rw [huc] at hq
    split at hq
    · rename_i e; injection hq with hq; injection hq with e1 e2; exact .inl ⟨e, by omega, e2.symm⟩
    · rename_i e
      rw [hub] at hq
      split at hq
      · cases hq
      · rename_i e2
        rw [hua] at hq
        split at hq
        · cases hq
        · rename_i e3
          refine .inr ⟨e, hq, fun n' u' h' => ?_⟩
          rcases hh0 q _ h' with ⟨e4, _⟩ | ⟨e4, _⟩
          · exact e3 e4
          · exact e2 e4
  have htn' : ∀ q, q < cs1.length → tn.get q = cs1[q]? := fun q hq => by rw [htn, if_pos ⟨Nat.zero_le _, by omega⟩, Nat.sub_zero]
  refine ⟨_, ha3, nm, hk, fun q hq => ?_, by omega, .inl ⟨hf, fun ρ w vs hfree hI hvs => ?_⟩⟩
  · rw [huc, if_neg (by omega), hub, if_neg (by omega), hua, if_neg (by omega)]; exact hfr q (by omega)
  have hI0 := hI.less hless
  simp only [VRs] at hvs
  obtain ⟨vx, r, hvx, hr, rfl⟩ := hvs
  have hvx' := hvx
  simp only [VR] at hvx'
  obtain ⟨L, cc, hL, rfl, q1, _, q3, q4⟩ := hvx'
  -- both ways alike
  have fin : ∀ (as' : List AV) (j p c0 : Nat) (N0 : Nat) (t0 : T AV) (h' : T Blk) (n' : Nat), CallR P E f as' h0.get nx (.sl j p (Nat.succ c) c0 false es) h'.get n' → nx ≤ n' → n' ≤ nm → VRs E ρ as' (Value.slice (some ⟨L.b, L.o + xo, none⟩) c cc :: r) → Nat.succ c ≤ c0 → h'.get j = some (.live N0 t0) → p + cs1.length ≤ N0 → (∀ i, i < cs1.length → t0.get (p + i) = cs1[i]?) →
      Calls P f (Value.slice (some ⟨L.b, L.o + xo, none⟩) c cc :: r).toArray w (Ret fun v w' => ∃ ρ', Stp ρ h.get w nx ρ' ha3.get w' nm ∧ Inv E ρ' ha3.get w' ∧ VR E ρ' (.sl nx 0 (Nat.succ c) (Nat.succ c) false es) v) := by
    intro as' j p c0 N0 t0 h' n' hC hle hn hv hcc hb hfit hg
    refine (hC.body hf ρ w _ (fun i a b => hfree i a (by omega)) hI0 hv).mono ?_
    rintro e w' ⟨v, rfl, ρ', s1, s2, s3⟩
    simp only [VR] at s3
    obtain ⟨K, ck, hK, rfl, k1, _, k3, k4⟩ := s3
    obtain ⟨g1, g2⟩ := sub_step (nm := nm) hI hless s1 s2 hb hK hfit hg hfl1 hnm hfree htn' (by rw [htn, if_neg (by omega)]; rfl) hH
    refine ⟨_, rfl, _, g1, g2, ?_⟩
    simp only [VR]
    exact ⟨⟨K.b, K.o + p, K.sz, K.pl⟩, ck, by simp [ρset], rfl, by omega, fun h => (by cases h), by show K.o + p + 0 + ck * es ≤ K.sz; omega, k4.1, k4.2.1, fun _ => by have := k4.2.2 trivial; show K.o + p + 0 + ck * es = K.sz; omega⟩
  rcases Nat.lt_or_ge c cc with hlt | hge
  · refine fin _ j2 p2 c2 N2 t2 h2 n2 hC2 hle2 hm2 ?_ hc2 hb2 hfit2 hg2
    refine VRs.cons ?_ hr
    simp only [VR]
    exact ⟨L, cc, hL, rfl, hlt, fun h => (by cases h), q3, q4⟩
  · refine fin _ j1 p1 c1 N1 t1 h1 n1 hC1 hle1 hm1 ?_ hc1 hb1 hfit1 hg1
    refine VRs.cons ?_ hr
    simp only [VR]
    exact ⟨L, cc, hL, rfl, q1, fun _ => by omega, q3, q4.1, q4.2.1, fun h => (by cases h)⟩
end
end Go.Proofs.YtdnahdcjnahfkaaGreatDoor.Ev
namespace Go.Proofs.YtdnahdcjnahfkaaGreatDoor.Ev
open Go

/-- What was there stays as it was. -/
structure Keeps (w w' : World) : Prop where
  os : w'.os = w.os
  tape : w'.tape = w.tape
  output : w'.output = w.output
  size : w.heap.size ≤ w'.heap.size
  keep : ∀ b, b < w.heap.size → w'.heap[b]? = w.heap[b]?
section
variable {E : Env} {ρ : Nat → Option Loc} {H : Heap} {w w' : World}
theorem Keeps.of_stp {ρ' : Nat → Option Loc} {H' : Heap} {nx nx' : Nat} (h : Stp ρ (T.l : T Blk).get w nx ρ' H' w' nx') : Keeps w w' :=
  ⟨h.os, h.tape, h.output, h.size, fun b hb => h.keep b hb fun i n t L hi => by rw [T.get_l] at hi; cases hi⟩
theorem Keeps.stp {nx : Nat} (h : Keeps w w') : Stp ρ H w nx ρ H w' nx :=
  ⟨Nat.le_refl _, fun i h1 h2 => by omega, fun _ _ => rfl, h.os, h.tape, h.output, h.size, fun b hb _ => h.keep b hb, fun i n t L h1 h2 => .inr ⟨i, n, t, L, h1, h2, rfl⟩⟩
theorem Keeps.inv (h : Keeps w w') (hI : Inv E ρ H w) : Inv E ρ H w' := by
  refine ⟨fun i n t hi => ?_, hI.inj⟩
  obtain ⟨L, hL, hb⟩ := hI.at_ i n t hi
  refine ⟨L, hL, ?_⟩
  have hlt := hb.lt
  obtain ⟨c, el, z, h1, h2⟩ := hb
  exact ⟨c, el, z, by rw [h.keep _ hlt]; exact h1, h2⟩
end

/-- Functions of the program, one by one. -/
theorem fns_nil {P : Program} : ∀ d ∈ ([] : List FnD), d.Of P := fun d hd => by cases hd
theorem fns_cons {P : Program} {i : Nat} {fn : Func} {o : List (Nat × List Nat)} {l : List FnD} (h : P.funcs[i]? = some fn) (hn : (fn.name == "runtime.NumGoroutine") = false) (hl : ∀ d ∈ l, d.Of P) : ∀ d ∈ (⟨i, fn, o⟩ : FnD) :: l, d.Of P := fun d hd => by
  rcases List.mem_cons.1 hd with rfl | hd
  · exact ⟨h, hn⟩
  · exact hl d hd
theorem orcs_nil {P : Program} {E : Env} {F : Facts} : ∀ p ∈ ([] : List (Nat × FnE)), FnRel P E F p.1 p.2 := fun d hd => by cases hd
theorem orcs_cons {P : Program} {E : Env} {F : Facts} {i : Nat} {e : FnE} {l : List (Nat × FnE)} (h : FnRel P E F i e) (hl : ∀ p ∈ l, FnRel P E F p.1 p.2) : ∀ p ∈ (i, e) :: l, FnRel P E F p.1 p.2 := fun p hp => by
  rcases List.mem_cons.1 hp with rfl | hp
  · exact h
  · exact hl p hp
def MixOk (P : Program) (E : Env) (p : Nat × (Orc → Orc)) : Prop := ∀ run, OrcOk P E p.1 run → OrcOk P E p.1 (p.2 run)
theorem mixs_nil {P : Program} {E : Env} : ∀ p ∈ ([] : List (Nat × (Orc → Orc))), MixOk P E p := fun d hd => by cases hd
theorem mixs_cons {P : Program} {E : Env} {p : Nat × (Orc → Orc)} {l : List (Nat × (Orc → Orc))} (h : MixOk P E p) (hl : ∀ p ∈ l, MixOk P E p) : ∀ q ∈ p :: l, MixOk P E q := fun q hq => by
  rcases List.mem_cons.1 hq with rfl | hq
  · exact h
  · exact hl q hq
/-- A run that ends in 'true', over any world. -/
theorem run_true {P : Program} {E : Env} {F : Facts} (hF : F.Of E) (hm : P.follows .mixedOrders = true) {fuel depth : Nat} {fns : List FnD} {orcs : List (Nat × FnE)} {mixs : List (Nat × (Orc → Orc))} (hfns : ∀ d ∈ fns, d.Of P) (horcs : ∀ p ∈ orcs, FnRel P E F p.1 p.2) (hmix : ∀ p ∈ mixs, MixOk P E p) {f : Nat} {as : List AV}
    (hf : FnHas P f) (hk : runMK P F fuel depth fns orcs mixs f as .l 0 isTrue = true) {vs : List Value} (hvs : VRs E (fun _ => none) as vs) (w : World) : Calls P f vs.toArray w (Ret fun v w' => v = .bool true ∧ Keeps w w') := by
  obtain ⟨r, h', nx', hk, _, _, hC⟩ := runMK_some (E := E) hF hm hfns horcs hmix hf hk (fun i _ => T.get_l i)
  replace hk := boolK_some hk
  obtain ⟨b, rfl, hk⟩ := hk
  have hb : b = true := hk
  subst hb
  have hI : Inv E (fun _ => none) (T.l : T Blk).get w := ⟨fun i n t hi => (by rw [T.get_l] at hi; cases hi), fun i j n t m u hi => (by rw [T.get_l] at hi; cases hi)⟩
  refine (hC (fun _ => none) w vs (fun _ _ _ => rfl) hI hvs).mono ?_
  rintro e w' ⟨v, rfl, ρ', s1, _, s3⟩
  refine ⟨v, rfl, ?_, Keeps.of_stp s1⟩
  simpa only [VR] using s3
/-- A function without arguments that always answers 'true'. -/
noncomputable def gTrue : Orc := fun as h nx k => @List.rec AV (fun _ => Bool) (k (.bool true) h nx) (fun _ _ _ => false) as
theorem true_orc {P : Program} {E : Env} {F : Facts} {f : Nat} (hf : FnHas P f) (hC : ∀ w, Calls P f #[] w (Ret fun v w' => v = .bool true ∧ Keeps w w')) : FnRel P E F f (.orc gTrue) := by
  refine .orc fun as h nx k hk hfr => ?_
  cases as with
  | cons _ _ => cases hk
  | nil =>
    refine ⟨_, h, nx, hk, hfr, Nat.le_refl _, .inl ⟨hf, fun ρ w vs _ hI hvs => ?_⟩⟩
    simp only [VRs] at hvs
    subst hvs
    refine (hC w).mono ?_
    rintro e w' ⟨v, rfl, rfl, hkp⟩
    exact ⟨_, rfl, ρ, hkp.stp, hkp.inv hI, by simp only [VR]⟩
end Go.Proofs.YtdnahdcjnahfkaaGreatDoor.Ev
namespace Go.Proofs.YtdnahdcjnahfkaaGreatDoor.Ev
open Go

/-! ### One value against another, but for the blocks' numbers -/
def IsFlat (x : AV) : Prop := ∀ (E : Env) (ρ ρ' : Nat → Option Loc) (v : Value), VR E ρ x v → VR E ρ' x v
mutual
inductive Rel (σ : Nat → Option Nat) : AV → AV → Prop where
  | flat {x : AV} (h : IsFlat x) : Rel σ x x
  | sl {j i n es : Nat} (h : σ j = some i) : Rel σ (.sl j 0 n n true es) (.sl i 0 n n true es)
  | ptr {j i o : Nat} (h : σ j = some i) : Rel σ (.ptr j o) (.ptr i o)
  | ifc {t : Nat} {x y : AV} (h : Rel σ x y) : Rel σ (.ifc t x) (.ifc t y)
  | agg {l m : List AV} (h : RelL σ l m) : Rel σ (.agg l) (.agg m)
  | tup {l m : List AV} (h : RelL σ l m) : Rel σ (.tup l) (.tup m)
inductive RelL (σ : Nat → Option Nat) : List AV → List AV → Prop where
  | nil : RelL σ [] []
  | cons {x y : AV} {l m : List AV} (h : Rel σ x y) (hs : RelL σ l m) : RelL σ (x :: l) (y :: m)
end
section
variable {E : Env} {ρ ρ0 : Nat → Option Loc} {σ σ' : Nat → Option Nat}
mutual
theorem Rel.mono (hs : ∀ j i, σ j = some i → σ' j = some i) : ∀ {x y : AV}, Rel σ x y → Rel σ' x y
  | _, _, .flat h => .flat h
  | _, _, .sl h => .sl (hs _ _ h)
  | _, _, .ptr h => .ptr (hs _ _ h)
  | _, _, .ifc h => .ifc (Rel.mono hs h)
  | _, _, .agg h => .agg (RelL.mono hs h)
  | _, _, .tup h => .tup (RelL.mono hs h)
theorem RelL.mono (hs : ∀ j i, σ j = some i → σ' j = some i) : ∀ {x y : List AV}, RelL σ x y → RelL σ' x y
  | _, _, .nil => .nil
  | _, _, .cons h k => .cons (Rel.mono hs h) (RelL.mono hs k)
end
mutual
theorem Rel.vr (hs : ∀ j i, σ j = some i → ρ0 j = ρ i) : ∀ {x y : AV} (_ : Rel σ x y) (v : Value), VR E ρ0 x v ↔ VR E ρ y v
  | _, _, .flat h, v => ⟨h E _ _ v, h E _ _ v⟩
  | _, _, .sl h, v => by simp only [VR]; rw [hs _ _ h]
  | _, _, .ptr h, v => by simp only [VR]; rw [hs _ _ h]
  | _, _, .ifc h, v => by
    simp only [VR]
    exact ⟨fun ⟨x', h1, h2⟩ => ⟨x', (Rel.vr hs h x').1 h1, h2⟩, fun ⟨x', h1, h2⟩ => ⟨x', (Rel.vr hs h x').2 h1, h2⟩⟩
  | _, _, .agg h, v => by
    simp only [VR]
    exact ⟨fun ⟨x', h1, h2⟩ => ⟨x', (RelL.vr hs h x').1 h1, h2⟩, fun ⟨x', h1, h2⟩ => ⟨x', (RelL.vr hs h x').2 h1, h2⟩⟩
  | _, _, .tup h, v => by
    simp only [VR]
    exact ⟨fun ⟨x', h1, h2⟩ => ⟨x', (RelL.vr hs h x').1 h1, h2⟩, fun ⟨x', h1, h2⟩ => ⟨x', (RelL.vr hs h x').2 h1, h2⟩⟩
theorem RelL.vr (hs : ∀ j i, σ j = some i → ρ0 j = ρ i) : ∀ {x y : List AV} (_ : RelL σ x y) (v : List Value), VRs E ρ0 x v ↔ VRs E ρ y v
  | _, _, .nil, v => by simp only [VRs]
  | _, _, .cons h k, v => by
    simp only [VRs]
    exact ⟨fun ⟨u, r, h1, h2, h3⟩ => ⟨u, r, (Rel.vr hs h u).1 h1, (RelL.vr hs k r).1 h2, h3⟩, fun ⟨u, r, h1, h2, h3⟩ => ⟨u, r, (Rel.vr hs h u).2 h1, (RelL.vr hs k r).2 h2, h3⟩⟩
end
mutual
/-- One way alone. -/
theorem Rel.to (hs : ∀ j i L, σ j = some i → ρ0 j = some L → ρ i = some L) : ∀ {x y : AV} (_ : Rel σ x y) (v : Value), VR E ρ0 x v → VR E ρ y v
  | _, _, .flat h, v => h E _ _ v
  | _, _, .sl h, v => by
    simp only [VR]
    rintro ⟨L, cc, h1, h2⟩
    exact ⟨L, cc, hs _ _ _ h h1, h2⟩
  | _, _, .ptr h, v => by
    simp only [VR]
    rintro ⟨L, h1, h2⟩
    exact ⟨L, hs _ _ _ h h1, h2⟩
  | _, _, .ifc h, v => by
    simp only [VR]
    exact fun ⟨x', h1, h2⟩ => ⟨x', Rel.to hs h x' h1, h2⟩
  | _, _, .agg h, v => by
    simp only [VR]
    exact fun ⟨x', h1, h2⟩ => ⟨x', RelL.to hs h x' h1, h2⟩
  | _, _, .tup h, v => by
    simp only [VR]
    exact fun ⟨x', h1, h2⟩ => ⟨x', RelL.to hs h x' h1, h2⟩
theorem RelL.to (hs : ∀ j i L, σ j = some i → ρ0 j = some L → ρ i = some L) : ∀ {x y : List AV} (_ : RelL σ x y) (v : List Value), VRs E ρ0 x v → VRs E ρ y v
  | _, _, .nil, v => by simp only [VRs]; exact id
  | _, _, .cons h k, v => by
    simp only [VRs]
    exact fun ⟨u, r, h1, h2, h3⟩ => ⟨u, r, Rel.to hs h u h1, RelL.to hs k r h2, h3⟩
end
theorem RelL.length : ∀ {x y : List AV}, RelL σ x y → x.length = y.length
  | _, _, .nil => rfl
  | _, _, .cons _ k => by simp [RelL.length k]
theorem RelL.get : ∀ {x y : List AV}, RelL σ x y → ∀ {k : Nat} {a : AV}, x[k]? = some a → ∃ b, y[k]? = some b ∧ Rel σ a b
  | _, _, .nil, k, a, h => by simp at h
  | _, _, .cons h0 k0, k, a, h => by
    cases k with
    | zero => simp at h; subst h; exact ⟨_, rfl, h0⟩
    | succ k => obtain ⟨b, h1, h2⟩ := RelL.get k0 (k := k) (by simpa using h); exact ⟨b, by simpa using h1, h2⟩
end
abbrev nums (is : List Nat) : Nat → Option Nat := fun j => is[j]?
theorem nums_mono {is is' : List Nat} (h : is <+: is') : ∀ j i, nums is j = some i → nums is' j = some i := fun j i hj => by
  obtain ⟨t, rfl⟩ := h
  have : j < is.length := (List.getElem?_eq_some_iff.1 hj).1
  show (is ++ t)[j]? = some i
  rw [List.getElem?_append_left this]; exact hj

/-! ### how it is found -/
abbrev IsK := List Nat → Nat → Bool
noncomputable def asgK (j i : Nat) (is : List Nat) (cnt : Nat) (k : IsK) : Bool :=
  @Bool.rec (fun _ => Bool) (ifK (Nat.beq j cnt) (appK is [i] fun is => forceN (Nat.succ cnt) fun cnt => k is cnt) false) (nthK is j fun i' => ifK (Nat.beq i i') (k is cnt) false) (Nat.blt j cnt)
noncomputable def slRel (j o n c : Nat) (ex : Bool) (es : Nat) (y : AV) (is : List Nat) (cnt : Nat) (k : IsK) : Bool :=
  slK y (fun i o' n' c' ex' es' => ifK (Nat.beq o 0) (ifK (Nat.beq o' 0) (ifK (Nat.beq n c) (ifK (Nat.beq n' c') (ifK (Nat.beq n n') (ifK (Nat.beq es es') (ifK ex (ifK ex' (asgK j i is cnt k) false) false) false) false) false) false) false) false) false false
noncomputable def ptrRel (j o : Nat) (y : AV) (is : List Nat) (cnt : Nat) (k : IsK) : Bool := ptrK y fun i o' => ifK (Nat.beq o o') (asgK j i is cnt k) false
noncomputable def rel0K (x y : AV) (is : List Nat) (cnt : Nat) (k : IsK) : Bool :=
  @AV.casesOn (fun _ => Bool) x (fun _ => flat1 x (av1Eq (k is cnt) x y)) (fun _ _ => flat1 x (av1Eq (k is cnt) x y)) (fun _ _ => flat1 x (av1Eq (k is cnt) x y)) (fun _ _ => flat1 x (av1Eq (k is cnt) x y)) (fun _ => flat1 x (av1Eq (k is cnt) x y)) (fun j o => ptrRel j o y is cnt k) (flat1 x (av1Eq (k is cnt) x y)) (fun _ => false)
    (fun j o n c ex es => slRel j o n c ex es y is cnt k) (flat1 x (av1Eq (k is cnt) x y)) (flat1 x (av1Eq (k is cnt) x y)) (fun _ _ _ => false) (flat1 x (av1Eq (k is cnt) x y)) (fun _ _ => false) (flat1 x (av1Eq (k is cnt) x y)) (fun _ => false) (fun _ => false) false (fun _ _ => false)
/-- Is it an interface's value? -/
noncomputable def ifcOr (x : AV) (k : Nat → AV → Bool) (e : Bool) : Bool :=
  @AV.casesOn (fun _ => Bool) x (fun _ => e) (fun _ _ => e) (fun _ _ => e) (fun _ _ => e) (fun _ => e) (fun _ _ => e) e (fun _ => e) (fun _ _ _ _ _ _ => e) e e (fun _ _ _ => e) e (fun t v => k t v) e (fun _ => e) (fun _ => e) e (fun _ _ => e)
noncomputable def aggOr (x : AV) (k : List AV → Bool) (e : Bool) : Bool :=
  @AV.casesOn (fun _ => Bool) x (fun _ => e) (fun _ _ => e) (fun _ _ => e) (fun _ _ => e) (fun _ => e) (fun _ _ => e) e (fun _ => e) (fun _ _ _ _ _ _ => e) e e (fun _ _ _ => e) e (fun _ _ => e) e (fun l => k l) (fun _ => e) e (fun _ _ => e)
noncomputable def tupOr (x : AV) (k : List AV → Bool) (e : Bool) : Bool :=
  @AV.casesOn (fun _ => Bool) x (fun _ => e) (fun _ _ => e) (fun _ _ => e) (fun _ _ => e) (fun _ => e) (fun _ _ => e) e (fun _ => e) (fun _ _ _ _ _ _ => e) e e (fun _ _ _ => e) e (fun _ _ => e) e (fun _ => e) (fun l => k l) e (fun _ _ => e)
theorem ifcOr_some {x : AV} {k : Nat → AV → Bool} {e : Bool} (h : ifcOr x k e = true) : (∃ t v, x = .ifc t v ∧ k t v = true) ∨ e = true := by cases x <;> first | exact .inl ⟨_, _, rfl, h⟩ | exact .inr h
theorem aggOr_some {x : AV} {k : List AV → Bool} {e : Bool} (h : aggOr x k e = true) : (∃ l, x = .agg l ∧ k l = true) ∨ e = true := by cases x <;> first | exact .inl ⟨_, rfl, h⟩ | exact .inr h
theorem tupOr_some {x : AV} {k : List AV → Bool} {e : Bool} (h : tupOr x k e = true) : (∃ l, x = .tup l ∧ k l = true) ∨ e = true := by cases x <;> first | exact .inl ⟨_, rfl, h⟩ | exact .inr h
abbrev RelK := AV → AV → List Nat → Nat → IsK → Bool
noncomputable def rel1K : RelK := fun x y is cnt k => ifcOr x (fun t a => ifcK y (fun t' b => ifK (Nat.beq t t') (rel0K a b is cnt k) false) false) (rel0K x y is cnt k)
noncomputable def listR (r : RelK) (l : List AV) : List AV → List Nat → Nat → IsK → Bool :=
  @List.rec AV (fun _ => List AV → List Nat → Nat → IsK → Bool) (fun m is cnt k => @List.rec AV (fun _ => Bool) (k is cnt) (fun _ _ _ => false) m) (fun x _ ih m is cnt k => @List.rec AV (fun _ => Bool) false (fun y ys _ => r x y is cnt fun is cnt => ih ys is cnt k) m) l
noncomputable def rel2K : RelK := fun x y is cnt k => aggOr x (fun l => aggK y fun m => listR rel1K l m is cnt k) (rel1K x y is cnt k)
noncomputable def rel3K : RelK := fun x y is cnt k => tupOr x (fun l => tupK y fun m => listR rel2K l m is cnt k) (rel2K x y is cnt k)
def RelOk (r : RelK) : Prop := ∀ x y is k, r x y is is.length k = true → ∃ is', k is' is'.length = true ∧ is <+: is' ∧ Rel (nums is') x y
theorem asgK_some {j i : Nat} {is : List Nat} {k : IsK} (h : asgK j i is is.length k = true) : ∃ is', k is' is'.length = true ∧ is <+: is' ∧ nums is' j = some i := by
  unfold asgK at h
  cases hb : Nat.blt j is.length with
  | true =>
    rw [hb] at h
    replace h := nthK_some h
    obtain ⟨i', h1, h⟩ := h
    replace h := ifK_and h
    obtain ⟨h2, h⟩ := h
    have := beq_of h2; subst this
    exact ⟨is, h, List.prefix_refl _, h1⟩
  | false =>
    rw [hb] at h
    replace h := ifK_and h
    obtain ⟨h2, h⟩ := h
    have := beq_of h2; subst this
    rw [appK_eq, forceN_eq] at h
    exact ⟨is ++ [i], by simpa using h, List.prefix_append _ _, by simp [nums]⟩
theorem flat_rel {x y : AV} {is : List Nat} {k : IsK} (h : flat1 x (av1Eq (k is is.length) x y) = true) : ∃ is', k is' is'.length = true ∧ is <+: is' ∧ Rel (nums is') x y := by
  replace h := flat1_some h
  obtain ⟨h, hf⟩ := h
  replace h := av1Eq_some h
  obtain ⟨rfl, h⟩ := h
  exact ⟨is, h, List.prefix_refl _, .flat hf⟩
theorem rel0_ok : RelOk rel0K := fun x y is k h => by
  cases x with
  | ptr j o =>
    change ptrRel j o y is is.length k = true at h
    unfold ptrRel at h
    replace h := ptrK_some h
    obtain ⟨i, o', rfl, h⟩ := h
    replace h := ifK_and h
    obtain ⟨h1, h⟩ := h
    have := beq_of h1; subst this
    obtain ⟨is', h2, h3, h4⟩ := asgK_some h
    exact ⟨is', h2, h3, .ptr h4⟩
  | sl j o n c ex es =>
    change slRel j o n c ex es y is is.length k = true at h
    unfold slRel at h
    replace h := slK_some h
    rcases h with ⟨i, o', n', c', ex', es', rfl, h⟩ | ⟨_, h⟩ | ⟨_, h⟩
    · replace h := ifK_and h
      obtain ⟨h1, h⟩ := h
      have := beq_of h1; subst this
      replace h := ifK_and h
      obtain ⟨h1, h⟩ := h
      have := beq_of h1; subst this
      replace h := ifK_and h
      obtain ⟨h1, h⟩ := h
      have := beq_of h1; subst this
      replace h := ifK_and h
      obtain ⟨h1, h⟩ := h
      have := beq_of h1; subst this
      replace h := ifK_and h
      obtain ⟨h1, h⟩ := h
      have := beq_of h1; subst this
      replace h := ifK_and h
      obtain ⟨h1, h⟩ := h
      have := beq_of h1; subst this
      replace h := ifK_and h
      obtain ⟨h1, h⟩ := h
      subst h1
      replace h := ifK_and h
      obtain ⟨h1, h⟩ := h
      subst h1
      obtain ⟨is', h2, h3, h4⟩ := asgK_some h
      exact ⟨is', h2, h3, .sl h4⟩
    · cases h
    · cases h
  | bool => exact flat_rel h
  | int => exact flat_rel h
  | sym => exact flat_rel h
  | opq => exact flat_rel h
  | str => exact flat_rel h
  | nilp => exact flat_rel h
  | nils => exact flat_rel h
  | empt => exact flat_rel h
  | nilf => exact flat_rel h
  | nili => exact flat_rel h
  | _ => cases h
theorem rel1_ok : RelOk rel1K := fun x y is k h => by
  unfold rel1K at h
  replace h := ifcOr_some h
  rcases h with ⟨t, a, rfl, h⟩ | h
  · replace h := ifcK_some h
    rcases h with ⟨t', b, rfl, h⟩ | ⟨_, h⟩
    · replace h := ifK_and h
      obtain ⟨h1, h⟩ := h
      have := beq_of h1; subst this
      obtain ⟨is', h2, h3, h4⟩ := rel0_ok a b is k h
      exact ⟨is', h2, h3, .ifc h4⟩
    · cases h
  · exact rel0_ok x y is k h
theorem listR_ok {r : RelK} (hr : RelOk r) : ∀ (l m : List AV) (is : List Nat) (k : IsK), listR r l m is is.length k = true → ∃ is', k is' is'.length = true ∧ is <+: is' ∧ RelL (nums is') l m
  | [], [], is, k, h => ⟨is, h, List.prefix_refl _, .nil⟩
  | [], _ :: _, _, _, h => by cases h
  | _ :: _, [], _, _, h => by cases h
  | x :: l, y :: m, is, k, h => by
    obtain ⟨is1, h1, p1, r1⟩ := hr x y is (fun is cnt => listR r l m is cnt k) h
    obtain ⟨is2, h2, p2, r2⟩ := listR_ok hr l m is1 k h1
    exact ⟨is2, h2, p1.trans p2, .cons (r1.mono (nums_mono p2)) r2⟩
theorem rel2_ok : RelOk rel2K := fun x y is k h => by
  unfold rel2K at h
  replace h := aggOr_some h
  rcases h with ⟨l, rfl, h⟩ | h
  · replace h := aggK_some h
    obtain ⟨m, rfl, h⟩ := h
    obtain ⟨is', h2, h3, h4⟩ := listR_ok rel1_ok l m is k h
    exact ⟨is', h2, h3, .agg h4⟩
  · exact rel1_ok x y is k h
theorem rel3_ok : RelOk rel3K := fun x y is k h => by
  unfold rel3K at h
  replace h := tupOr_some h
  rcases h with ⟨l, rfl, h⟩ | h
  · replace h := tupK_some h
    obtain ⟨m, rfl, h⟩ := h
    obtain ⟨is', h2, h3, h4⟩ := listR_ok rel2_ok l m is k h
    exact ⟨is', h2, h3, .tup h4⟩
  · exact rel2_ok x y is k h
noncomputable def freeCK (c : Bool) (t : T AV) (q : Nat) (k : Bool) : Bool := @Bool.rec (fun _ => Bool) k (freeK t q k) c
theorem freeCK_some {c : Bool} {t : T AV} {q : Nat} {k : Bool} (h : freeCK c t q k = true) : (c = true → t.get q = none) ∧ k = true := by
  cases c with
  | false => exact ⟨fun e => (by cases e), h⟩
  | true => obtain ⟨h1, h2⟩ := freeK_some (t := t) (q := q) (k := k) h; exact ⟨fun _ => h1, h2⟩
/-- Blocks, one by one (c: they may be of no type that is kept in mind). -/
noncomputable def blocksK (c : Bool) (h : T Blk) (bl : List (List AV)) : Nat → List Nat → Nat → IsK → Bool :=
  @List.rec (List AV) (fun _ => Nat → List Nat → Nat → IsK → Bool) (fun _ is cnt k => k is cnt)
    (fun cs _ ih b is cnt k => nthK is b fun i => blkK h i fun N t => lenK cs 0 fun n => ifK (Nat.beq N n) (forceN (Nat.add N 7) fun q => freeCK c t q (readK t N 0 fun cs' => listR rel1K cs cs' is cnt fun is cnt => forceN (Nat.succ b) fun b => ih b is cnt k)) false) bl
/-- Of the blocks that are known: how they go together. -/
def BlkRel (c : Bool) (σ : Nat → Option Nat) (h : T Blk) (b : Nat) (cs : List AV) : Prop := ∃ i t cs', σ b = some i ∧ h.get i = some (.live cs.length t) ∧ cs'.length = cs.length ∧ (∀ q, q < cs.length → t.get q = cs'[q]?) ∧ RelL σ cs cs' ∧ (c = true → t.get (cs.length + 7) = none)
theorem BlkRel.mono {c : Bool} {σ σ' : Nat → Option Nat} {h : T Blk} {b : Nat} {cs : List AV} (hs : ∀ j i, σ j = some i → σ' j = some i) (k : BlkRel c σ h b cs) : BlkRel c σ' h b cs := by
  obtain ⟨i, t, cs', h1, h2, h3, h4, h5, h6⟩ := k
  exact ⟨i, t, cs', hs _ _ h1, h2, h3, h4, h5.mono hs, h6⟩
theorem blocksK_some {c : Bool} {h : T Blk} : ∀ (bl : List (List AV)) (b : Nat) (is : List Nat) (k : IsK), blocksK c h bl b is is.length k = true → ∃ is', k is' is'.length = true ∧ is <+: is' ∧ ∀ q cs, bl[q]? = some cs → BlkRel c (nums is') h (b + q) cs
  | [], b, is, k, e => ⟨is, e, List.prefix_refl _, fun q cs hq => by simp at hq⟩
  | cs :: bl, b, is, k, e => by
    replace e := nthK_some (k := fun i => blkK h i fun N t => lenK cs 0 fun n => ifK (Nat.beq N n) (forceN (Nat.add N 7) fun q => freeCK c t q (readK t N 0 fun cs' => listR rel1K cs cs' is is.length fun is cnt => forceN (Nat.succ b) fun b => blocksK c h bl b is cnt k)) false) e
    obtain ⟨i, hi, e⟩ := e
    replace e := blkK_some e
    obtain ⟨N, t, hb, e⟩ := e
    rw [lenK_eq] at e
    replace e := ifK_and e
    obtain ⟨hN, e⟩ := e
    have hN := beq_of hN
    rw [Nat.zero_add] at hN
    subst hN
    rw [forceN_eq] at e
    obtain ⟨hfr, e⟩ := freeCK_some e
    replace e := readK_some e
    obtain ⟨cs', hl, hg, e⟩ := e
    replace e := listR_ok rel1_ok cs cs' is _ e
    obtain ⟨is1, e, p1, r1⟩ := e
    rw [forceN_eq] at e
    replace e := blocksK_some bl (b + 1) is1 k e
    obtain ⟨is2, e, p2, r2⟩ := e
    refine ⟨is2, e, p1.trans p2, fun q cs0 hq => ?_⟩
    cases q with
    | zero =>
      simp at hq; subst hq
      exact ⟨i, t, cs', nums_mono (p1.trans p2) _ _ hi, hb, hl, fun q hq => by have := hg q hq; rwa [Nat.zero_add] at this, r1.mono (nums_mono p2), hfr⟩
    | succ q =>
      have := r2 q cs0 (by simpa using hq)
      rwa [show b + 1 + q = b + (q + 1) from by omega] at this
noncomputable def notInK (x : Nat) (k : Bool) (l : List Nat) : Bool := @List.rec Nat (fun _ => Bool) k (fun y _ ih => notK (Nat.beq x y) ih) l
noncomputable def nodupK (k : Bool) (l : List Nat) : Bool := @List.rec Nat (fun _ => Bool) k (fun x l ih => notInK x ih l) l
theorem notInK_some {x : Nat} {k : Bool} : ∀ {l : List Nat}, notInK x k l = true → k = true ∧ x ∉ l
  | [], h => ⟨h, by simp⟩
  | y :: l, h => by
    replace h := notK_some (b := Nat.beq x y) (k := notInK x k l) h
    obtain ⟨h1, h⟩ := h
    replace h := notInK_some h
    obtain ⟨h, h2⟩ := h
    exact ⟨h, by simp [bne_of h1, h2]⟩
theorem nodupK_some {k : Bool} : ∀ {l : List Nat}, nodupK k l = true → k = true ∧ l.Nodup
  | [], h => ⟨h, by simp⟩
  | x :: l, h => by
    replace h := notInK_some (k := nodupK k l) (l := l) h
    obtain ⟨h, h1⟩ := h
    replace h := nodupK_some h
    obtain ⟨h, h2⟩ := h
    exact ⟨h, by simp [h1, h2]⟩
noncomputable def matchK (c0 : Bool) (xs ys : List AV) (bl : List (List AV)) (h : T Blk) (is0 : List Nat) (k : List Nat → Bool) : Bool :=
  lenK is0 0 fun c => listR rel3K xs ys is0 c fun is cnt => blocksK c0 h bl 0 is cnt fun is cnt => lenK bl 0 fun nb => ifK (Nat.beq nb cnt) (nodupK (k is) is) false
theorem matchK_some {c0 : Bool} {xs ys : List AV} {bl : List (List AV)} {h : T Blk} {is0 : List Nat} {k : List Nat → Bool} (e : matchK c0 xs ys bl h is0 k = true) :
    ∃ is, k is = true ∧ is0 <+: is ∧ is.length = bl.length ∧ is.Nodup ∧ RelL (nums is) xs ys ∧ ∀ q cs, bl[q]? = some cs → BlkRel c0 (nums is) h q cs := by
  unfold matchK at e
  rw [lenK_eq, Nat.zero_add] at e
  replace e := listR_ok rel3_ok xs ys is0 _ e
  obtain ⟨is1, e, p1, r1⟩ := e
  replace e := blocksK_some bl 0 is1 _ e
  obtain ⟨is2, e, p2, r2⟩ := e
  rw [lenK_eq] at e
  replace e := ifK_and e
  obtain ⟨hn, e⟩ := e
  have hn := beq_of hn
  replace e := nodupK_some e
  obtain ⟨e, hd⟩ := e
  exact ⟨is2, e, p1.trans p2, by omega, hd, r1.mono (nums_mono p2), fun q cs hq => by have := r2 q cs hq; rwa [Nat.zero_add] at this⟩

/-! ### Data that are laid -/
def BlkL (E : Env) (ρ : Nat → Option Loc) (w : World) (L : Loc) (cs : List AV) : Prop :=
  ∃ c e z, w.heap[L.b]? = some (.cells c e z) ∧ (∀ k, k < c.size + L.pl → ¬ (z.1 ≤ k ∧ k < z.2)) ∧ c.size = L.sz ∧ ∀ k a, cs[k]? = some a → ∃ v, c[L.o + k]? = some v ∧ VR E ρ a v ∧ v.oneCell' = true
structure LayIn (E : Env) (ρ : Nat → Option Loc) (w : World) (bl : List (List AV)) : Prop where
  at_ : ∀ q cs, bl[q]? = some cs → ∃ L, ρ q = some L ∧ BlkL E ρ w L cs
  inj : ∀ q q' L L', q < bl.length → q' < bl.length → q ≠ q' → ρ q = some L → ρ q' = some L' → L.b ≠ L'.b
theorem BlkL.lt {E : Env} {ρ : Nat → Option Loc} {w : World} {L : Loc} {cs : List AV} (h : BlkL E ρ w L cs) : L.b < w.heap.size := by
  obtain ⟨c, e, z, h1, _⟩ := h
  exact (Array.getElem?_eq_some_iff.1 h1).1
/-- A call, from data to data. -/
structure Ent where
  as : List AV
  bl : List (List AV)
  r : AV
  out : List (List AV)
def EntOk (P : Program) (E : Env) (f : Nat) (e : Ent) : Prop := ∀ ρ w vs, (∀ q, e.bl.length ≤ q → ρ q = none) → LayIn E ρ w e.bl → VRs E ρ e.as vs → Calls P f vs.toArray w (Ret fun v w' => ∃ ρ', (∀ q, q < e.bl.length → ρ' q = ρ q) ∧ (∀ q, (e.bl ++ e.out).length ≤ q → ρ' q = none) ∧ LayIn E ρ' w' (e.bl ++ e.out) ∧ VR E ρ' e.r v ∧
  w'.os = w.os ∧ w'.tape = w.tape ∧ w'.output = w.output ∧ w.heap.size ≤ w'.heap.size ∧ (∀ b, b < w.heap.size → (∀ q L, q < e.bl.length → ρ q = some L → L.b ≠ b) → w'.heap[b]? = w.heap[b]?) ∧ ∀ q L, e.bl.length ≤ q → q < (e.bl ++ e.out).length → ρ' q = some L → w.heap.size ≤ L.b)

/-! ### by the evaluator's run -/
noncomputable def layK (bl : List (List AV)) : T Blk → Nat → (T Blk → Nat → Bool) → Bool :=
  @List.rec (List AV) (fun _ => T Blk → Nat → (T Blk → Nat → Bool) → Bool) (fun h nx k => k h nx) (fun cs _ ih h nx k => mkK cs h nx fun h nx => ih h nx k) bl
noncomputable def idsK (n : Nat) : Nat → (List Nat → Bool) → Bool := @Nat.rec (fun _ => Nat → (List Nat → Bool) → Bool) (fun _ k => k []) (fun _ ih i k => forceN (Nat.succ i) fun j => ih j fun r => k (i :: r)) n
theorem idsK_some : ∀ {n i : Nat} {k : List Nat → Bool}, idsK n i k = true → ∃ is, k is = true ∧ is.length = n ∧ ∀ q, q < n → is[q]? = some (i + q)
  | 0, i, k, h => ⟨[], h, rfl, fun q hq => by omega⟩
  | n + 1, i, k, h => by
    change forceN (Nat.succ i) (fun j => idsK n j fun r => k (i :: r)) = true at h
    rw [forceN_eq] at h
    replace h := idsK_some h
    obtain ⟨is, h, h1, h2⟩ := h
    refine ⟨i :: is, h, by simp [h1], fun q hq => ?_⟩
    cases q with
    | zero => rfl
    | succ q => have := h2 q (by omega); rw [List.getElem?_cons_succ, this]; congr 1; omega
theorem layK_some : ∀ {bl : List (List AV)} {h : T Blk} {nx : Nat} {k : T Blk → Nat → Bool}, layK bl h nx k = true → Fresh h nx → ∃ h', k h' (nx + bl.length) = true ∧ Fresh h' (nx + bl.length) ∧ (∀ i, i < nx → h'.get i = h.get i) ∧ ∀ q cs, bl[q]? = some cs → ∃ t, h'.get (nx + q) = some (.live cs.length t) ∧ (∀ j, j < cs.length → t.get j = cs[j]?) ∧ t.get (cs.length + 7) = none
  | [], h, nx, k, e, hf => ⟨h, e, hf, fun _ _ => rfl, fun q cs hq => by simp at hq⟩
  | cs :: bl, h, nx, k, e, hf => by
    replace e := mkK_some (k := fun h nx => layK bl h nx k) e
    obtain ⟨t, h1, ht, hu, e⟩ := e
    obtain ⟨h2, e, f2, g2, r2⟩ := layK_some e (hf.new hu)
    have en : nx + 1 + bl.length = nx + (cs :: bl).length := by simp only [List.length_cons]; omega
    rw [en] at e f2
    refine ⟨h2, e, f2, fun i hi => by rw [g2 i (by omega), hu, if_neg (by omega)], fun q cs0 hq => ?_⟩
    cases q with
    | zero =>
      simp at hq; subst hq
      exact ⟨t, by rw [Nat.add_zero, g2 nx (by omega), hu, if_pos rfl], fun j hj => by rw [ht, if_pos hj], by rw [ht, if_neg (by omega)]⟩
    | succ q =>
      obtain ⟨t', h3, h4⟩ := r2 q cs0 (by simpa using hq)
      exact ⟨t', by rw [← h3]; congr 1; omega, h4⟩
noncomputable def entFt (F : Facts) (fuel depth : Nat) (ft : T FnE) (f : Nat) (e : Ent) (b : Bool) : Bool :=
  layK e.bl .l 0 fun h nx => callK F fuel ft depth f e.as h nx fun r h' _ => appK e.bl e.out fun bo => lenK e.bl 0 fun nb => idsK nb 0 fun is0 => matchK false [e.r] [r] bo h' is0 fun _ => b
section
variable {P : Program} {E : Env} {F : Facts}
theorem entFt_ok (hm : P.follows .mixedOrders = true) {fuel depth : Nat} {ft : T FnE} (hft : FtOk P E F ft) {f : Nat} (hf : FnHas P f) {e : Ent} {b : Bool} (hk : entFt F fuel depth ft f e b = true) : EntOk P E f e ∧ b = true := by
  unfold entFt at hk
  obtain ⟨h, hk, hfr, _, hbl⟩ := layK_some hk (fun i _ => T.get_l i)
  simp only [Nat.zero_add] at hk hfr hbl
  obtain ⟨r, h', nx', hk, _, _, hC0⟩ := callK_some (E := E) (F := F) hm hft depth f e.as h _ _ hk hfr
  have hC := hC0.body hf
  rw [appK_eq, lenK_eq, Nat.zero_add] at hk
  replace hk := idsK_some hk
  obtain ⟨is0, hk, hl0, hi0⟩ := hk
  obtain ⟨is, hb, hp, hlen, hnd, hr, hB⟩ := matchK_some hk
  refine ⟨?_, hb⟩
  have hid : ∀ q, q < e.bl.length → is[q]? = some q := fun q hq => by
    have := hi0 q hq
    rw [Nat.zero_add] at this
    exact nums_mono hp q q this
  have hlive : ∀ i n t, h.get i = some (.live n t) → i < e.bl.length := fun i n t hi => hfr.lt hi
  intro ρ w vs hnone hL hvs
  have hI : Inv E ρ h.get w := by
    refine ⟨fun i n t hi => ?_, fun i j n t m u hi hj hne L M hL1 hM => hL.inj i j L M (hlive _ _ _ hi) (hlive _ _ _ hj) hne hL1 hM⟩
    have hlt := hlive i n t hi
    have hcs : e.bl[i]? = some e.bl[i] := by simp [hlt]
    obtain ⟨L, h1, c, el, z, h2, h3, h4, h5⟩ := hL.at_ i _ hcs
    obtain ⟨t', h6, h7, h9⟩ := hbl i _ hcs
    rw [hi] at h6; injection h6 with h6; injection h6 with h6 h8; subst h6; subst h8
    refine ⟨L, h1, c, el, z, h2, h3, h4, fun k hk => ?_, TyAt.of h9⟩
    have ha : e.bl[i][k]? = some e.bl[i][k] := by simp [hk]
    obtain ⟨v, g1, g2, g3⟩ := h5 k _ ha
    exact ⟨_, v, by rw [h7 k hk, ha], g1, g2, g3⟩
  refine (hC ρ w vs (fun i h1 _ => hnone i h1) hI hvs).mono ?_
  rintro x w' ⟨v, rfl, ρ1, s1, s2, s3⟩
  refine ⟨v, rfl, fun q => (is[q]?).bind ρ1, fun q hq => ?_, fun q hq => (by show (is[q]?).bind ρ1 = none; rw [List.getElem?_eq_none (by omega)]; rfl), ?_, ?_, s1.os, s1.tape, s1.output, s1.size, fun b hb hn => s1.keep b hb fun i n t L hi hL1 => hn i L (hlive _ _ _ hi) hL1, ?_⟩
  · simp only [hid q hq, Option.bind_some]
    exact s1.same q (.inl hq)
  · have hσ : ∀ j i, nums is j = some i → (is[j]?).bind ρ1 = ρ1 i := fun j i hj => by
      show (is[j]?).bind ρ1 = ρ1 i
      rw [show is[j]? = some i from hj]; rfl
    refine ⟨fun q cs hq => ?_, fun q q' L L' hq hq' hne h1 h2 => ?_⟩
    · obtain ⟨i, t, cs', g1, g2, g3, g4, g5, _⟩ := hB q cs hq
      obtain ⟨L, hL1, c, el, z, b1, b2, b3, b4, _⟩ := s2.at_ i _ t g2
      refine ⟨L, by rw [show is[q]? = some i from g1]; exact hL1, c, el, z, b1, b2, b3, fun k a ha => ?_⟩
      have hk : k < cs.length := (List.getElem?_eq_some_iff.1 ha).1
      obtain ⟨av, v, c1, c2, c3, c4⟩ := b4 k hk
      obtain ⟨b, d1, d2⟩ := g5.get ha
      rw [g4 k hk, d1] at c1
      injection c1 with c1; subst c1
      exact ⟨v, c2, (d2.vr hσ v).2 c3, c4⟩
    · have e1 : ∀ q, q < (e.bl ++ e.out).length → ∃ i n t, is[q]? = some i ∧ h'.get i = some (.live n t) := fun q hq => by
        obtain ⟨i, t, cs', g1, g2, _⟩ := hB q _ (List.getElem?_eq_getElem hq)
        exact ⟨i, _, t, g1, g2⟩
      obtain ⟨i, n, t, g1, g2⟩ := e1 q hq
      obtain ⟨i', n', t', g1', g2'⟩ := e1 q' hq'
      rw [g1] at h1; rw [g1'] at h2
      refine s2.inj i i' n t n' t' g2 g2' (fun ee => hne ?_) L L' h1 h2
      subst ee
      have hq1 : q < is.length := by omega
      exact (List.getElem?_inj hq1 hnd).1 (by rw [g1, g1'])
  · have hσ : ∀ j i, nums is j = some i → (is[j]?).bind ρ1 = ρ1 i := fun j i hj => by
      show (is[j]?).bind ρ1 = ρ1 i
      rw [show is[j]? = some i from hj]; rfl
    cases hr with
    | cons h0 _ => exact (h0.vr hσ v).2 s3
  · intro q L hq hq2 hL1
    obtain ⟨i, t, cs', g1, g2, _⟩ := hB q _ (List.getElem?_eq_getElem hq2)
    replace hL1 : (is[q]?).bind ρ1 = some L := hL1
    rw [show is[q]? = some i from g1] at hL1
    replace hL1 : ρ1 i = some L := hL1
    rcases s1.own i _ t L g2 hL1 with h1 | ⟨j, m, u, M, h1, h2, h3⟩
    · exact h1
    · exfalso
      have hj := hlive _ _ _ h1
      obtain ⟨i', t', cs'', g1', g2', _⟩ := hB j _ (List.getElem?_eq_getElem (by rw [List.length_append]; omega))
      have : i' = j := by have := hid j hj; rw [show is[j]? = some i' from g1'] at this; exact Option.some.inj this
      subst this
      have hne : i' ≠ i := fun ee => by
        subst ee
        have hq1 : q < is.length := by omega
        have := (List.getElem?_inj hq1 hnd).1 (by rw [show is[q]? = some i' from g1, show is[i']? = some i' from g1'] : is[q]? = is[i']?)
        omega
      exact s2.inj i' i _ _ _ _ g2' g2 hne M L (by rw [s1.same i' (.inl hj)]; exact h2) hL1 h3

/-! ### how it is used -/
noncomputable def numOf (is : List Nat) (nb nx j : Nat) (k : Nat → Bool) : Bool := @Bool.rec (fun _ => Bool) (forceN (Nat.add nx (Nat.sub j nb)) k) (nthK is j k) (Nat.blt j nb)
abbrev RenK := AV → (AV → Bool) → Bool
noncomputable def ren0K (is : List Nat) (nb nx : Nat) : RenK := fun x k =>
  @AV.casesOn (fun _ => Bool) x (fun _ => flat1 x (k x)) (fun _ _ => flat1 x (k x)) (fun _ _ => flat1 x (k x)) (fun _ _ => flat1 x (k x)) (fun _ => flat1 x (k x)) (fun j o => numOf is nb nx j fun i => k (.ptr i o)) (flat1 x (k x)) (fun _ => false)
    (fun j o n c ex es => ifK (Nat.beq o 0) (ifK (Nat.beq n c) (ifK ex (numOf is nb nx j fun i => k (.sl i 0 n n true es)) false) false) false) (flat1 x (k x)) (flat1 x (k x)) (fun _ _ _ => false) (flat1 x (k x)) (fun _ _ => false) (flat1 x (k x)) (fun _ => false) (fun _ => false) false (fun _ _ => false)
noncomputable def ren1K (is : List Nat) (nb nx : Nat) : RenK := fun x k => ifcOr x (fun t a => ren0K is nb nx a fun b => k (.ifc t b)) (ren0K is nb nx x k)
noncomputable def renL (r : RenK) (l : List AV) : (List AV → Bool) → Bool := @List.rec AV (fun _ => (List AV → Bool) → Bool) (fun k => k []) (fun x _ ih k => r x fun y => ih fun ys => k (y :: ys)) l
noncomputable def ren2K (is : List Nat) (nb nx : Nat) : RenK := fun x k => aggOr x (fun l => renL (ren1K is nb nx) l fun m => k (.agg m)) (ren1K is nb nx x k)
noncomputable def ren3K (is : List Nat) (nb nx : Nat) : RenK := fun x k => tupOr x (fun l => renL (ren2K is nb nx) l fun m => k (.tup m)) (ren2K is nb nx x k)
/-- The old numbers, and the new ones. -/
def numsOf (is : List Nat) (nb nx : Nat) : Nat → Option Nat := fun j => if j < nb then is[j]? else some (nx + (j - nb))
theorem numOf_some {is : List Nat} {nb nx j : Nat} {k : Nat → Bool} (h : numOf is nb nx j k = true) : ∃ i, k i = true ∧ numsOf is nb nx j = some i := by
  unfold numOf at h
  cases hb : Nat.blt j nb with
  | true =>
    rw [hb] at h
    replace h := nthK_some h
    obtain ⟨i, h1, h⟩ := h
    exact ⟨i, h, by unfold numsOf; rw [if_pos (blt_of hb)]; exact h1⟩
  | false =>
    rw [hb] at h
    rw [forceN_eq] at h
    have : ¬ j < nb := fun hl => by rw [← Nat.blt_eq] at hl; rw [hl] at hb; cases hb
    exact ⟨_, h, by unfold numsOf; rw [if_neg this]; rfl⟩
def RenOk (σ : Nat → Option Nat) (r : RenK) : Prop := ∀ x k, r x k = true → ∃ y, k y = true ∧ Rel σ x y
theorem flat_ren {σ : Nat → Option Nat} {x : AV} {k : AV → Bool} (h : flat1 x (k x) = true) : ∃ y, k y = true ∧ Rel σ x y := by
  replace h := flat1_some h
  obtain ⟨h, hf⟩ := h
  exact ⟨x, h, .flat hf⟩
theorem ren0_ok {is : List Nat} {nb nx : Nat} : RenOk (numsOf is nb nx) (ren0K is nb nx) := fun x k h => by
  cases x with
  | ptr j o =>
    replace h := numOf_some (k := fun i => k (.ptr i o)) h
    obtain ⟨i, h, h1⟩ := h
    exact ⟨_, h, .ptr h1⟩
  | sl j o n c ex es =>
    replace h := ifK_and (b := Nat.beq o 0) (t := ifK (Nat.beq n c) (ifK ex (numOf is nb nx j fun i => k (.sl i 0 n n true es)) false) false) h
    obtain ⟨h1, h⟩ := h
    have := beq_of h1; subst this
    replace h := ifK_and h
    obtain ⟨h1, h⟩ := h
    have := beq_of h1; subst this
    replace h := ifK_and h
    obtain ⟨h1, h⟩ := h
    subst h1
    replace h := numOf_some h
    obtain ⟨i, h, h1⟩ := h
    exact ⟨_, h, .sl h1⟩
  | bool => exact flat_ren h
  | int => exact flat_ren h
  | sym => exact flat_ren h
  | opq => exact flat_ren h
  | str => exact flat_ren h
  | nilp => exact flat_ren h
  | nils => exact flat_ren h
  | empt => exact flat_ren h
  | nilf => exact flat_ren h
  | nili => exact flat_ren h
  | _ => cases h
theorem ren1_ok {is : List Nat} {nb nx : Nat} : RenOk (numsOf is nb nx) (ren1K is nb nx) := fun x k h => by
  unfold ren1K at h
  replace h := ifcOr_some h
  rcases h with ⟨t, a, rfl, h⟩ | h
  · replace h := ren0_ok a _ h
    obtain ⟨b, h, h1⟩ := h
    exact ⟨_, h, .ifc h1⟩
  · exact ren0_ok x k h
theorem renL_ok {σ : Nat → Option Nat} {r : RenK} (hr : RenOk σ r) : ∀ (l : List AV) (k : List AV → Bool), renL r l k = true → ∃ m, k m = true ∧ RelL σ l m
  | [], k, h => ⟨[], h, .nil⟩
  | x :: l, k, h => by
    replace h := hr x (fun y => renL r l fun ys => k (y :: ys)) h
    obtain ⟨y, h, h1⟩ := h
    replace h := renL_ok hr l _ h
    obtain ⟨m, h, h2⟩ := h
    exact ⟨_, h, .cons h1 h2⟩
theorem ren2_ok {is : List Nat} {nb nx : Nat} : RenOk (numsOf is nb nx) (ren2K is nb nx) := fun x k h => by
  unfold ren2K at h
  replace h := aggOr_some h
  rcases h with ⟨l, rfl, h⟩ | h
  · replace h := renL_ok ren1_ok l _ h
    obtain ⟨m, h, h1⟩ := h
    exact ⟨_, h, .agg h1⟩
  · exact ren1_ok x k h
theorem ren3_ok {is : List Nat} {nb nx : Nat} : RenOk (numsOf is nb nx) (ren3K is nb nx) := fun x k h => by
  unfold ren3K at h
  replace h := tupOr_some h
  rcases h with ⟨l, rfl, h⟩ | h
  · replace h := renL_ok ren2_ok l _ h
    obtain ⟨m, h, h1⟩ := h
    exact ⟨_, h, .tup h1⟩
  · exact ren2_ok x k h
/-- The new blocks. -/
noncomputable def outsK (r : RenK) (out : List (List AV)) : T Blk → Nat → (T Blk → Nat → Bool) → Bool :=
  @List.rec (List AV) (fun _ => T Blk → Nat → (T Blk → Nat → Bool) → Bool) (fun h nx k => k h nx) (fun cs _ ih h nx k => renL r cs fun cs' => mkK cs' h nx fun h nx => ih h nx k) out
theorem outsK_some {σ : Nat → Option Nat} {r : RenK} (hr : RenOk σ r) : ∀ {out : List (List AV)} {h : T Blk} {nx : Nat} {k : T Blk → Nat → Bool}, outsK r out h nx k = true → Fresh h nx → ∃ h', k h' (nx + out.length) = true ∧ Fresh h' (nx + out.length) ∧ (∀ i, i < nx → h'.get i = h.get i) ∧
    ∀ q cs, out[q]? = some cs → ∃ t cs', h'.get (nx + q) = some (.live cs.length t) ∧ cs'.length = cs.length ∧ (∀ j, j < cs.length → t.get j = cs'[j]?) ∧ RelL σ cs cs' ∧ t.get (cs.length + 7) = none
  | [], h, nx, k, e, hf => ⟨h, e, hf, fun _ _ => rfl, fun q cs hq => by simp at hq⟩
  | cs :: out, h, nx, k, e, hf => by
    replace e := renL_ok hr cs (fun cs' => mkK cs' h nx fun h nx => outsK r out h nx k) e
    obtain ⟨cs', e, hrel⟩ := e
    replace e := mkK_some e
    obtain ⟨t, h1, ht, hu, e⟩ := e
    obtain ⟨h2, e, f2, g2, r2⟩ := outsK_some hr e (hf.new hu)
    have en : nx + 1 + out.length = nx + (cs :: out).length := by simp only [List.length_cons]; omega
    rw [en] at e f2
    have hl := hrel.length
    refine ⟨h2, e, f2, fun i hi => by rw [g2 i (by omega), hu, if_neg (by omega)], fun q cs0 hq => ?_⟩
    cases q with
    | zero =>
      simp at hq; subst hq
      exact ⟨t, cs', by rw [Nat.add_zero, g2 nx (by omega), hu, if_pos rfl, hl], hl.symm, fun j hj => by rw [ht, if_pos (by omega)], hrel, by rw [ht, if_neg (by omega)]⟩
    | succ q =>
      obtain ⟨t', cs'', h3, h4⟩ := r2 q cs0 (by simpa using hq)
      exact ⟨t', cs'', by rw [← h3]; congr 1; omega, h4⟩
noncomputable def memoGo (e : Ent) (is : List Nat) (h : T Blk) (nx : Nat) (k : KV) : Bool :=
  lenK e.bl 0 fun nb => outsK (ren1K is nb nx) e.out h nx fun h nx' => ren3K is nb nx e.r fun r => k r h nx'
/-- What is in the table is taken from there; else the code is run. -/
noncomputable def gMemo (tab : List Ent) (run : Orc) : Orc := fun xs h nx k =>
  @List.rec Ent (fun _ => Bool) (run xs h nx k) (fun e _ ih => @Bool.rec (fun _ => Bool) ih (matchK true e.as xs e.bl h [] fun is => memoGo e is h nx k) (matchK true e.as xs e.bl h [] fun _ => true)) tab
theorem memoGo_ok {f : Nat} (hf : FnHas P f) {e : Ent} (he : EntOk P E f e) {as : List AV} {h : T Blk} {nx : Nat} {is : List Nat} {k : KV} (hfr : Fresh h nx) (hlen : is.length = e.bl.length) (hnd : is.Nodup) (hr : RelL (nums is) e.as as) (hB : ∀ q cs, e.bl[q]? = some cs → BlkRel true (nums is) h q cs) (hk : memoGo e is h nx k = true) :
    ∃ r h' nx', k r h' nx' = true ∧ Fresh h' nx' ∧ nx ≤ nx' ∧ CallR P E f as h.get nx r h'.get nx' := by
  unfold memoGo at hk
  rw [lenK_eq, Nat.zero_add] at hk
  obtain ⟨h', hk, hfr', hold, hnew⟩ := outsK_some (σ := numsOf is e.bl.length nx) ren1_ok hk hfr
  replace hk := ren3_ok _ _ hk
  obtain ⟨r, hk, hrr⟩ := hk
  refine ⟨r, h', _, hk, hfr', Nat.le_add_right _ _, .inl ⟨hf, fun ρ w vs hfree hI hvs => ?_⟩⟩
  have hislt : ∀ q, q < e.bl.length → ∃ i n t, is[q]? = some i ∧ h.get i = some (.live n t) ∧ i < nx := fun q hq => by
    obtain ⟨i, t, cs', g1, g2, _⟩ := hB q _ (List.getElem?_eq_getElem hq)
    exact ⟨i, _, t, g1, g2, hfr.lt g2⟩
  have hσ0 : ∀ j i, nums is j = some i → (is[j]?).bind ρ = ρ i := fun j i hj => by rw [show is[j]? = some i from hj]; rfl
  -- the data as they are laid
  have hL : LayIn E (fun q => (is[q]?).bind ρ) w e.bl := by
    refine ⟨fun q cs hq => ?_, fun q q' L L' hq hq' hne h1 h2 => ?_⟩
    · obtain ⟨i, t, cs', g1, g2, g3, g4, g5, _⟩ := hB q cs hq
      obtain ⟨L, hL1, c, el, z, b1, b2, b3, b4, _⟩ := hI.at_ i _ t g2
      refine ⟨L, by show (is[q]?).bind ρ = _; rw [show is[q]? = some i from g1]; exact hL1, c, el, z, b1, b2, b3, fun k a ha => ?_⟩
      have hk : k < cs.length := (List.getElem?_eq_some_iff.1 ha).1
      obtain ⟨av, v, c1, c2, c3, c4⟩ := b4 k hk
      obtain ⟨b, d1, d2⟩ := g5.get ha
      rw [g4 k hk, d1] at c1
      injection c1 with c1; subst c1
      exact ⟨v, c2, (d2.vr (ρ0 := fun q => (is[q]?).bind ρ) hσ0 v).2 c3, c4⟩
    · obtain ⟨i, n, t, g1, g2, _⟩ := hislt q hq
      obtain ⟨i', n', t', g1', g2', _⟩ := hislt q' hq'
      simp only [g1, g1', Option.bind_some] at h1 h2
      refine hI.inj i i' n t n' t' g2 g2' (fun ee => hne ?_) L L' h1 h2
      subst ee
      exact (List.getElem?_inj (by omega) hnd).1 (by rw [g1, g1'])
  refine (he _ w vs (fun q hq => by show (is[q]?).bind ρ = none; rw [List.getElem?_eq_none (by omega)]; rfl) hL ((hr.vr (ρ0 := fun q => (is[q]?).bind ρ) hσ0 vs).2 hvs)).mono ?_
  rintro x w' ⟨v, rfl, ρ1, hsame, hnone, hL1, hv, hos, htape, hout, hsize, hkeep, hfresh⟩
  -- where all lies now
  let ρ2 : Nat → Option Loc := fun i => if nx ≤ i ∧ i < nx + e.out.length then ρ1 (e.bl.length + (i - nx)) else ρ i
  have hext : Ext ρ ρ2 := fun i L hi => by
    show (if nx ≤ i ∧ i < nx + e.out.length then ρ1 (e.bl.length + (i - nx)) else ρ i) = some L
    rw [if_neg]; exact hi
    rintro ⟨a, b⟩
    rw [hfree i a b] at hi; cases hi
  have hold2 : ∀ i, i < nx → ρ2 i = ρ i := fun i hi => by
    show (if nx ≤ i ∧ i < nx + e.out.length then ρ1 (e.bl.length + (i - nx)) else ρ i) = ρ i
    rw [if_neg (by omega)]
  have hnew2 : ∀ q, q < e.out.length → ρ2 (nx + q) = ρ1 (e.bl.length + q) := fun q hq => by
    show (if nx ≤ nx + q ∧ nx + q < nx + e.out.length then ρ1 (e.bl.length + (nx + q - nx)) else ρ (nx + q)) = _
    rw [if_pos (by omega)]; congr 2; omega
  have hσ : ∀ j i L, numsOf is e.bl.length nx j = some i → ρ1 j = some L → ρ2 i = some L := fun j i L hji hjL => by
    have hj : j < (e.bl ++ e.out).length := by
      rcases Nat.lt_or_ge j (e.bl ++ e.out).length with h | h
      · exact h
      · rw [hnone j h] at hjL; cases hjL
    unfold numsOf at hji
    split at hji
    · rename_i hlt
      obtain ⟨i', n, t, g1, g2, g3⟩ := hislt j hlt
      rw [g1] at hji; injection hji with hji; subst hji
      rw [hold2 _ g3, ← hjL, hsame j hlt]
      show ρ i' = (is[j]?).bind ρ
      rw [g1]; rfl
    · rename_i hlt
      injection hji with hji; subst hji
      rw [List.length_append] at hj
      rw [hnew2 _ (by omega), ← hjL]; congr 1; omega
  -- a live block of now
  have hlive : ∀ i n t, h'.get i = some (.live n t) → (i < nx ∧ h.get i = some (.live n t)) ∨ ∃ q, q < e.out.length ∧ i = nx + q := fun i n t hi => by
    rcases Nat.lt_or_ge i nx with hlt | hge
    · rw [hold i hlt] at hi; exact .inl ⟨hlt, hi⟩
    · refine .inr ⟨i - nx, ?_, by omega⟩
      rcases Nat.lt_or_ge (i - nx) e.out.length with h1 | h1
      · exact h1
      · rw [hfr' i (by omega)] at hi; cases hi
  -- where an old block lies that was not handed over
  have hkept : ∀ i n t L, h.get i = some (.live n t) → i ∉ is → ρ i = some L → w'.heap[L.b]? = w.heap[L.b]? := fun i n t L hi hni hL2 => by
    refine hkeep L.b (hI.blk hi hL2).lt fun q M hq hM => ?_
    obtain ⟨i', n', t', g1, g2, _⟩ := hislt q hq
    simp only [g1, Option.bind_some] at hM
    exact hI.inj i' i n' t' n t g2 hi (fun e => by subst e; exact hni (List.mem_of_getElem? g1)) M L hM hL2
  have hmem : ∀ i, i ∈ is → ∃ q, q < e.bl.length ∧ is[q]? = some i := fun i hi => by
    obtain ⟨q, hq, e1⟩ := List.getElem_of_mem hi
    exact ⟨q, by omega, by rw [List.getElem?_eq_getElem hq, e1]⟩
  have hblk : ∀ i n t, h'.get i = some (.live n t) → ∃ L, ρ2 i = some L ∧ BlkAt E ρ2 w' L n t ∧ ((i < nx ∧ ρ i = some L) ∨ ∃ q, q < e.out.length ∧ i = nx + q ∧ ρ1 (e.bl.length + q) = some L ∧ w.heap.size ≤ L.b) := by
    intro i n t hi
    rcases hlive i n t hi with ⟨hlt, hi⟩ | ⟨q, hq, rfl⟩
    · obtain ⟨L, hL2, hB2⟩ := hI.at_ i n t hi
      refine ⟨L, hext _ _ hL2, ?_, .inl ⟨hlt, hL2⟩⟩
      by_cases hin : i ∈ is
      · obtain ⟨q, hq, g1⟩ := hmem i hin
        obtain ⟨i', t', cs', g1', g2, g3, g4, g5, g6⟩ := hB q _ (List.getElem?_eq_getElem hq)
        rw [show is[q]? = some i' from g1'] at g1
        injection g1 with g1; subst g1
        rw [hi] at g2; injection g2 with g2; injection g2 with e1 e2; subst e1; subst e2
        obtain ⟨M, hM, c, el, z, b1, b2, b3, b4⟩ := hL1.at_ q e.bl[q] (by rw [List.getElem?_append_left hq]; exact List.getElem?_eq_getElem hq)
        have hML : M = L := by
          have := hsame q hq
          rw [hM] at this
          have h2 : (is[q]?).bind ρ = some L := by rw [show is[q]? = some i' from g1']; exact hL2
          rw [h2] at this
          exact Option.some.inj this
        subst hML
        refine ⟨c, el, z, b1, b2, b3, fun k hk => ?_, TyAt.of (g6 rfl)⟩
        have ha : e.bl[q][k]? = some e.bl[q][k] := by simp [hk]
        obtain ⟨v', c1, c2, c3⟩ := b4 k _ ha
        obtain ⟨b, d1, d2⟩ := g5.get ha
        refine ⟨b, v', by rw [g4 k hk, d1], c1, ?_, c3⟩
        refine d2.to (σ := nums is) (ρ0 := ρ1) (fun j i L hji hjL => ?_) v' c2
        have hj : j < e.bl.length := by have := (List.getElem?_eq_some_iff.1 hji).1; omega
        exact hσ j i L (by unfold numsOf; rw [if_pos hj]; exact hji) hjL
      · exact (hB2.same (hkept i n t L hi hin hL2)).ext hext
    · obtain ⟨t', cs', g1, g2, g3, g4, g6⟩ := hnew q _ (List.getElem?_eq_getElem hq)
      rw [g1] at hi; injection hi with hi; injection hi with e1 e2; subst e1; subst e2
      obtain ⟨L, hL2, c, el, z, b1, b2, b3, b4⟩ := hL1.at_ (e.bl.length + q) e.out[q] (by rw [List.getElem?_append_right (by omega), Nat.add_sub_cancel_left]; exact List.getElem?_eq_getElem hq)
      refine ⟨L, by rw [hnew2 q hq]; exact hL2, ⟨c, el, z, b1, b2, b3, fun k hk => ?_, TyAt.of g6⟩, .inr ⟨q, hq, rfl, hL2, hfresh _ L (by omega) (by rw [List.length_append]; omega) hL2⟩⟩
      have ha : e.out[q][k]? = some e.out[q][k] := by simp [hk]
      obtain ⟨v', c1, c2, c3⟩ := b4 k _ ha
      obtain ⟨b, d1, d2⟩ := g4.get ha
      exact ⟨b, v', by rw [g3 k hk, d1], c1, d2.to hσ v' c2, c3⟩
  refine ⟨v, rfl, ρ2, ⟨Nat.le_add_right _ _, hfree, fun i hi => ?_, hos, htape, hout, hsize, fun b hb hn => hkeep b hb fun q L hq hL2 => ?_, fun i n t L hi hL2 => ?_⟩, ⟨fun i n t hi => ?_, fun i k n t n' t' hi hk hne L M hL2 hM => ?_⟩, hrr.to hσ v hv⟩
  · show (if nx ≤ i ∧ i < nx + e.out.length then ρ1 (e.bl.length + (i - nx)) else ρ i) = ρ i
    rw [if_neg (by omega)]
  · obtain ⟨i, n, t, g1, g2, _⟩ := hislt q hq
    simp only [g1, Option.bind_some] at hL2
    exact hn i n t L g2 hL2
  · obtain ⟨L', g1, _, g3⟩ := hblk i n t hi
    rw [hL2] at g1; injection g1 with g1; subst g1
    rcases g3 with ⟨hlt, h1⟩ | ⟨q, _, _, _, h4⟩
    · rw [hold i hlt] at hi
      exact .inr ⟨i, n, t, L, hi, h1, rfl⟩
    · exact .inl h4
  · obtain ⟨L, g1, g2, _⟩ := hblk i n t hi
    exact ⟨L, g1, g2⟩
  · obtain ⟨L', g1, _, g3⟩ := hblk i n t hi
    rw [hL2] at g1; injection g1 with g1; subst g1
    obtain ⟨M', k1, _, k3⟩ := hblk k n' t' hk
    rw [hM] at k1; injection k1 with k1; subst k1
    rcases g3 with ⟨hlt, h1⟩ | ⟨q, hq, hiq, h3, h4⟩
    · rw [hold i hlt] at hi
      rcases k3 with ⟨hlt', h1'⟩ | ⟨q', _, _, _, h4'⟩
      · rw [hold k hlt'] at hk
        exact hI.inj i k n t n' t' hi hk hne L M h1 h1'
      · have := (hI.blk hi h1).lt; omega
    · rcases k3 with ⟨hlt', h1'⟩ | ⟨q', hq', hkq, h3', _⟩
      · rw [hold k hlt'] at hk
        have := (hI.blk hk h1').lt; omega
      · refine hL1.inj (e.bl.length + q) (e.bl.length + q') L M (by rw [List.length_append]; omega) (by rw [List.length_append]; omega) (by omega) h3 h3'
theorem memo_ok {f : Nat} (hf : FnHas P f) : ∀ {tab : List Ent}, (∀ e ∈ tab, EntOk P E f e) → ∀ run, OrcOk P E f run → OrcOk P E f (gMemo tab run)
  | [], _, run, hrun => fun xs h nx k hk hfr => hrun xs h nx k hk hfr
  | e :: tab, ht, run, hrun => fun xs h nx k hk hfr => by
    change @Bool.rec (fun _ => Bool) (gMemo tab run xs h nx k) (matchK true e.as xs e.bl h [] fun is => memoGo e is h nx k) (matchK true e.as xs e.bl h [] fun _ => true) = true at hk
    cases hm : matchK true e.as xs e.bl h [] fun _ => true with
    | false =>
      rw [hm] at hk
      exact memo_ok hf (fun x hx => ht x (List.mem_cons_of_mem _ hx)) run hrun xs h nx k hk hfr
    | true =>
      rw [hm] at hk
      replace hk := matchK_some hk
      obtain ⟨is, hk, _, hlen, hnd, hr, hB⟩ := hk
      exact memoGo_ok hf (ht e List.mem_cons_self) hfr hlen hnd hr hB hk
end
end Go.Proofs.YtdnahdcjnahfkaaGreatDoor.Ev
namespace Go.Proofs.YtdnahdcjnahfkaaGreatDoor.Ev
open Go

/-! ### Data in normal form -/
abbrev NrmK := AV → (AV → Bool) → Bool
noncomputable def nrm0 : NrmK := fun x k =>
  @AV.casesOn (fun _ => Bool) x (fun b => forceB b fun b => k (.bool b)) (fun q z => forceI z fun z => k (.int q z)) (fun q i => forceN i fun i => k (.sym q i)) (fun q i => forceN i fun i => k (.opq q i)) (fun s => k (.str s)) (fun i o => forceN i fun i => forceN o fun o => k (.ptr i o)) (k .nilp) (fun g => forceN g fun g => k (.glob g))
    (fun i o n c ex es => forceN i fun i => forceN o fun o => forceN n fun n => forceN c fun c => forceB ex fun ex => forceN es fun es => k (.sl i o n c ex es)) (k .nils) (k .empt) (fun f a b => k (.fn f a b)) (k .nilf) (fun t v => k (.ifc t v)) (k .nili) (fun l => k (.agg l)) (fun l => k (.tup l)) (k .any) (fun q c => k (.atl q c))
theorem nrm0_eq (x : AV) (k : AV → Bool) : nrm0 x k = k x := by
  cases x with
  | bool b => exact forceB_eq b fun b => k (.bool b)
  | int q z => exact forceI_eq z fun z => k (.int q z)
  | sym q i => exact forceN_eq i fun i => k (.sym q i)
  | opq q i => exact forceN_eq i fun i => k (.opq q i)
  | ptr i o => show forceN i (fun i => forceN o fun o => k (.ptr i o)) = _; rw [forceN_eq, forceN_eq]
  | glob g => exact forceN_eq g fun g => k (.glob g)
  | sl i o n c ex es => show forceN i (fun i => forceN o fun o => forceN n fun n => forceN c fun c => forceB ex fun ex => forceN es fun es => k (.sl i o n c ex es)) = _; rw [forceN_eq, forceN_eq, forceN_eq, forceN_eq, forceB_eq, forceN_eq]
  | _ => rfl
noncomputable def nrmL (r : NrmK) (l : List AV) : (List AV → Bool) → Bool := @List.rec AV (fun _ => (List AV → Bool) → Bool) (fun k => k []) (fun x _ ih k => r x fun y => ih fun ys => k (y :: ys)) l
theorem nrmL_eq {r : NrmK} (hr : ∀ x k, r x k = k x) : ∀ (l : List AV) (k : List AV → Bool), nrmL r l k = k l
  | [], _ => rfl
  | x :: l, k => by
    show r x (fun y => nrmL r l fun ys => k (y :: ys)) = _
    rw [hr, nrmL_eq hr l]
theorem ifcOr_eq {x : AV} {k : Nat → AV → Bool} {e b : Bool} (h1 : ∀ t v, x = .ifc t v → k t v = b) (h2 : e = b) : ifcOr x k e = b := by cases x <;> first | exact h2 | exact h1 _ _ rfl
theorem aggOr_eq {x : AV} {k : List AV → Bool} {e b : Bool} (h1 : ∀ l, x = .agg l → k l = b) (h2 : e = b) : aggOr x k e = b := by cases x <;> first | exact h2 | exact h1 _ rfl
theorem tupOr_eq {x : AV} {k : List AV → Bool} {e b : Bool} (h1 : ∀ l, x = .tup l → k l = b) (h2 : e = b) : tupOr x k e = b := by cases x <;> first | exact h2 | exact h1 _ rfl
noncomputable def nrm1 : NrmK := fun x k => ifcOr x (fun t a => forceN t fun t => nrm0 a fun b => k (.ifc t b)) (nrm0 x k)
theorem nrm1_eq (x : AV) (k : AV → Bool) : nrm1 x k = k x := ifcOr_eq (fun t v e => by rw [forceN_eq, nrm0_eq, e]) (nrm0_eq x k)
noncomputable def nrm2 : NrmK := fun x k => aggOr x (fun l => nrmL nrm1 l fun m => k (.agg m)) (nrm1 x k)
theorem nrm2_eq (x : AV) (k : AV → Bool) : nrm2 x k = k x := aggOr_eq (fun l e => by rw [nrmL_eq nrm1_eq, e]) (nrm1_eq x k)
noncomputable def nrm3 : NrmK := fun x k => tupOr x (fun l => nrmL nrm2 l fun m => k (.tup m)) (nrm2 x k)
theorem nrm3_eq (x : AV) (k : AV → Bool) : nrm3 x k = k x := tupOr_eq (fun l e => by rw [nrmL_eq nrm2_eq, e]) (nrm2_eq x k)
noncomputable def nrmB (bl : List (List AV)) : (List (List AV) → Bool) → Bool := @List.rec (List AV) (fun _ => (List (List AV) → Bool) → Bool) (fun k => k []) (fun x _ ih k => nrmL nrm1 x fun y => ih fun ys => k (y :: ys)) bl
theorem nrmB_eq : ∀ (l : List (List AV)) (k : List (List AV) → Bool), nrmB l k = k l
  | [], _ => rfl
  | x :: l, k => by
    show nrmL nrm1 x (fun y => nrmB l fun ys => k (y :: ys)) = _
    rw [nrmL_eq nrm1_eq, nrmB_eq l]
noncomputable def nrmE (e : Ent) (k : Ent → Bool) : Bool := nrmL nrm3 e.as fun as => nrmB e.bl fun bl => nrm3 e.r fun r => nrmB e.out fun out => k ⟨as, bl, r, out⟩
theorem nrmE_eq (e : Ent) (k : Ent → Bool) : nrmE e k = k e := by
  unfold nrmE
  rw [nrmL_eq nrm3_eq, nrmB_eq, nrm3_eq, nrmB_eq]
/-- The entries from a number on, so many. -/
noncomputable def entsL (g : Nat → Ent) (n : Nat) : Nat → List Ent := @Nat.rec (fun _ => Nat → List Ent) (fun _ => []) (fun _ ih i => g i :: ih (i + 1)) n
theorem entsL_mem {g : Nat → Ent} : ∀ {n i : Nat} {e : Ent}, e ∈ entsL g n i → ∃ j, i ≤ j ∧ j < i + n ∧ e = g j
  | 0, _, _, h => by cases h
  | n + 1, i, e, h => by
    rcases List.mem_cons.1 (show e ∈ g i :: entsL g n (i + 1) from h) with rfl | h
    · exact ⟨i, Nat.le_refl _, by omega, rfl⟩
    · obtain ⟨j, h1, h2, h3⟩ := entsL_mem h
      exact ⟨j, by omega, by omega, h3⟩
noncomputable def entsK (g : Nat → Ent) (n : Nat) : Nat → (List Ent → Bool) → Bool := @Nat.rec (fun _ => Nat → (List Ent → Bool) → Bool) (fun _ k => k []) (fun _ ih i k => nrmE (g i) fun e => forceN (Nat.succ i) fun i => ih i fun l => k (e :: l)) n
theorem entsK_eq (g : Nat → Ent) : ∀ (n i : Nat) (k : List Ent → Bool), entsK g n i k = k (entsL g n i)
  | 0, _, _ => rfl
  | n + 1, i, k => by
    show nrmE (g i) (fun e => forceN (Nat.succ i) fun i => entsK g n i fun l => k (e :: l)) = _
    rw [nrmE_eq, forceN_eq, entsK_eq g n]
    rfl

/-! ### One set-up, many calls -/
noncomputable def onceK (P : Program) (fns : List FnD) (orcs : List (Nat × FnE)) (k : T FnE → Bool) : Bool := typesK P fun tt => orcsK orcs .l fun ft => fnsK P tt fns ft k
/-- So many, from a number on. -/
noncomputable def upK (p : Nat → Bool → Bool) (b : Bool) (n : Nat) : Nat → Bool := @Nat.rec (fun _ => Nat → Bool) (fun _ => b) (fun _ ih i => p i (forceN (Nat.succ i) ih)) n
theorem upK_some {p : Nat → Bool → Bool} {Q : Nat → Prop} (hp : ∀ i b, p i b = true → Q i ∧ b = true) {b : Bool} : ∀ {n i : Nat}, upK p b n i = true → (∀ j, i ≤ j → j < i + n → Q j) ∧ b = true
  | 0, _, h => ⟨fun _ _ _ => by omega, h⟩
  | n + 1, i, h => by
    obtain ⟨h3, h⟩ := hp i (forceN (Nat.succ i) (upK p b n)) h
    rw [forceN_eq] at h
    obtain ⟨h4, h5⟩ := upK_some hp h
    refine ⟨fun j h1 h2 => ?_, h5⟩
    rcases Nat.lt_or_ge i j with h6 | h6
    · exact h4 j h6 (by omega)
    · have : j = i := by omega
      subst this; exact h3
noncomputable def manyK (P : Program) (F : Facts) (fuel depth : Nat) (fns : List FnD) (orcs : List (Nat × FnE)) (mixs : List (Nat × (Orc → Orc))) (f : Nat) (g : Nat → Ent) (i n : Nat) : Bool :=
  onceK P fns orcs fun ft => mixK mixs ft fun ft => upK (fun j b => nrmE (g j) fun e => entFt F fuel depth ft f e b) true n i
section
variable {P : Program} {E : Env} {F : Facts}
theorem onceK_some (hF : F.Of E) {fns : List FnD} {orcs : List (Nat × FnE)} (hfns : ∀ d ∈ fns, d.Of P) (horcs : ∀ p ∈ orcs, FnRel P E F p.1 p.2) {k : T FnE → Bool} (hk : onceK P fns orcs k = true) : ∃ ft, FtOk P E F ft ∧ k ft = true := by
  unfold onceK at hk
  replace hk := typesK_some hk
  obtain ⟨tt, hT, hk⟩ := hk
  replace hk := orcsK_some (E := E) (F := F) horcs (fun i e he => by cases he) hk
  obtain ⟨ft0, hk, h0⟩ := hk
  replace hk := fnsK_some (E := E) (F := F) hT hF hfns h0 hk
  obtain ⟨ft, hk, hft⟩ := hk
  exact ⟨ft, hft, hk⟩
theorem manyK_ok (hF : F.Of E) (hm : P.follows .mixedOrders = true) {fuel depth : Nat} {fns : List FnD} {orcs : List (Nat × FnE)} {mixs : List (Nat × (Orc → Orc))} (hfns : ∀ d ∈ fns, d.Of P) (horcs : ∀ p ∈ orcs, FnRel P E F p.1 p.2) (hmix : ∀ p ∈ mixs, MixOk P E p) {f : Nat} (hf : FnHas P f) {g : Nat → Ent} {i n : Nat}
    (hk : manyK P F fuel depth fns orcs mixs f g i n = true) : ∀ j, i ≤ j → j < i + n → EntOk P E f (g j) := fun j h1 h2 => by
  obtain ⟨ft0, h0, hk⟩ := onceK_some hF hfns horcs hk
  replace hk := mixK_some (E := E) (F := F) hmix h0 hk
  obtain ⟨ft, hk, hft⟩ := hk
  exact (upK_some (Q := fun j => EntOk P E f (g j)) (fun i b hb => by rw [nrmE_eq] at hb; exact entFt_ok hm hft hf hb) hk).1 j h1 h2
end

/-! ### Tables in buckets -/
/-- By a number that is found in the arguments: what is in the table there, else the code is run. -/
noncomputable def gAt (key : List AV → (Nat → Bool) → Bool) (tab : T (List Ent)) (run : Orc) : Orc := fun xs h nx k => key xs fun n => getK (fun l => gMemo l run xs h nx k) tab n
/-- .. or in what they lead to. -/
noncomputable def gAtH (key : List AV → T Blk → (Nat → Bool) → Bool) (tab : T (List Ent)) (run : Orc) : Orc := fun xs h nx k => key xs h fun n => getK (fun l => gMemo l run xs h nx k) tab n
noncomputable def bucketsK (g : Nat → Nat → Ent) (c : Nat → Nat) : Nat → Nat → (List (List Ent) → Bool) → Bool := fun n => @Nat.rec (fun _ => Nat → (List (List Ent) → Bool) → Bool) (fun _ k => k []) (fun _ ih i k => forceN (c i) fun m => entsK (g i) m 0 fun l => forceN (Nat.succ i) fun i => ih i fun r => k (l :: r)) n
noncomputable def bucketsL (g : Nat → Nat → Ent) (c : Nat → Nat) : Nat → Nat → List (List Ent) := fun n => @Nat.rec (fun _ => Nat → List (List Ent)) (fun _ => []) (fun _ ih i => entsL (g i) (c i) 0 :: ih (i + 1)) n
theorem bucketsK_eq (g : Nat → Nat → Ent) (c : Nat → Nat) : ∀ (n i : Nat) (k : List (List Ent) → Bool), bucketsK g c n i k = k (bucketsL g c n i)
  | 0, _, _ => rfl
  | n + 1, i, k => by
    show forceN (c i) (fun m => entsK (g i) m 0 fun l => forceN (Nat.succ i) fun i => bucketsK g c n i fun r => k (l :: r)) = _
    rw [forceN_eq, entsK_eq, forceN_eq, bucketsK_eq g c n]
    rfl
theorem bucketsL_mem {g : Nat → Nat → Ent} {c : Nat → Nat} : ∀ {n i : Nat} {l : List Ent}, l ∈ bucketsL g c n i → ∀ e ∈ l, ∃ a b, e = g a b
  | 0, _, _, h => by cases h
  | n + 1, i, l, h => by
    rcases List.mem_cons.1 (show l ∈ entsL (g i) (c i) 0 :: bucketsL g c n (i + 1) from h) with rfl | h
    · intro e he
      obtain ⟨j, _, _, rfl⟩ := entsL_mem he
      exact ⟨i, j, rfl⟩
    · exact bucketsL_mem h
/-- The table of the buckets. -/
noncomputable def tabK (g : Nat → Nat → Ent) (c : Nat → Nat) (n : Nat) (k : T (List Ent) → Bool) : Bool := bucketsK g c n 0 fun L => writeK L .l 0 k
theorem tabK_some {g : Nat → Nat → Ent} {c : Nat → Nat} {n : Nat} {k : T (List Ent) → Bool} (h : tabK g c n k = true) : ∃ t, (∀ i l, t.get i = some l → ∀ e ∈ l, ∃ a b, e = g a b) ∧ k t = true := by
  unfold tabK at h
  rw [bucketsK_eq] at h
  obtain ⟨t, ht, h⟩ := writeK_some h
  refine ⟨t, fun i l hl => ?_, h⟩
  rw [ht] at hl
  split at hl
  · exact bucketsL_mem (List.mem_of_getElem? hl)
  · rw [T.get_l] at hl; cases hl
section
variable {P : Program} {E : Env}
theorem at_ok {f : Nat} (hf : FnHas P f) {key : List AV → (Nat → Bool) → Bool} (hkey : ∀ xs k, key xs k = true → ∃ n, k n = true) {tab : T (List Ent)} (ht : ∀ i l, tab.get i = some l → ∀ e ∈ l, EntOk P E f e) : MixOk P E (f, gAt key tab) := fun run hrun xs h nx k hk hfr => by
  obtain ⟨n, hk⟩ := hkey _ _ hk
  obtain ⟨l, hl, hk⟩ := getK_some hk
  exact memo_ok hf (ht n l hl) run hrun xs h nx k hk hfr
theorem atH_ok {f : Nat} (hf : FnHas P f) {key : List AV → T Blk → (Nat → Bool) → Bool} (hkey : ∀ xs h k, key xs h k = true → ∃ n, k n = true) {tab : T (List Ent)} (ht : ∀ i l, tab.get i = some l → ∀ e ∈ l, EntOk P E f e) : MixOk P E (f, gAtH key tab) := fun run hrun xs h nx k hk hfr => by
  obtain ⟨n, hk⟩ := hkey _ _ _ hk
  obtain ⟨l, hl, hk⟩ := getK_some hk
  exact memo_ok hf (ht n l hl) run hrun xs h nx k hk hfr
end
end Go.Proofs.YtdnahdcjnahfkaaGreatDoor.Ev
