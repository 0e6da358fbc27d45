/- The evaluator: what is taken from contracts: the library's functions that have no body. -/
import Derived.Test.YtfgmmabggjjhgaaGreatDoorEvG
import Derived.Lib.Bytealg
import Derived.Laws.Externs
import Derived.Laws.Entries
import Derived.Lib.Builder
import Derived.Lib.MakeNoZero
namespace Go.Proofs.YtfgmmabggjjhgaaGreatDoor.Ev
open Go

section
variable {P : Program} {E : Env} {F : Facts}
theorem atom_eq_some (hF : F.Of E) {x m : Nat} {c : Bool → Bool} (h : eqS F.apart c [x] [m] = true) : c (decide (E.byte x = E.byte m)) = true := by
  have := eqS_some hF h
  have e : decide ([x].map E.num = [m].map E.num) = decide (E.byte x = E.byte m) := decide_eq_decide.2 (by rw [byte_inj]; simp)
  rwa [e] at this
theorem cntK_some (hF : F.Of E) {m : Nat} : ∀ {s : List Nat} {n : Nat} {k : Nat → Bool}, cntK F.apart m s n k = true → k (n + (s.map E.byte).count (E.byte m)) = true
  | [], n, k, h => h
  | x :: s, n, k, h => by
    replace h := atom_eq_some (c := fun b => @Bool.rec (fun _ => Bool) (cntK F.apart m s n k) (forceN (Nat.succ n) fun n => cntK F.apart m s n k) b) hF h
    by_cases e : E.byte x = E.byte m
    · rw [decide_eq_true e] at h
      change forceN (Nat.succ n) (fun n => cntK F.apart m s n k) = true at h
      rw [forceN_eq] at h
      replace h := cntK_some hF h
      have e2 : n.succ + (s.map E.byte).count (E.byte m) = n + ((x :: s).map E.byte).count (E.byte m) := by
        rw [List.map_cons, e, List.count_cons_self]; omega
      rwa [e2] at h
    · rw [decide_eq_false e] at h
      replace h := cntK_some hF (show cntK F.apart m s n k = true from h)
      rwa [List.map_cons, List.count_cons_of_ne e]
theorem idxBK_some (hF : F.Of E) {m : Nat} : ∀ {s : List Nat} {n : Nat} {k : Int → Bool}, idxBK F.apart m s n k = true → k (if Lib.indexByte (s.map E.byte) (E.byte m) = -1 then -1 else n + Lib.indexByte (s.map E.byte) (E.byte m)) = true
  | [], n, k, h => by
    have h : k (-1) = true := h
    simpa [Lib.indexByte] using h
  | x :: s, n, k, h => by
    replace h := atom_eq_some (c := fun b => @Bool.rec (fun _ => Bool) (forceN (Nat.succ n) fun n => idxBK F.apart m s n k) (k (Int.ofNat n)) b) hF h
    by_cases e : E.byte x = E.byte m
    · rw [decide_eq_true e] at h
      have : Lib.indexByte ((x :: s).map E.byte) (E.byte m) = 0 := by simp [Lib.indexByte, e]
      rw [this]
      simpa using h
    · rw [decide_eq_false e] at h
      change forceN (Nat.succ n) (fun n => idxBK F.apart m s n k) = true at h
      rw [forceN_eq] at h
      replace h := idxBK_some hF h
      have hne : (E.byte x == E.byte m) = false := by simpa using e
      rw [List.map_cons]
      simp only [Lib.indexByte, hne]
      have hge := Lib.indexByte_ge (s.map E.byte) (E.byte m)
      by_cases h1 : Lib.indexByte (s.map E.byte) (E.byte m) = -1
      · simpa [h1] using h
      · have e3 : ((n.succ : Nat) : Int) + Lib.indexByte (s.map E.byte) (E.byte m) = (n : Int) + (Lib.indexByte (s.map E.byte) (E.byte m) + 1) := by omega
        rw [if_neg h1, e3] at h
        have h2 : ¬ (Lib.indexByte (s.map E.byte) (E.byte m) + 1 = -1) := by omega
        simpa [h1, h2] using h
theorem u8_back (b : UInt8) : ((b.toNat : Int)).toNat.toUInt8 = b := by simp
theorem pair_vs {ρ : Nat → Option Loc} {x y : AV} {vs : List Value} (h : VRs E ρ [x, y] vs) : ∃ u v, vs = [u, v] ∧ VR E ρ x u ∧ VR E ρ y v := by
  simp only [VRs] at h
  obtain ⟨u, r, h1, ⟨v, r', h2, h3, rfl⟩, rfl⟩ := h
  subst h3
  exact ⟨u, v, rfl, h1, h2⟩
theorem count_orc (hF : F.Of E) {f : Nat} {fn : Func} (hf : P.funcs[f]? = some fn) (hname : (fn.name == "runtime.NumGoroutine") = false) (hb : fn.body.isNone = true) (hn : Extern.findNext fn = none) (he : Extern.find fn = some Extern.BytealgCount.count) : FnRel P E F f (.orc (gCount F)) := by
  refine .orc fun as h nx k hk hfr => ?_
  unfold gCount at hk
  replace hk := l2K_some hk
  rcases hk with ⟨x, y, rfl, hk⟩ | hk
  rotate_left
  · cases hk
  replace hk := strK_some hk
  obtain ⟨s, rfl, hk⟩ := hk
  replace hk := atom1K_some (E := E) hk
  obtain ⟨m, hk, hm⟩ := hk
  replace hk := cntK_some hF hk
  refine ⟨_, _, _, hk, hfr, Nat.le_refl _, .inr fun ρ w vs _ hI hvs => ?_⟩
  obtain ⟨u, v, rfl, h1, h2⟩ := pair_vs hvs
  simp only [VR] at h1; subst h1
  have := hm ρ v h2; subst this
  refine ⟨.int .i64 (Lib.countByte (E.bytes s).data.toList (((E.byte m).toNat : Int).toNat.toUInt8)), w, ρ, ?_, Stp.rfl', hI, ?_⟩
  · rw [run_callFunc_extern hf hname hb hn he]
    have := Lib.run_countString (P := P) (E.bytes s) ((E.byte m).toNat : Int) w
    rw [show [Value.string (E.bytes s), Value.int .u8 ((E.byte m).toNat : Int)].toArray = #[Value.string (E.bytes s), Value.int .u8 ((E.byte m).toNat : Int)] from rfl, this]
    rfl
  · simp only [VR]
    rw [u8_back]
    simp [Lib.countByte, Env.bytes]
theorem indexByte_orc (hF : F.Of E) {f : Nat} {fn : Func} (hf : P.funcs[f]? = some fn) (hname : (fn.name == "runtime.NumGoroutine") = false) (hb : fn.body.isNone = true) (hn : Extern.findNext fn = none) (he : Extern.find fn = some Extern.BytealgIndexByte.indexByte) : FnRel P E F f (.orc (gIndexByte F)) := by
  refine .orc fun as h nx k hk hfr => ?_
  unfold gIndexByte at hk
  replace hk := l2K_some hk
  rcases hk with ⟨x, y, rfl, hk⟩ | hk
  rotate_left
  · cases hk
  replace hk := strK_some hk
  obtain ⟨s, rfl, hk⟩ := hk
  replace hk := atom1K_some (E := E) hk
  obtain ⟨m, hk, hm⟩ := hk
  replace hk := idxBK_some hF hk
  refine ⟨_, _, _, hk, hfr, Nat.le_refl _, .inr fun ρ w vs _ hI hvs => ?_⟩
  obtain ⟨u, v, rfl, h1, h2⟩ := pair_vs hvs
  simp only [VR] at h1; subst h1
  have := hm ρ v h2; subst this
  refine ⟨.int .i64 (Lib.indexByte (E.bytes s).data.toList (((E.byte m).toNat : Int).toNat.toUInt8)), w, ρ, ?_, Stp.rfl', hI, ?_⟩
  · rw [run_callFunc_extern hf hname hb hn he]
    have := Lib.run_indexByteString (P := P) (E.bytes s) ((E.byte m).toNat : Int) w
    rw [show [Value.string (E.bytes s), Value.int .u8 ((E.byte m).toNat : Int)].toArray = #[Value.string (E.bytes s), Value.int .u8 ((E.byte m).toNat : Int)] from rfl, this]
    rfl
  · simp only [VR]
    rw [u8_back]
    have : (E.bytes s).data.toList = s.map E.byte := by simp [Env.bytes]
    rw [this]
    by_cases h1 : Lib.indexByte (s.map E.byte) (E.byte m) = -1
    · rw [if_pos h1, h1]
    · rw [if_neg h1]; simp
/-! ### What reflectlite tells of an error's type -/
noncomputable def gTypeOf (rt gs : Nat) : Orc := fun as h nx k => l1K as (fun x => ifcK x (fun t _ => forceN (Nat.add gs (Nat.mul 65536 t)) fun g => k (.ifc rt (.agg [.glob g])) h nx) false) false
noncomputable def globK (x : AV) (k : Nat → Bool) : Bool :=
  @AV.casesOn (fun _ => Bool) x (fun _ => false) (fun _ _ => false) (fun _ _ => false) (fun _ _ => false) (fun _ => false) (fun _ _ => false) false (fun g => k g) (fun _ _ _ _ _ _ => false) false false (fun _ _ _ => false) false (fun _ _ => false) false (fun _ => false) (fun _ => false) false (fun _ _ => false)
theorem globK_some {x : AV} {k : Nat → Bool} (h : globK x k = true) : ∃ g, x = .glob g ∧ k g = true := by cases x <;> first | exact ⟨_, rfl, h⟩ | cases h
noncomputable def gCmp (g0 : Nat) : Orc := fun as h nx k => l1K as (fun x => aggK x fun l => l1K l (fun a => globK a fun g => ifK (Nat.beq g g0) (k (.bool true) h nx) false) false) false
theorem typeOf_orc {f : Nat} {fn : Func} {rt gs : Nat} (hf : P.funcs[f]? = some fn) (hname : (fn.name == "runtime.NumGoroutine") = false) (hb : fn.body.isNone = true) (hn : Extern.findNext fn = none) (he : Extern.find fn = some Extern.ReflectliteType.typeOf)
    (hrun : ∀ t v w, (Extern.ReflectliteType.typeOf #[.iface t v]).run P w = .ok (.iface rt (.agg #[.pointer (some ⟨gs, t, none⟩)])) w) (hgs : gs < 65536) : FnRel P E F f (.orc (gTypeOf rt gs)) := by
  refine .orc fun as h nx k hk hfr => ?_
  unfold gTypeOf at hk
  replace hk := l1K_some hk
  rcases hk with ⟨x, rfl, hk⟩ | hk
  rotate_left
  · cases hk
  replace hk := ifcK_some hk
  rcases hk with ⟨t, y, rfl, hk⟩ | ⟨_, hk⟩
  rotate_left
  · cases hk
  rw [forceN_eq] at hk
  refine ⟨_, _, _, hk, hfr, Nat.le_refl _, .inr fun ρ w vs _ hI hvs => ?_⟩
  simp only [VRs] at hvs
  obtain ⟨v, r, hv, hr, rfl⟩ := hvs
  subst hr
  simp only [VR] at hv
  obtain ⟨v', _, rfl⟩ := hv
  refine ⟨.iface rt (.agg #[.pointer (some ⟨gs, t, none⟩)]), w, ρ, ?_, Stp.rfl', hI, ?_⟩
  · rw [run_callFunc_extern hf hname hb hn he]
    rw [show [Value.iface t v'].toArray = #[Value.iface t v'] from rfl, hrun]
    rfl
  · simp only [VR]
    refine ⟨_, ⟨_, VRs.cons (v := .pointer (some ⟨gs, t, none⟩)) ?_ VRs.nil, rfl⟩, rfl⟩
    simp only [VR]
    have e1 : (gs.add (Nat.mul 65536 t)) % 65536 = gs := by show (gs + 65536 * t) % 65536 = gs; omega
    have e2 : (gs.add (Nat.mul 65536 t)) / 65536 = t := by show (gs + 65536 * t) / 65536 = t; omega
    rw [e1, e2]
theorem cmp_orc {f : Nat} {fn : Func} {g0 : Nat} {e : Array Value → Sem Value} (hf : P.funcs[f]? = some fn) (hname : (fn.name == "runtime.NumGoroutine") = false) (hb : fn.body.isNone = true) (hn : Extern.findNext fn = none) (he : Extern.find fn = some e)
    (hrun : ∀ w, (e #[.agg #[.pointer (some ⟨g0 % 65536, g0 / 65536, none⟩)]]).run P w = .ok (.bool true) w) : FnRel P E F f (.orc (gCmp g0)) := by
  refine .orc fun as h nx k hk hfr => ?_
  unfold gCmp at hk
  replace hk := l1K_some hk
  rcases hk with ⟨x, rfl, hk⟩ | hk
  rotate_left
  · cases hk
  replace hk := aggK_some hk
  obtain ⟨l, rfl, hk⟩ := hk
  replace hk := l1K_some hk
  rcases hk with ⟨a, rfl, hk⟩ | hk
  rotate_left
  · cases hk
  replace hk := globK_some hk
  obtain ⟨g, rfl, hk⟩ := hk
  replace hk := ifK_and hk
  obtain ⟨hg, hk⟩ := hk
  have := beq_of hg; subst this
  refine ⟨_, _, _, hk, hfr, Nat.le_refl _, .inr fun ρ w vs _ hI hvs => ?_⟩
  simp only [VRs] at hvs
  obtain ⟨v, r, hv, hr, rfl⟩ := hvs
  subst hr
  simp only [VR] at hv
  obtain ⟨l', hl, rfl⟩ := hv
  simp only [VRs] at hl
  obtain ⟨u, r, hu, hr, rfl⟩ := hl
  subst hr
  simp only [VR] at hu
  subst hu
  refine ⟨.bool true, w, ρ, ?_, Stp.rfl', hI, by simp only [VR]⟩
  rw [run_callFunc_extern hf hname hb hn he]
  rw [show [Value.agg [Value.pointer (some ⟨g % 65536, g / 65536, none⟩)].toArray].toArray = #[Value.agg #[.pointer (some ⟨g % 65536, g / 65536, none⟩)]] from rfl, hrun]
  rfl
/-! ### A pointer handed back as it is; room for bytes -/
noncomputable def gSame : Orc := fun as h nx k => l1K as (fun x => k x h nx) false
theorem same_orc {f : Nat} {fn : Func} (hf : P.funcs[f]? = some fn) (hname : (fn.name == "runtime.NumGoroutine") = false) (hb : fn.body.isNone = true) (hn : Extern.findNext fn = none) (he : Extern.find fn = some Extern.AbiNoEscape.same) : FnRel P E F f (.orc gSame) := by
  refine .orc fun as h nx k hk hfr => ?_
  unfold gSame at hk
  rcases l1K_some hk with ⟨x, rfl, hk⟩ | hk
  rotate_left
  · cases hk
  refine ⟨_, _, _, hk, hfr, Nat.le_refl _, .inr fun ρ w vs _ hI hvs => ?_⟩
  simp only [VRs] at hvs
  obtain ⟨v, r, hv, hr, rfl⟩ := hvs
  subst hr
  refine ⟨v, w, ρ, ?_, Stp.rfl', hI, hv⟩
  rw [run_callFunc_extern hf hname hb hn he]
  have := Lib.run_noEscape (P := P) w v
  rw [show [v].toArray = #[v] from rfl, this]
  rfl
theorem digits_one : ∀ (n t : Nat) (acc : Array Value), (∀ v ∈ acc, v.oneCell' = true) → ∀ v ∈ Extern.BytealgMakeNoZero.digits n t acc, v.oneCell' = true
  | 0, _, _, h => h
  | n + 1, t, acc, h => by
    rw [Extern.BytealgMakeNoZero.digits]
    refine digits_one n _ _ fun v hv => ?_
    rcases Array.mem_push.1 hv with hv | rfl
    · exact h v hv
    · rfl
theorem run_noz (w : World) (ps : Array TypeId) (t e : TypeId) (ht : P.underlying t = some (.slice e)) (n : Nat) (hn : n ≤ 1000000) :
    ∃ cs : Array Value, (Extern.BytealgMakeNoZero.makeNoZero ps #[t] #[.int .i64 n]).run P w = .ok (.slice (some ⟨w.heap.size, 0, none⟩) n cs.size) (w.drew.drew.alloc (.cells cs e)) ∧ n ≤ cs.size ∧ cs.size ≤ maxLen ∧ ∀ v ∈ cs, v.oneCell' = true := by
  have hdef : Extern.BytealgMakeNoZero.makeNoZero ps #[t] #[.int .i64 n] =
      (do
        let .slice elem ← underlying t | stuck "bytealg.MakeNoZero: slice type expected"
        if (n : Int) < 0 || (n : Int) > 2 ^ 48 then runtimePanic (.error "makeslice: len out of range")
        let cap ← choose (.appendCap (n : Int).toNat 0 elem)
        askRoom cap
        let bytes ← choose (.extern "internal/bytealg.MakeNoZero.bytes" 0)
        let a ← newRow elem (Extern.BytealgMakeNoZero.digits cap bytes #[])
        pure (.slice (some a) (n : Int).toNat cap)) := rfl
  refine ⟨Extern.BytealgMakeNoZero.digits (grownCap w n 0 e) ((Question.extern "internal/bytealg.MakeNoZero.bytes" 0).cut (w.tape (w.drawn + 1) (.extern "internal/bytealg.MakeNoZero.bytes" 0))) #[], ?_, ?_, ?_, ?_⟩
  · rw [hdef]
    have h1 : ¬ (n : Int) < 0 := by omega
    have h2 : ¬ (281474976710656 : Int) < (n : Int) := by omega
    simp [run_underlying ht, h1, h2, Question.forced, newRow, Lib.size_digits, grownCap]
  · rw [Lib.size_digits]
    simpa using grownCap_ge w n 0 e
  · rw [Lib.size_digits]
    simpa using grownCap_le_maxLen w n 0 e (by unfold maxLen; omega)
  · exact digits_one _ _ _ fun v hv => by simp at hv
theorem anys_vr {ρ : Nat → Option Loc} : ∀ {vs : List Value}, (∀ v ∈ vs, v.oneCell' = true) → VRs E ρ (List.replicate vs.length AV.any) vs
  | [], _ => VRs.nil
  | v :: vs, h => VRs.cons (by simp only [VR]; exact h v List.mem_cons_self) (anys_vr fun u hu => h u (List.mem_cons_of_mem _ hu))
theorem any_rep : ∀ n : Nat, (List.replicate n [AV.any]).flatten = List.replicate n AV.any
  | 0 => rfl
  | n + 1 => by rw [List.replicate_succ, List.flatten_cons, any_rep n]; rfl
noncomputable def gNoz (el : Nat) : Orc := fun as h nx k => l1K as (fun x => intK x fun q z => ifK (kindEq q .i64) (@Int.rec (fun _ => Bool) (fun n => ifK (Nat.ble n 1000000) (repK [.any] n fun cs => mkFK (.pty el) cs h nx fun h nx' => k (.sl nx 0 n n false 1) h nx') false) (fun _ => false) z) false) false
theorem noz_orc {f : Nat} {fn : Func} {ps : Array TypeId} {t el : TypeId} (hf : P.funcs[f]? = some fn) (hname : (fn.name == "runtime.NumGoroutine") = false) (hb : fn.body.isNone = true) (hn : Extern.findNext fn = none) (he : Extern.find fn = some (Extern.BytealgMakeNoZero.makeNoZero ps #[t]))
    (ht : P.underlying t = some (.slice el)) : FnRel P E F f (.orc (gNoz el)) := by
  refine .orc fun as h nx k hk hfr => ?_
  unfold gNoz at hk
  rcases l1K_some hk with ⟨x, rfl, hk⟩ | hk
  rotate_left
  · cases hk
  replace hk := intK_some hk
  obtain ⟨q, z, rfl, hk⟩ := hk
  replace hk := ifK_and hk
  obtain ⟨hq, hk⟩ := hk
  have := kindEq_of hq; subst this
  cases z with
  | negSucc n => cases hk
  | ofNat n =>
    replace hk := ifK_and (b := Nat.ble n 1000000) (t := repK [.any] n fun cs => mkFK (.pty el) cs h nx fun h nx' => k (.sl nx 0 n n false 1) h nx') hk
    obtain ⟨hle, hk⟩ := hk
    have hle := ble_of hle
    replace hk := repK_some hk
    rw [any_rep] at hk
    replace hk := mkFK_some hk
    obtain ⟨t', h', h1, h2, h3, hk⟩ := hk
    refine ⟨_, _, _, hk, hfr.new h3, Nat.le_succ _, .inr fun ρ w vs hfree hI hvs => ?_⟩
    simp only [VRs, VR] at hvs
    obtain ⟨v, r, rfl, hr, rfl⟩ := hvs
    subst hr
    obtain ⟨cs, hrun, g1, g2, g3⟩ := run_noz (P := P) w ps t el ht n hle
    have hp : Pushed w (w.drew.drew.alloc (.cells cs el)) (.cells cs el (0, 0)) := ⟨rfl, rfl, rfl, rfl⟩
    have htl : (cs.toList.take n).length = n := by rw [List.length_take, Array.length_toList]; omega
    have hone : ∀ v ∈ cs.toList.take n, v.oneCell' = true := fun v hv => g3 v (by simpa using List.mem_of_mem_take hv)
    have hvr : VRs E ρ (List.replicate n AV.any) (cs.toList.take n) := by
      have := anys_vr (E := E) (ρ := ρ) hone
      rwa [htl] at this
    obtain ⟨s1, s2⟩ := new_step (pl := 1) hI hp (fun k _ hk => by omega) (hfree nx (Nat.le_refl _) (Nat.lt_succ_self _)) hvr hone (fun j hj => by
      rw [htl] at hj
      rw [List.getElem?_take, if_pos hj]; simp) h1 (fun ty hty => by have := h2 ty hty; injection this) h3
    refine ⟨.slice (some ⟨w.heap.size, 0, none⟩) n cs.size, _, _, ?_, s1, s2, ?_⟩
    · rw [run_callFunc_extern hf hname hb hn he]
      rw [show [Value.int .i64 (Int.ofNat n)].toArray = #[.int .i64 (n : Int)] from rfl, hrun]
      rfl
    · simp only [VR]
      exact ⟨⟨w.heap.size, 0, cs.size, 1⟩, cs.size, if_pos rfl, rfl, g1, fun h => (by cases h), by show 0 + 0 + cs.size * 1 ≤ cs.size; omega, fun _ => rfl, g2⟩
end
end Go.Proofs.YtfgmmabggjjhgaaGreatDoor.Ev
