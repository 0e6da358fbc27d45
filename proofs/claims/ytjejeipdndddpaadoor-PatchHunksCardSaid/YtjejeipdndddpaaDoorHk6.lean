/- Walks of functions: what each asks and computes, as a plain predicate, and the contract from it. -/
import Derived.Test.YtjejeipdndddpaaDoorChecked
import Derived.Test.YtjejeipdndddpaaDoorHk5
namespace Go.Proofs.YtjejeipdndddpaaDoor
open Go


def errors_as_p (err : PErr) (target : S_cellFault) (targetVal : Unit) (targetType : Unit) (Q : S_cellFault → Bool → Prop) : Prop :=
  (∃ (I62 : Prop) (m63 : Nat), (I62) ∧ ((I62) → (((err.isNil = true) → False) ∧ ((¬ (err.isNil = true)) → (((err.isNo = true) → (∀ n92 : Int, err = PErr.no n92 → ((inR .i64 n92) → Q target false))) ∧ ((¬ (err.isNo = true)) → (∀ (part103 : ByteArray) (at104 n105 : Int), err = PErr.fault part103 at104 n105 → ((part103.size ≤ maxLen) → ((inR .i64 at104) → ((inR .i64 n105) → Q (S_cellFault.mk (some (S_api_Fault.mk part103 at104 (PErr.no n105)))) true))))))))))
set_option maxRecDepth 20000 in
set_option maxHeartbeats 4000000 in
theorem errors_as_w {X : List Nat} {w : World} {err : PErr} {target : S_cellFault} {targetVal : Unit} {targetType : Unit} {verr1 : Value} {btarget3 : Nat} {Ftarget4 : List Nat} {btargetVal6 : Nat} {Q : S_cellFault → Bool → Prop} (hX0 : Old X w) (herr2 : (rErr 94 115 119).ok X w ([verr1]) err) (mtarget5 : MO o_cellFault 115 Ftarget4 w.heap.size X w Ftarget4 btarget3 target) (ktargetVal7 : RO X w btargetVal6 [(.pointer (some ⟨btarget3, 0, none⟩))] 117) (hp : errors_as_p err target targetVal targetType Q) :
    Calls Tryd.prog 102 #[verr1, (.iface 117 (.pointer (some ⟨btarget3, 0, none⟩))), (.agg #[(typeHandle Tryd.prog 117), (.pointer (some ⟨btargetVal6, 0, none⟩)), (.int .u64 (150 : Int))]), (.iface 202 (.agg #[typeHandle Tryd.prog 115]))] w (Ret fun v w' => ∃ (m0 : S_cellFault) (r0 : Bool), Q m0 r0 ∧ ∃ (X' : List Nat) (Fm0 : List Nat), Step X w Ftarget4 X' w' ∧ v = (.bool r0) ∧ MO o_cellFault 115 Ftarget4 w.heap.size X' w' Fm0 btarget3 m0) := by
  have hXo := hX0
  have E0 : Evo Ftarget4 w w := RB.refl _ _ _
  have hS : Sub X X := Sub.refl _
  have hN : News X w X w := News.refl _ _
  have hF0 : Sub Ftarget4 X := MO.mem mtarget5
  unfold errors_as_p at hp
  refine enter_ Tryd.func102 rfl 62 [(0, verr1), (1, (.iface 117 (.pointer (some ⟨btarget3, 0, none⟩)))), (2, (.agg #[(typeHandle Tryd.prog 117), (.pointer (some ⟨btargetVal6, 0, none⟩)), (.int .u64 (150 : Int))])), (3, (.iface 202 (.agg #[typeHandle Tryd.prog 115])))] (by kernel_rfl) (fun Qe hQ => ?_)
  refine seq_ (fun _ K8 => ?_)
  refine reg_ ?_
  refine sq (o_newX [(typeHandle Tryd.prog 117), (.pointer (some ⟨btargetVal6, 0, none⟩)), (.int .u64 (150 : Int))] 179 (X := X) (B := w.heap.size) E0.size rfl (by kernel_rfl) ?_)
  intro b9 w10 X11 s12 k13 n14
  have p15 := n14 _ (MO.old mtarget5)
  refine sq (o_pv (.bool false) rfl (by kernel_rfl) ?_)
  refine nil_ ?_
  refine then_normal (K8 _ _ _ _ ?_)
  refine wp_block ?_
  have herr72 := (Rep.step (rErr 94 115 119) herr2 s12)
  have ktargetVal73 := (RO.step ktargetVal7 s12)
  have mtarget74 := (MO.step0 mtarget5 s12)
  have hXo75 := (Old.step hXo s12)
  have E76 := (Evo.then0 E0 (Step.evo s12))
  have hS77 := (Sub.trans hS (Step.up s12))
  have hN78 := (News.step hN s12)
  obtain ⟨I62, m63, hI64, hp⟩ := hp
  refine loop_ 4611686018427379457 (fun kq lq w66 => ∃ (X67 : List Nat), (lq = [(0, verr1)]) ∧ (kq = m63) ∧ (Evo Ftarget4 w w66) ∧ (Old X67 w66) ∧ (Sub X X67) ∧ (News X w X67 w66) ∧ ((rErr 94 115 119).ok X67 w66 ([verr1]) err) ∧ (MO o_cellFault 115 Ftarget4 w.heap.size X67 w66 Ftarget4 btarget3 target) ∧ (OB ([]) w.heap.size X67 w66 b9 [(typeHandle Tryd.prog 117), (.pointer (some ⟨btargetVal6, 0, none⟩)), (.int .u64 (150 : Int))] 179) ∧ (RO X67 w66 btargetVal6 [(.pointer (some ⟨btarget3, 0, none⟩))] 117) ∧ (I62)) (m63) [(0, verr1)] (vs_cons (by kernel_rfl) vs_nil) ⟨X11, rfl, rfl, E76, hXo75, hS77, hN78, herr72, mtarget74, k13, ktargetVal73, hI64⟩ ?_
  rintro _ _ w66 g69 ⟨X67, rfl, rfl, E79, hXo80, hS81, hN82, herr83, mtarget84, k85, ktargetVal86, hI65⟩ Kl70 hA71
  replace hp := hp hI65
  refine wp_block ?_
  refine seq_ (fun _ K87 => ?_)
  refine seq_ (fun _ K88 => ?_)
  refine reg_ ?_
  refine sq (o_pv verr1 rfl (by kernel_rfl) ?_)
  by_cases h89 : err.isNil = true
  ·
    replace hp := hp.1 h89
    have hc91 := isNil_eq h89
    rw [hc91] at herr83
    obtain rfl := rErr_inv_nil herr83
    exact hp.elim
  ·
    replace hp := hp.2 h89
    by_cases h90 : err.isNo = true
    ·
      replace hp := hp.1 h90
      obtain ⟨n92, hc93⟩ := isNo_eq h90
      replace hp := hp n92 hc93
      rw [hc93] at herr83
      obtain ⟨rfl, r94⟩ := rErr_inv_no herr83
      replace hp := hp r94
      refine sq (o_pv (.iface 202 (.agg #[typeHandle Tryd.prog 94])) rfl (x_ext Tryd.func97 (by kernel_rfl) (by kernel_rfl) (by kernel_rfl) (show _ = some Extern.ReflectliteType.typeOf by kernel_rfl) #[(.iface 94 (.int .i64 n92))] (by kernel_rfl) (by kernel_rfl)) ?_)
      refine sq (o_pv (.iface 202 (.agg #[typeHandle Tryd.prog 115])) rfl (by kernel_rfl) ?_)
      refine sq (o_pv (.bool false) rfl (x_invext (t := 202) (v := (.agg #[typeHandle Tryd.prog 94])) (r := (.agg #[typeHandle Tryd.prog 94])) (by kernel_rfl) (fun _ => by kernel_rfl) Tryd.func183 (by kernel_rfl) (by kernel_rfl) (by kernel_rfl) (show _ = some (Extern.ReflectliteType.relation "AssignableTo" Extern.ReflectliteType.assignableTo) by kernel_rfl) #[(.agg #[typeHandle Tryd.prog 94]), (.iface 202 (.agg #[typeHandle Tryd.prog 115]))] (by kernel_rfl) (by kernel_rfl)) ?_)
      refine nil_ ?_
      refine then_normal (K88 _ _ _ _ ?_)
      refine cond_f (by kernel_rfl) ?_
      refine wp_skip ?_
      refine then_normal (K87 _ _ _ _ ?_)
      refine seq_ (fun _ K95 => ?_)
      refine seq_ (fun _ K96 => ?_)
      refine reg_ ?_
      refine sq (o_pv (.iface 94 (.int .i64 n92)) rfl (by kernel_rfl) ?_)
      refine sq (o_pv (.tuple #[.nilIface, (.bool false)]) rfl (x_tassert (t := 94) (v := (.int .i64 n92)) (by kernel_rfl) (fun v xT w => run_typeAssert_lacksB Tryd.underlying214 (by kernel_rfl) (by kernel_rfl) v xT w)) ?_)
      refine sq (o_pv (.tuple #[.nilIface, (.bool false)]) rfl (by kernel_rfl) ?_)
      refine sq (o_pv .nilIface rfl (by kernel_rfl) ?_)
      refine sq (o_pv (.bool false) rfl (by kernel_rfl) ?_)
      refine sq (o_pv .nilIface rfl (by kernel_rfl) ?_)
      refine sq (o_pv (.bool false) rfl (by kernel_rfl) ?_)
      refine nil_ ?_
      refine then_normal (K96 _ _ _ _ ?_)
      refine seq_ (fun _ K97 => ?_)
      refine reg_ ?_
      refine sq (o_pv (.bool false) rfl (by kernel_rfl) ?_)
      refine sq (o_pv (.bool false) rfl (by kernel_rfl) ?_)
      refine sq (o_not (by kernel_rfl) ?_)
      refine sq (o_not (by kernel_rfl) ?_)
      refine sq (o_not (by kernel_rfl) ?_)
      refine sq (o_pv (.bool false) rfl (by kernel_rfl) ?_)
      refine nil_ ?_
      refine then_normal (K97 _ _ _ _ ?_)
      refine cond_f (by kernel_rfl) ?_
      refine wp_skip ?_
      refine then_normal (K95 _ _ _ _ ?_)
      refine seq_ (fun _ K98 => ?_)
      refine reg_ ?_
      refine sq (o_pv (.iface 94 (.int .i64 n92)) rfl (by kernel_rfl) ?_)
      refine nil_ ?_
      refine then_normal (K98 _ _ _ _ ?_)
      refine wp_block ?_
      refine seq_ (fun _ K99 => ?_)
      refine reg_ ?_
      refine sq (o_pv (.tuple #[.nilIface, (.bool false)]) rfl (x_tassert (t := 94) (v := (.int .i64 n92)) (by kernel_rfl) (fun v xT w => run_typeAssert_lacksB Tryd.underlying207 (by kernel_rfl) (by kernel_rfl) v xT w)) ?_)
      refine sq (o_pv (.bool false) rfl (by kernel_rfl) ?_)
      refine sq (o_pv .nilIface rfl (by kernel_rfl) ?_)
      refine nil_ ?_
      refine then_normal (K99 _ _ _ _ ?_)
      refine cond_f (by kernel_rfl) ?_
      refine seq_ (fun _ K100 => ?_)
      refine reg_ ?_
      refine sq (o_pv (.tuple #[.nilIface, (.bool false)]) rfl (x_tassert (t := 94) (v := (.int .i64 n92)) (by kernel_rfl) (fun v xT w => run_typeAssert_lacksB Tryd.underlying209 (by kernel_rfl) (by kernel_rfl) v xT w)) ?_)
      refine sq (o_pv (.bool false) rfl (by kernel_rfl) ?_)
      refine sq (o_pv .nilIface rfl (by kernel_rfl) ?_)
      refine nil_ ?_
      refine then_normal (K100 _ _ _ _ ?_)
      refine cond_f (by kernel_rfl) ?_
      refine seq_ (fun _ K101 => ?_)
      refine reg_ ?_
      refine sq (o_pv (.iface 94 (.int .i64 n92)) rfl (by kernel_rfl) ?_)
      refine nil_ ?_
      refine then_normal (K101 _ _ _ _ ?_)
      refine seq_ (fun _ K102 => ?_)
      refine reg_ ?_
      refine sq (o_pv (.bool false) rfl (by kernel_rfl) ?_)
      refine nil_ ?_
      refine then_normal (K102 _ _ _ _ ?_)
      refine wp_ret ?_
      refine blk_ret ?_
      refine blk_ret ?_
      refine then_ret ?_
      refine blk_ret ?_
      refine end_ret hQ (.bool false) (by kernel_rfl) ?_
      exact ⟨target, false, hp, X67, Ftarget4, step_of E79 hF0 hS81 hN82, rfl, mtarget84⟩
    ·
      replace hp := hp.2 h90
      obtain ⟨part103, at104, n105, hc106⟩ := isFault_eq h89 h90
      replace hp := hp part103 at104 n105 hc106
      rw [hc106] at herr83
      obtain ⟨b107, rfl, k108, z109, r110, r111⟩ := rErr_inv_fault herr83
      replace hp := hp z109
      replace hp := hp r110
      replace hp := hp r111
      refine sq (o_pv (.iface 202 (.agg #[typeHandle Tryd.prog 115])) rfl (x_ext Tryd.func97 (by kernel_rfl) (by kernel_rfl) (by kernel_rfl) (show _ = some Extern.ReflectliteType.typeOf by kernel_rfl) #[(.iface 115 (.pointer (some ⟨b107, 0, none⟩)))] (by kernel_rfl) (by kernel_rfl)) ?_)
      refine sq (o_pv (.iface 202 (.agg #[typeHandle Tryd.prog 115])) rfl (by kernel_rfl) ?_)
      refine sq (o_pv (.bool true) rfl (x_invext (t := 202) (v := (.agg #[typeHandle Tryd.prog 115])) (r := (.agg #[typeHandle Tryd.prog 115])) (by kernel_rfl) (fun _ => by kernel_rfl) Tryd.func183 (by kernel_rfl) (by kernel_rfl) (by kernel_rfl) (show _ = some (Extern.ReflectliteType.relation "AssignableTo" Extern.ReflectliteType.assignableTo) by kernel_rfl) #[(.agg #[typeHandle Tryd.prog 115]), (.iface 202 (.agg #[typeHandle Tryd.prog 115]))] (by kernel_rfl) (by kernel_rfl)) ?_)
      refine nil_ ?_
      refine then_normal (K88 _ _ _ _ ?_)
      refine cond_t (by kernel_rfl) ?_
      refine seq_ (fun _ K112 => ?_)
      refine reg_ ?_
      refine sq (o_pv (.agg #[(typeHandle Tryd.prog 117), (.pointer (some ⟨btargetVal6, 0, none⟩)), (.int .u64 (150 : Int))]) rfl (x_loadN [(typeHandle Tryd.prog 117), (.pointer (some ⟨btargetVal6, 0, none⟩)), (.int .u64 (150 : Int))] (by kernel_rfl) Tryd.isAgg179 Tryd.sizeOf179 (k85.2.1.cells' 0 rfl)) ?_)
      refine sq (o_pv (.agg #[(typeHandle Tryd.prog 115), (.pointer (some ⟨btarget3, 0, none⟩)), (.int .u64 (406 : Int))]) rfl (x_ext Tryd.func115 (by kernel_rfl) (by kernel_rfl) (by kernel_rfl) (show _ = some (Extern.ReflectliteValue.method (Extern.ReflectliteValue.valueError "reflectlite.Value.Elem" 0) Extern.ReflectliteValue.elem) by kernel_rfl) #[(.agg #[(typeHandle Tryd.prog 117), (.pointer (some ⟨btargetVal6, 0, none⟩)), (.int .u64 (150 : Int))])] (by kernel_rfl) (run_velem (H' := (typeHandle Tryd.prog 115)) Tryd.underlying117 (fun w => by kernel_rfl) (ktargetVal86.2.cell' 0 rfl) (fun w => by kernel_rfl) (fun w => by kernel_rfl))) ?_)
      refine sq (o_pv (.iface 115 (.pointer (some ⟨b107, 0, none⟩))) rfl (by kernel_rfl) ?_)
      refine sq (o_valof (X := X67) (B := w.heap.size) (t := 115) (v := (.pointer (some ⟨b107, 0, none⟩))) (H := (typeHandle Tryd.prog 115)) (k := 150) E79.size rfl (x_ext Tryd.func99 (by kernel_rfl) (by kernel_rfl) (by kernel_rfl) (show _ = some (fun args => Extern.ReflectliteValue.unpack (args.getD 0 (.tuple #[]))) by kernel_rfl) #[(.iface 115 (.pointer (some ⟨b107, 0, none⟩)))] (by kernel_rfl) (by kernel_rfl)) ?_)
      intro b113 w114 X115 s116 k117 n118
      have p119 := n118 _ (MO.old mtarget84)
      have p120 := n118 _ (OB.old k85)
      have mtarget121 := (MO.step0 mtarget84 s116)
      obtain ⟨vov122, k124, hov123, sb125⟩ := o_cellFault_open mtarget121
      have p126 := Ap.subr (Ap.symm p15) sb125
      have p127 := Ap.subr (Ap.symm p119) sb125
      have k128 := (OB.step0 k85 s116)
      refine sq (o_vset (X := X115) (t := 115) (H := (typeHandle Tryd.prog 115)) rfl k124 (k117.2.1.cell' 0 rfl) Tryd.underlying115 Tryd.sizeOf115 (fun w => by kernel_rfl) (fun w => by kernel_rfl) (fun w => by kernel_rfl) (x_extr Tryd.func116 (by kernel_rfl) (by kernel_rfl) (by kernel_rfl) (show _ = some Extern.ReflectliteValue.set by kernel_rfl) #[(.agg #[(typeHandle Tryd.prog 115), (.pointer (some ⟨btarget3, 0, none⟩)), (.int .u64 (406 : Int))]), (.agg #[(typeHandle Tryd.prog 115), (.pointer (some ⟨b113, 0, none⟩)), (.int .u64 (150 : Int))])] (by kernel_rfl)) ?_)
      intro w129 s130 k131
      refine nil_ ?_
      refine then_normal (K112 _ _ _ _ ?_)
      refine seq_ (fun _ K132 => ?_)
      refine reg_ ?_
      refine sq (o_pv (.bool true) rfl (by kernel_rfl) ?_)
      refine nil_ ?_
      refine then_normal (K132 _ _ _ _ ?_)
      refine wp_ret ?_
      refine then_ret ?_
      refine blk_ret ?_
      refine then_ret ?_
      refine blk_ret ?_
      have E133 := (Evo.thenW (Evo.then0 E79 (Step.evo s116)) (Step.evo s130) k124.2.2)
      have hXo134 := (Old.step (Old.step hXo80 s116) s130)
      have hS135 := (Sub.trans (Sub.trans hS81 (Step.up s116)) (Step.up s130))
      have hN136 := (News.step (News.step hN82 s116) s130)
      have k137 := (OB.step k128 s130 p126)
      have ktargetVal138 := (RO.step (RO.step ktargetVal86 s116) s130)
      have k139 := (RO.step (RO.step k108 s116) s130)
      have k140 := (OB.step k117 s130 p127)
      have hov141 := (Rep.step (rPtrO r_api_Fault 119) hov123 s130)
      obtain ⟨F142, m143, hs144⟩ := MO.pack (o_cellFault_mk k131 (rPtrO_some k139.1 k139.2 (r_api_Fault_mk z109 r110 (rErr_no r111))))
      have p145 := hs144 _ (Ap.cons p126 (Ap.nil_r _))
      have p146 := hs144 _ (Ap.cons p127 (Ap.nil_r _))
      refine end_ret hQ (.bool true) (by kernel_rfl) ?_
      exact ⟨(S_cellFault.mk (some (S_api_Fault.mk part103 at104 (PErr.no n105)))), true, hp, X115, F142, step_of E133 hF0 hS135 hN136, rfl, m143⟩

def errors_As_p (err : PErr) (target : S_cellFault) (Q : S_cellFault → Bool → Prop) : Prop :=
  (((err.isNil = true) → Q target false) ∧ ((err.isNil = false) → (errors_as_p err target () () (fun (target67 : S_cellFault) (r68 : Bool) => Q target67 r68))))
set_option maxRecDepth 20000 in
set_option maxHeartbeats 4000000 in
theorem errors_As_w {X : List Nat} {w : World} {err : PErr} {target : S_cellFault} {verr1 : Value} {btarget3 : Nat} {Ftarget4 : List Nat} {Q : S_cellFault → Bool → Prop} (hX0 : Old X w) (herr2 : (rErr 94 115 119).ok X w ([verr1]) err) (mtarget5 : MO o_cellFault 115 Ftarget4 w.heap.size X w Ftarget4 btarget3 target) (gv0 : GV X w 0 [(.iface 202 (.agg #[typeHandle Tryd.prog 26]))]) (hp : errors_As_p err target Q) :
    Calls Tryd.prog 59 #[verr1, (.iface 117 (.pointer (some ⟨btarget3, 0, none⟩)))] w (Ret fun v w' => ∃ (m0 : S_cellFault) (r0 : Bool), Q m0 r0 ∧ ∃ (X' : List Nat) (Fm0 : List Nat), Step X w Ftarget4 X' w' ∧ v = (.bool r0) ∧ MO o_cellFault 115 Ftarget4 w.heap.size X' w' Fm0 btarget3 m0) := by
  have hXo := hX0
  have E0 : Evo Ftarget4 w w := RB.refl _ _ _
  have hS : Sub X X := Sub.refl _
  have hN : News X w X w := News.refl _ _
  have hF0 : Sub Ftarget4 X := MO.mem mtarget5
  unfold errors_As_p at hp
  refine enter_ Tryd.func59 rfl 42 [(0, verr1), (1, (.iface 117 (.pointer (some ⟨btarget3, 0, none⟩))))] (by kernel_rfl) (fun Qe hQ => ?_)
  refine seq_ (fun _ K6 => ?_)
  refine reg_ ?_
  refine sq (o_pv (.bool false) rfl (by kernel_rfl) ?_)
  refine nil_ ?_
  refine then_normal (K6 _ _ _ _ ?_)
  refine seq_ (fun _ K7 => ?_)
  refine seq_ (fun _ K8 => ?_)
  refine reg_ ?_
  refine sq (o_pv verr1 rfl (by kernel_rfl) ?_)
  refine sq (o_pv (.bool err.isNil) rfl (x_err_eq err herr2 Tryd.underlying26 (by kernel_rfl)) ?_)
  refine nil_ ?_
  refine then_normal (K8 _ _ _ _ ?_)
  refine cond_b err.isNil (by kernel_rfl) (fun h9 => ?_) (fun h9 => ?_)
  ·
    replace hp := hp.1 h9
    refine seq_ (fun _ K10 => ?_)
    refine reg_ ?_
    refine sq (o_pv (.bool false) rfl (by kernel_rfl) ?_)
    refine nil_ ?_
    refine then_normal (K10 _ _ _ _ ?_)
    refine wp_ret ?_
    refine then_ret ?_
    refine end_ret hQ (.bool false) (by kernel_rfl) ?_
    exact ⟨target, false, hp, X, Ftarget4, step_of E0 hF0 hS hN, rfl, mtarget5⟩
  ·
    replace hp := hp.2 h9
    refine wp_skip ?_
    refine then_normal (K7 _ _ _ _ ?_)
    refine seq_ (fun _ K11 => ?_)
    refine seq_ (fun _ K12 => ?_)
    refine reg_ ?_
    refine sq (o_pv (.iface 117 (.pointer (some ⟨btarget3, 0, none⟩))) rfl (by kernel_rfl) ?_)
    refine sq (o_pv (.bool false) rfl (x_inil_eq (tp := 117) (v := (.pointer (some ⟨btarget3, 0, none⟩))) Tryd.underlying20 (by kernel_rfl) (by kernel_rfl)) ?_)
    refine nil_ ?_
    refine then_normal (K12 _ _ _ _ ?_)
    refine cond_f (by kernel_rfl) ?_
    refine wp_skip ?_
    refine then_normal (K11 _ _ _ _ ?_)
    refine seq_ (fun _ K13 => ?_)
    refine reg_ ?_
    refine sq (o_pv (.iface 117 (.pointer (some ⟨btarget3, 0, none⟩))) rfl (by kernel_rfl) ?_)
    refine sq (o_valof (X := X) (B := w.heap.size) (t := 117) (v := (.pointer (some ⟨btarget3, 0, none⟩))) (H := (typeHandle Tryd.prog 117)) (k := 150) E0.size rfl (x_ext Tryd.func99 (by kernel_rfl) (by kernel_rfl) (by kernel_rfl) (show _ = some (fun args => Extern.ReflectliteValue.unpack (args.getD 0 (.tuple #[]))) by kernel_rfl) #[(.iface 117 (.pointer (some ⟨btarget3, 0, none⟩)))] (by kernel_rfl) (by kernel_rfl)) ?_)
    intro b14 w15 X16 s17 k18 n19
    have p20 := n19 _ (MO.old mtarget5)
    have mtarget27 := (MO.step0 mtarget5 s17)
    have E28 := (Evo.then0 E0 (Step.evo s17))
    refine sq (o_newX [(.pointer none), (.pointer none), (.int .u64 (0 : Int))] 179 (X := X16) (B := w.heap.size) E28.size rfl (by kernel_rfl) ?_)
    intro b21 w22 X23 s24 k25 n26
    have p29 := n26 _ (MO.old mtarget27)
    have p30 := n26 _ (OB.old k18)
    have mtarget31 := (MO.step0 mtarget27 s24)
    have k32 := (OB.step0 k18 s24)
    have E33 := (Evo.then0 E28 (Step.evo s24))
    refine sq (o_stB (o := 0) (v := (.agg #[(typeHandle Tryd.prog 117), (.pointer (some ⟨b14, 0, none⟩)), (.int .u64 (150 : Int))])) [(typeHandle Tryd.prog 117), (.pointer (some ⟨b14, 0, none⟩)), (.int .u64 (150 : Int))] rfl k25 (by kernel_rfl) (by kernel_rfl) Tryd.sizeOf179 rfl rfl rfl ?_)
    intro w34 s35 k36
    refine nil_ ?_
    refine then_normal (K13 _ _ _ _ ?_)
    refine seq_ (fun _ K37 => ?_)
    refine reg_ ?_
    refine sq (o_pv (.agg #[(typeHandle Tryd.prog 117), (.pointer (some ⟨b14, 0, none⟩)), (.int .u64 (150 : Int))]) rfl (x_loadN [(typeHandle Tryd.prog 117), (.pointer (some ⟨b14, 0, none⟩)), (.int .u64 (150 : Int))] (by kernel_rfl) Tryd.isAgg179 Tryd.sizeOf179 (k36.2.1.cells' 0 rfl)) ?_)
    refine sq (o_pv (.iface 202 (.agg #[typeHandle Tryd.prog 117])) rfl (x_ext Tryd.func100 (by kernel_rfl) (by kernel_rfl) (by kernel_rfl) (show _ = some (Extern.ReflectliteValue.methodAny (Extern.ReflectliteValue.valueError "reflectlite.Value.Type" 0) fun t _ _ _ => Extern.ReflectliteType.toType t) by kernel_rfl) #[(.agg #[(typeHandle Tryd.prog 117), (.pointer (some ⟨b14, 0, none⟩)), (.int .u64 (150 : Int))])] (by kernel_rfl) (by kernel_rfl)) ?_)
    refine sq (o_pv (.iface 202 (.agg #[typeHandle Tryd.prog 117])) rfl (by kernel_rfl) ?_)
    refine nil_ ?_
    refine then_normal (K37 _ _ _ _ ?_)
    refine seq_ (fun _ K38 => ?_)
    refine seq_ (fun _ K39 => ?_)
    refine reg_ ?_
    refine sq (o_pv (.iface 202 (.agg #[typeHandle Tryd.prog 117])) rfl (by kernel_rfl) ?_)
    refine sq (o_pv (.int .u8 (22 : Int)) rfl (x_invext (t := 202) (v := (.agg #[typeHandle Tryd.prog 117])) (r := (typeHandle Tryd.prog 117)) (by kernel_rfl) (fun _ => by kernel_rfl) Tryd.func171 (by kernel_rfl) (by kernel_rfl) (by kernel_rfl) (show _ = some (Extern.ReflectliteType.abiMethod fun t => do pure (.int .u8 (← Extern.Rtype.kind t))) by kernel_rfl) #[(typeHandle Tryd.prog 117)] (by kernel_rfl) (by kernel_rfl)) ?_)
    refine sq (o_pv (.bool false) rfl (x_ndf (p := (22 : Int) = (22 : Int)) (by kernel_rfl) (by decide)) ?_)
    refine sq (o_pv (.bool false) rfl (by kernel_rfl) ?_)
    refine sq (o_pv (.agg #[(typeHandle Tryd.prog 117), (.pointer (some ⟨b14, 0, none⟩)), (.int .u64 (150 : Int))]) (by kernel_rfl) (x_loadN [(typeHandle Tryd.prog 117), (.pointer (some ⟨b14, 0, none⟩)), (.int .u64 (150 : Int))] (by kernel_rfl) Tryd.isAgg179 Tryd.sizeOf179 (k36.2.1.cells' 0 rfl)) ?_)
    have k41 := (OB.step k32 s35 p30)
    refine sq (o_pv (.bool false) (by kernel_rfl) (x_ext Tryd.func101 (by kernel_rfl) (by kernel_rfl) (by kernel_rfl) (show _ = some (Extern.ReflectliteValue.method (Extern.ReflectliteValue.valueError "reflectlite.Value.IsNil" 0) Extern.ReflectliteValue.isNil) by kernel_rfl) #[(.agg #[(typeHandle Tryd.prog 117), (.pointer (some ⟨b14, 0, none⟩)), (.int .u64 (150 : Int))])] (by kernel_rfl) (run_visnil Tryd.underlying117 (fun w => by kernel_rfl) (k41.2.1.cell' 0 rfl))) ?_)
    refine sq (o_pv (.bool false) rfl (by kernel_rfl) ?_)
    refine nil_ ?_
    refine then_normal (K39 _ _ _ _ ?_)
    refine cond_f (by kernel_rfl) ?_
    refine wp_skip ?_
    refine then_normal (K38 _ _ _ _ ?_)
    refine seq_ (fun _ K42 => ?_)
    refine reg_ ?_
    refine sq (o_pv (.iface 202 (.agg #[typeHandle Tryd.prog 117])) rfl (by kernel_rfl) ?_)
    refine sq (o_pv (.iface 202 (.agg #[typeHandle Tryd.prog 115])) rfl (x_invext (t := 202) (v := (.agg #[typeHandle Tryd.prog 117])) (r := (.agg #[typeHandle Tryd.prog 117])) (by kernel_rfl) (fun _ => by kernel_rfl) Tryd.func185 (by kernel_rfl) (by kernel_rfl) (by kernel_rfl) (show _ = some (Extern.ReflectliteType.method Extern.ReflectliteType.elem) by kernel_rfl) #[(.agg #[typeHandle Tryd.prog 117])] (by kernel_rfl) (by kernel_rfl)) ?_)
    refine sq (o_pv (.iface 202 (.agg #[typeHandle Tryd.prog 115])) rfl (by kernel_rfl) ?_)
    refine nil_ ?_
    refine then_normal (K42 _ _ _ _ ?_)
    refine seq_ (fun _ K43 => ?_)
    refine seq_ (fun _ K44 => ?_)
    refine reg_ ?_
    refine sq (o_pv (.iface 202 (.agg #[typeHandle Tryd.prog 115])) rfl (by kernel_rfl) ?_)
    refine sq (o_pv (.int .u8 (22 : Int)) rfl (x_invext (t := 202) (v := (.agg #[typeHandle Tryd.prog 115])) (r := (typeHandle Tryd.prog 115)) (by kernel_rfl) (fun _ => by kernel_rfl) Tryd.func171 (by kernel_rfl) (by kernel_rfl) (by kernel_rfl) (show _ = some (Extern.ReflectliteType.abiMethod fun t => do pure (.int .u8 (← Extern.Rtype.kind t))) by kernel_rfl) #[(typeHandle Tryd.prog 115)] (by kernel_rfl) (by kernel_rfl)) ?_)
    refine sq (o_pv (.bool true) rfl (x_ndt (p := (22 : Int) = (20 : Int)) (by kernel_rfl) (by decide)) ?_)
    refine sq (o_pv (.bool true) rfl (by kernel_rfl) ?_)
    refine sq (o_pv (.iface 202 (.agg #[typeHandle Tryd.prog 115])) (by kernel_rfl) (by kernel_rfl) ?_)
    have gv46 := (GV.step (GV.step (GV.step gv0 s17) s24) s35)
    refine sq (o_pv (.iface 202 (.agg #[typeHandle Tryd.prog 26])) (by kernel_rfl) (x_load1 (by kernel_rfl) Tryd.isAgg173 (GV.cell gv46 0 rfl)) ?_)
    refine sq (o_pv (.bool true) (by kernel_rfl) (x_invext (t := 202) (v := (.agg #[typeHandle Tryd.prog 115])) (r := (.agg #[typeHandle Tryd.prog 115])) (by kernel_rfl) (fun _ => by kernel_rfl) Tryd.func186 (by kernel_rfl) (by kernel_rfl) (by kernel_rfl) (show _ = some (Extern.ReflectliteType.relation "Implements" Extern.ReflectliteType.implements_) by kernel_rfl) #[(.agg #[typeHandle Tryd.prog 115]), (.iface 202 (.agg #[typeHandle Tryd.prog 26]))] (by kernel_rfl) (by kernel_rfl)) ?_)
    refine sq (o_pv (.bool false) (by kernel_rfl) (by kernel_rfl) ?_)
    refine sq (o_pv (.bool false) rfl (by kernel_rfl) ?_)
    refine nil_ ?_
    refine then_normal (K44 _ _ _ _ ?_)
    refine cond_f (by kernel_rfl) ?_
    refine wp_skip ?_
    refine then_normal (K43 _ _ _ _ ?_)
    refine seq_ (fun _ K47 => ?_)
    refine reg_ ?_
    refine sq (o_pv verr1 rfl (by kernel_rfl) ?_)
    refine sq (o_pv (.iface 117 (.pointer (some ⟨btarget3, 0, none⟩))) rfl (by kernel_rfl) ?_)
    refine sq (o_pv (.agg #[(typeHandle Tryd.prog 117), (.pointer (some ⟨b14, 0, none⟩)), (.int .u64 (150 : Int))]) rfl (x_loadN [(typeHandle Tryd.prog 117), (.pointer (some ⟨b14, 0, none⟩)), (.int .u64 (150 : Int))] (by kernel_rfl) Tryd.isAgg179 Tryd.sizeOf179 (k36.2.1.cells' 0 rfl)) ?_)
    refine sq (o_pv (.iface 202 (.agg #[typeHandle Tryd.prog 115])) rfl (by kernel_rfl) ?_)
    have herr53 := (Rep.step (rErr 94 115 119) (Rep.step (rErr 94 115 119) (Rep.step (rErr 94 115 119) herr2 s17) s24) s35)
    have mtarget54 := (MO.step mtarget31 s35 p29)
    have hXo55 := (Old.step (Old.step (Old.step hXo s17) s24) s35)
    have E56 := (Evo.thenW E33 (Step.evo s35) (Wr.of k25.2.2))
    have hS57 := (Sub.trans (Sub.trans (Sub.trans hS (Step.up s17)) (Step.up s24)) (Step.up s35))
    have hN58 := (News.step (News.step (News.step hN s17) s24) s35)
    have ax52 := OB.apold k41 hX0
    obtain ⟨X48, u49, r50, hm51⟩ := OB.release k41
    have herr59 := (Rep.less (rErr 94 115 119) herr53 u49)
    have mtarget60 := (MO.less mtarget54 u49 (hm51 _ p20 (MO.mem mtarget54)))
    have gv61 := (GV.less gv46 u49)
    have hXo62 := (Old.less hXo55 u49)
    have E63 := E56
    have hS64 := (hm51 _ ax52 hS57)
    have hN65 := (News.less hN58 u49)
    have k66 := (OB.less k36 (hm51 _ (Ap.symm p30) (OB.mem k36)))
    refine sq (o_call 102 #[verr1, (.iface 117 (.pointer (some ⟨btarget3, 0, none⟩))), (.agg #[(typeHandle Tryd.prog 117), (.pointer (some ⟨b14, 0, none⟩)), (.int .u64 (150 : Int))]), (.iface 202 (.agg #[typeHandle Tryd.prog 115]))] rfl (x_call Tryd.call102 (by kernel_rfl)) (errors_as_w (X := X48) (err := err) (target := target) (targetVal := ()) (targetType := ()) hXo62 herr59 (MO.re mtarget60 (Wr.self _ _ (Sub.refl _))) r50 hp) ?_)
    rintro _ w69 ⟨target67, r68, hp, X70, F72, s71, rfl, m73⟩
    have m74 := MO.re m73 (Wr.trans m73.wr mtarget60.wr E63.size)
    have p75 := Ap.grow m73.wr (Ap.symm p29) (OB.old k66) (Nat.le_refl _)
    refine sq (o_pv (.bool r68) rfl (by kernel_rfl) ?_)
    refine nil_ ?_
    refine then_normal (K47 _ _ _ _ ?_)
    refine wp_ret ?_
    have herr76 := (Rep.step (rErr 94 115 119) herr59 s71)
    have gv77 := (GV.step gv61 s71)
    have hXo78 := (Old.step hXo62 s71)
    have E79 := (Evo.thenW E63 (Step.evo s71) mtarget60.wr)
    have hS80 := (Sub.trans hS64 (Step.up s71))
    have hN81 := (News.step hN65 s71)
    have k82 := (OB.step k66 s71 (Ap.symm p29))
    have r83 := (RO.step r50 s71)
    refine end_ret hQ (.bool r68) (by kernel_rfl) ?_
    exact ⟨target67, r68, hp, X70, F72, step_of E79 hF0 hS80 hN81, rfl, m74⟩

def rectolaw2_Tells_p (err : PErr) (w_ : S_rectoref3_Wrong) (Q : Bool → Prop) : Prop :=
  ((w_.Parts.length ≤ 9223372036854775807) → ((inR .i64 w_.Err) → (((w_.Err = (0 : Int)) → Q err.isNil) ∧ ((¬ (w_.Err = (0 : Int))) → (((err.isNil = true) → Q false) ∧ ((¬ (err.isNil = true)) → (((err.isNo = true) → (∀ n140 : Int, err = PErr.no n140 → ((inR .i64 n140) → (∃ k182 : Bool → Prop, (∀ (s181 : Bool), k182 s181 → (((s181 = true) → Q false) ∧ ((s181 = false) → ((((w_.Parts.length : Int) = (0 : Int)) → Q true) ∧ ((¬ ((w_.Parts.length : Int) = (0 : Int))) → (∃ k294 : Bool → S_cellFault → Prop, (∀ (s290 : Bool) (o291 : S_cellFault), k294 s290 o291 → (((s290 = true) → Q false) ∧ ((s290 = false) → (∃ k412 : Bool → Prop, (∀ (s411 : Bool), k412 s411 → Q s411) ∧ (∃ d444 : S_api_Fault, (o291.v = some d444) ∧ ((d444.Part.size ≤ maxLen) → ((inR .i64 d444.At) → ((inL w_.Parts (0 : Int)) ∧ ((((lget w_.Parts (0 : Int)).Word).size ≤ maxLen) → ((inR .i64 ((lget w_.Parts (0 : Int)).At)) → ((((d444.Part : ByteArray) = (lget w_.Parts (0 : Int)).Word) → ((inL w_.Parts (0 : Int)) ∧ ((((lget w_.Parts (0 : Int)).Word).size ≤ maxLen) → ((inR .i64 ((lget w_.Parts (0 : Int)).At)) → (k412 (decide (d444.At = ((lget w_.Parts (0 : Int)).At)))))))) ∧ ((¬ ((d444.Part : ByteArray) = (lget w_.Parts (0 : Int)).Word)) → (k412 false))))))))))))) ∧ (errors_As_p (PErr.no n140) (S_cellFault.mk none) (fun (target320 : S_cellFault) (r321 : Bool) => (((r321 = true) → (k294 target320.v.isNone target320)) ∧ ((r321 = false) → (k294 true target320))))))))))) ∧ (api_Errno_Error_p n140 (fun (r215 : ByteArray) => ((r215.size ≤ maxLen) → (rectoref3_Words_p w_ (fun (r222 : ByteArray) => ((r222.size ≤ maxLen) → ((((r215 : ByteArray) = r222) → (errors_Is_p (PErr.no n140) w_.Err (fun (r229 : Bool) => (k182 (!r229))))) ∧ ((¬ ((r215 : ByteArray) = r222)) → (k182 true))))))))))))) ∧ ((¬ (err.isNo = true)) → (∀ (part480 : ByteArray) (at481 n482 : Int), err = PErr.fault part480 at481 n482 → ((part480.size ≤ maxLen) → ((inR .i64 at481) → ((inR .i64 n482) → (∃ k530 : Bool → Prop, (∀ (s529 : Bool), k530 s529 → (((s529 = true) → Q false) ∧ ((s529 = false) → ((((w_.Parts.length : Int) = (0 : Int)) → Q true) ∧ ((¬ ((w_.Parts.length : Int) = (0 : Int))) → (∃ k648 : Bool → S_cellFault → Prop, (∀ (s644 : Bool) (o645 : S_cellFault), k648 s644 o645 → (((s644 = true) → Q false) ∧ ((s644 = false) → (∃ k768 : Bool → Prop, (∀ (s767 : Bool), k768 s767 → Q s767) ∧ (∃ d800 : S_api_Fault, (o645.v = some d800) ∧ ((d800.Part.size ≤ maxLen) → ((inR .i64 d800.At) → ((inL w_.Parts (0 : Int)) ∧ ((((lget w_.Parts (0 : Int)).Word).size ≤ maxLen) → ((inR .i64 ((lget w_.Parts (0 : Int)).At)) → ((((d800.Part : ByteArray) = (lget w_.Parts (0 : Int)).Word) → ((inL w_.Parts (0 : Int)) ∧ ((((lget w_.Parts (0 : Int)).Word).size ≤ maxLen) → ((inR .i64 ((lget w_.Parts (0 : Int)).At)) → (k768 (decide (d800.At = ((lget w_.Parts (0 : Int)).At)))))))) ∧ ((¬ ((d800.Part : ByteArray) = (lget w_.Parts (0 : Int)).Word)) → (k768 false))))))))))))) ∧ (errors_As_p (PErr.fault part480 at481 n482) (S_cellFault.mk none) (fun (target675 : S_cellFault) (r676 : Bool) => (((r676 = true) → (k648 target675.v.isNone target675)) ∧ ((r676 = false) → (k648 true target675))))))))))) ∧ (api_Fault_Error_p (S_api_Fault.mk part480 at481 (PErr.no n482)) (fun (r565 : ByteArray) => ((r565.size ≤ maxLen) → (rectoref3_Words_p w_ (fun (r572 : ByteArray) => ((r572.size ≤ maxLen) → ((((r565 : ByteArray) = r572) → (errors_Is_p (PErr.fault part480 at481 n482) w_.Err (fun (r580 : Bool) => (k530 (!r580))))) ∧ ((¬ ((r565 : ByteArray) = r572)) → (k530 true))))))))))))))))))))))
set_option maxRecDepth 20000 in
set_option maxHeartbeats 4000000 in
theorem rectolaw2_Tells_w {X : List Nat} {w : World} {err : PErr} {w_ : S_rectoref3_Wrong} {verr1 : Value} {aw_Parts3 : Option Addr} {cw_Parts4 : Nat} {Q : Bool → Prop} (hX0 : Old X w) (herr2 : (rErr 94 115 119).ok X w ([verr1]) err) (hw_Parts5 : Sl r_rectoref3_Part X w aw_Parts3 cw_Parts4 w_.Parts) (rw_Err6 : inR .i64 w_.Err) (gv0 : GV X w 0 [(.iface 202 (.agg #[typeHandle Tryd.prog 26]))]) (gv1 : GV X w 1 (Lib.pow10Tab.map (Value.int .u64))) (hp : rectolaw2_Tells_p err w_ Q) :
    Calls Tryd.prog 15 #[verr1, (.agg #[(.slice aw_Parts3 w_.Parts.length cw_Parts4), (.int .i64 w_.Err)])] w (Ret fun v w' => ∃ (r0 : Bool), Q r0 ∧ Evo [] w w' ∧ v = (.bool r0)) := by
  have hXo := hX0
  have E0 : Evo [] w w := RB.refl _ _ _
  have hS : Sub X X := Sub.refl _
  unfold rectolaw2_Tells_p at hp
  refine enter_ Tryd.func15 rfl 62 [(0, verr1), (1, (.agg #[(.slice aw_Parts3 w_.Parts.length cw_Parts4), (.int .i64 w_.Err)]))] (by kernel_rfl) (fun Qe hQ => ?_)
  replace hp := hp (Sl.len hw_Parts5)
  replace hp := hp rw_Err6
  refine seq_ (fun _ K7 => ?_)
  refine reg_ ?_
  refine sq (o_newX [(.slice aw_Parts3 w_.Parts.length cw_Parts4), (.int .i64 w_.Err)] 34 (X := X) (B := w.heap.size) E0.size rfl (by kernel_rfl) ?_)
  intro b8 w9 X10 s11 k12 n13
  refine sq (o_pv (.bool false) rfl (by kernel_rfl) ?_)
  refine nil_ ?_
  refine then_normal (K7 _ _ _ _ ?_)
  refine seq_ (fun _ K14 => ?_)
  refine seq_ (fun _ K15 => ?_)
  refine reg_ ?_
  refine sq (o_pv (.pointer (some ⟨b8, 1, none⟩)) rfl (by kernel_rfl) ?_)
  refine sq (o_pv (.int .i64 w_.Err) rfl (x_load1 (by kernel_rfl) Tryd.isAgg3 (k12.2.1.cell' 1 rfl)) ?_)
  refine sq (o_pv (.bool (decide (w_.Err = (0 : Int)))) rfl (by kernel_rfl) ?_)
  refine nil_ ?_
  refine then_normal (K15 _ _ _ _ ?_)
  refine cond_d (w_.Err = (0 : Int)) (by kernel_rfl) (fun h16 => ?_) (fun h16 => ?_)
  ·
    replace hp := hp.1 h16
    refine seq_ (fun _ K17 => ?_)
    refine reg_ ?_
    refine sq (o_pv verr1 rfl (by kernel_rfl) ?_)
    refine sq (o_pv (.bool err.isNil) rfl (x_err_eq err herr2 Tryd.underlying26 (by kernel_rfl)) ?_)
    refine sq (o_pv (.bool err.isNil) rfl (by kernel_rfl) ?_)
    refine nil_ ?_
    refine then_normal (K17 _ _ _ _ ?_)
    refine wp_ret ?_
    refine then_ret ?_
    have E18 := (Evo.then0 E0 (Step.evo s11))
    refine end_ret hQ (.bool err.isNil) (by kernel_rfl) ?_
    exact ⟨err.isNil, hp, E18, rfl⟩
  ·
    replace hp := hp.2 h16
    refine wp_skip ?_
    refine then_normal (K14 _ _ _ _ ?_)
    refine seq_ (fun _ K19 => ?_)
    refine seq_ (fun _ K20 => ?_)
    have herr97 := (Rep.step (rErr 94 115 119) herr2 s11)
    by_cases h98 : err.isNil = true
    ·
      replace hp := hp.1 h98
      have hc100 := isNil_eq h98
      rw [hc100] at herr97
      obtain rfl := rErr_inv_nil herr97
      have hw_Parts120 := (Sl.step hw_Parts5 s11)
      have gv121 := (GV.step gv0 s11)
      have gv122 := (GV.step gv1 s11)
      have hXo123 := (Old.step hXo s11)
      have E124 := (Evo.then0 E0 (Step.evo s11))
      have hS125 := (Sub.trans hS (Step.up s11))
      refine reg_drawn (RB w9.heap.size []) 17 (by kernel_rfl) (fun w126 hd127 => ?_)
      have e128 := Evo.of_drew hd127
      have z129 : w126.heap.size = w9.heap.size := by rw [hd127]
      clear hd127
      have s131 := Step.of0 X10 e128
      have er130 := RB.refl w9.heap.size [] w126
      have hw_Parts132 := (Sl.step hw_Parts120 s131)
      have gv133 := (GV.step gv121 s131)
      have gv134 := (GV.step gv122 s131)
      have hXo135 := (Old.step hXo123 s131)
      have E136 := (Evo.then0 E124 (Step.evo s131))
      have hS137 := (Sub.trans hS125 (Step.up s131))
      have k138 := (OB.step0 k12 s131)
      refine r_take 0 .nilIface (RB.pre _ _) rfl (by kernel_rfl) (fun _ _ _ h => hQ.panic _ _ _ _ _ h) (.inl ⟨rfl, fun wq hq => (by kernel_rfl)⟩) ?_
      refine r_take 1 (.bool true) (RB.pre _ _) rfl (by kernel_rfl) (fun _ _ _ h => hQ.panic _ _ _ _ _ h) (.inl ⟨rfl, fun wq hq => (x_nilnil_eq Tryd.underlying26 (by kernel_rfl) rfl)⟩) ?_
      refine r_take 2 (.bool true) (RB.pre _ _) rfl (by kernel_rfl) (fun _ _ _ h => hQ.panic _ _ _ _ _ h) (.inl ⟨rfl, fun wq hq => (by kernel_rfl)⟩) ?_
      refine r_take 3 undef (RB.pre _ _) rfl (by kernel_rfl) (fun _ _ _ h => hQ.panic _ _ _ _ _ h) (.inr ⟨by kernel_rfl, rfl⟩) ?_
      refine r_take 4 undef (RB.pre _ _) rfl (by kernel_rfl) (fun _ _ _ h => hQ.panic _ _ _ _ _ h) (.inr ⟨by kernel_rfl, rfl⟩) ?_
      refine r_take 5 undef (RB.pre _ _) rfl (by kernel_rfl) (fun _ _ _ h => hQ.panic _ _ _ _ _ h) (.inr ⟨by kernel_rfl, rfl⟩) ?_
      refine r_take 6 undef (RB.pre _ _) rfl (by kernel_rfl) (fun _ _ _ h => hQ.panic _ _ _ _ _ h) (.inr ⟨by kernel_rfl, rfl⟩) ?_
      refine r_take 7 undef (RB.pre _ _) rfl (by kernel_rfl) (fun _ _ _ h => hQ.panic _ _ _ _ _ h) (.inr ⟨by kernel_rfl, rfl⟩) ?_
      refine r_take 8 (.bool true) (RB.pre _ _) rfl (by kernel_rfl) (fun _ _ _ h => hQ.panic _ _ _ _ _ h) (.inl ⟨rfl, fun wq hq => (by kernel_rfl)⟩) ?_
      refine r_take 9 (.bool true) (RB.pre _ _) rfl (by kernel_rfl) (fun _ _ _ h => hQ.panic _ _ _ _ _ h) (.inl ⟨rfl, fun wq hq => (by kernel_rfl)⟩) ?_
      refine r_take 10 undef (RB.pre _ _) rfl (by kernel_rfl) (fun _ _ _ h => hQ.panic _ _ _ _ _ h) (.inr ⟨by kernel_rfl, rfl⟩) ?_
      refine r_take 11 undef (RB.pre _ _) rfl (by kernel_rfl) (fun _ _ _ h => hQ.panic _ _ _ _ _ h) (.inr ⟨by kernel_rfl, rfl⟩) ?_
      refine r_take 12 undef (RB.pre _ _) rfl (by kernel_rfl) (fun _ _ _ h => hQ.panic _ _ _ _ _ h) (.inr ⟨by kernel_rfl, rfl⟩) ?_
      refine r_take 13 undef (RB.pre _ _) rfl (by kernel_rfl) (fun _ _ _ h => hQ.panic _ _ _ _ _ h) (.inr ⟨by kernel_rfl, rfl⟩) ?_
      refine r_take 14 undef (RB.pre _ _) rfl (by kernel_rfl) (fun _ _ _ h => hQ.panic _ _ _ _ _ h) (.inr ⟨by kernel_rfl, rfl⟩) ?_
      refine r_take 15 undef (RB.pre _ _) rfl (by kernel_rfl) (fun _ _ _ h => hQ.panic _ _ _ _ _ h) (.inr ⟨by kernel_rfl, rfl⟩) ?_
      refine r_take 16 (.bool true) (RB.pre _ _) rfl (by kernel_rfl) (fun _ _ _ h => hQ.panic _ _ _ _ _ h) (.inl ⟨rfl, fun wq hq => (by kernel_rfl)⟩) ?_
      refine r_done (by kernel_rfl) ?_
      refine then_normal (K20 _ _ _ _ ?_)
      refine cond_t (by kernel_rfl) ?_
      refine seq_ (fun _ K139 => ?_)
      refine reg_ ?_
      refine sq (o_pv (.bool false) rfl (by kernel_rfl) ?_)
      refine nil_ ?_
      refine then_normal (K139 _ _ _ _ ?_)
      refine wp_ret ?_
      refine then_ret ?_
      refine end_ret hQ (.bool false) (by kernel_rfl) ?_
      exact ⟨false, hp, E136, rfl⟩
    ·
      replace hp := hp.2 h98
      by_cases h99 : err.isNo = true
      ·
        replace hp := hp.1 h99
        obtain ⟨n140, hc141⟩ := isNo_eq h99
        replace hp := hp n140 hc141
        rw [hc141] at herr97
        obtain ⟨rfl, r142⟩ := rErr_inv_no herr97
        replace hp := hp r142
        have hw_Parts189 := (Sl.step hw_Parts5 s11)
        have gv190 := (GV.step gv0 s11)
        have gv191 := (GV.step gv1 s11)
        have hXo192 := (Old.step hXo s11)
        have E193 := (Evo.then0 E0 (Step.evo s11))
        have hS194 := (Sub.trans hS (Step.up s11))
        obtain ⟨k182, hk183, hp⟩ := hp
        refine ground_ ?_
        refine join_ 268433408 (fun lq w184 => ∃ (X185 : List Nat) (s181 : Bool), (lq = [(27, (.bool s181))]) ∧ (Evo [] w w184) ∧ (Old X185 w184) ∧ (Sub X X185) ∧ (GV X185 w184 0 [(.iface 202 (.agg #[typeHandle Tryd.prog 26]))]) ∧ (GV X185 w184 1 (Lib.pow10Tab.map (Value.int .u64))) ∧ (Sl r_rectoref3_Part X185 w184 aw_Parts3 cw_Parts4 w_.Parts) ∧ (OB ([]) w.heap.size X185 w184 b8 [(.slice aw_Parts3 w_.Parts.length cw_Parts4), (.int .i64 w_.Err)] 34) ∧ (k182 s181)) (fun Kj186 hJ187 => ?_) ?_
        ·
          refine reg_drawn (RB w9.heap.size []) 17 (by kernel_rfl) (fun w202 hd203 => ?_)
          have e204 := Evo.of_drew hd203
          have z205 : w202.heap.size = w9.heap.size := by rw [hd203]
          clear hd203
          have s207 := Step.of0 X10 e204
          have er206 := RB.refl w9.heap.size [] w202
          have hw_Parts208 := (Sl.step hw_Parts189 s207)
          have gv209 := (GV.step gv190 s207)
          have gv210 := (GV.step gv191 s207)
          have hXo211 := (Old.step hXo192 s207)
          have E212 := (Evo.then0 E193 (Step.evo s207))
          have hS213 := (Sub.trans hS194 (Step.up s207))
          have k214 := (OB.step0 k12 s207)
          refine r_take 0 (.iface 94 (.int .i64 n140)) (RB.pre _ _) rfl (by kernel_rfl) (fun _ _ _ h => hQ.panic _ _ _ _ _ h) (.inl ⟨rfl, fun wq hq => (by kernel_rfl)⟩) ?_
          refine r_take 1 (.bool false) (RB.pre _ _) rfl (by kernel_rfl) (fun _ _ _ h => hQ.panic _ _ _ _ _ h) (.inl ⟨rfl, fun wq hq => (x_inil_eq (tp := 94) (v := (.int .i64 n140)) Tryd.underlying26 (by kernel_rfl) (by kernel_rfl))⟩) ?_
          refine r_take 2 (.bool false) (RB.pre _ _) rfl (by kernel_rfl) (fun _ _ _ h => hQ.panic _ _ _ _ _ h) (.inl ⟨rfl, fun wq hq => (by kernel_rfl)⟩) ?_
          refine r_take 3 (.iface 94 (.int .i64 n140)) (RB.pre _ _) rfl (by kernel_rfl) (fun _ _ _ h => hQ.panic _ _ _ _ _ h) (.inl ⟨(by kernel_rfl), fun wq hq => (by kernel_rfl)⟩) ?_
          refine r_take 5 (.agg #[(.slice aw_Parts3 w_.Parts.length cw_Parts4), (.int .i64 w_.Err)]) (RB.pre _ _) rfl (by kernel_rfl) (fun _ _ _ h => hQ.panic _ _ _ _ _ h) (.inl ⟨(by kernel_rfl), fun wq hq => (x_loadN [(.slice aw_Parts3 w_.Parts.length cw_Parts4), (.int .i64 w_.Err)] (by kernel_rfl) Tryd.isAgg34 Tryd.sizeOf34 ((Blk.rb k214.2.1 (RB.trans er206 hq) (Nat.lt_of_lt_of_eq (Blk.lt k214.2.1) z205) (fun h => by cases h)).cells' 0 rfl))⟩) ?_
          refine r_ready [4] (by kernel_rfl) rfl (all_cons ⟨_, _, _, _, _, _, rfl, ?_⟩ all_nil)
          refine o_call 175 #[(.int .i64 n140)] (by kernel_rfl) (x_invoke (t := 94) (v := (.int .i64 n140)) (r := (.int .i64 n140)) (by kernel_rfl) (fun _ => by kernel_rfl) Tryd.call175 (by kernel_rfl)) (api_Errno_Error_w (X := []) (e := n140) (Old.nil _) r142 hp) ?_
          rintro _ w216 ⟨r215, hp, e217, rfl, zr219⟩
          have rm := RB.mono (F' := []) e217 (Nat.le_trans (Nat.le_of_eq z205.symm) (RB.size er206)) (fun _ h => by cases h)
          have er220 := RB.trans er206 rm
          refine ⟨fun _ => rm, ?_⟩
          have s218 := Step.of0 X10 e217
          replace hp := hp zr219
          refine r_ready [6] (by kernel_rfl) rfl (all_cons ⟨_, _, _, _, _, _, rfl, ?_⟩ all_nil)
          have hw_Parts221 := (Sl.step hw_Parts208 s218)
          refine o_call 57 #[(.agg #[(.slice aw_Parts3 w_.Parts.length cw_Parts4), (.int .i64 w_.Err)])] (by kernel_rfl) (x_call Tryd.call57 (by kernel_rfl)) (rectoref3_Words_w (X := []) (w_ := w_) (Old.nil _) (Sl.less hw_Parts221 (Sub.nil _)) rw_Err6 hp) ?_
          rintro _ w223 ⟨r222, hp, e224, rfl, zr226⟩
          have rm := RB.mono (F' := []) e224 (Nat.le_trans (Nat.le_of_eq z205.symm) (RB.size er220)) (fun _ h => by cases h)
          have er227 := RB.trans er220 rm
          refine ⟨fun _ => rm, ?_⟩
          have s225 := Step.of0 X10 e224
          replace hp := hp zr226
          by_cases h228 : (r215 : ByteArray) = r222
          ·
            replace hp := hp.1 h228
            refine r_take 7 (.bool false) (RB.pre _ _) rfl (by kernel_rfl) (fun _ _ _ h => hQ.panic _ _ _ _ _ h) (.inl ⟨(by kernel_rfl), fun wq hq => (x_ndf (p := (r215 : ByteArray) = r222) (x_strne (by kernel_rfl) (by kernel_rfl)) h228)⟩) ?_
            refine r_take 8 (.bool false) (RB.pre _ _) rfl (by kernel_rfl) (fun _ _ _ h => hQ.panic _ _ _ _ _ h) (.inl ⟨rfl, fun wq hq => (by kernel_rfl)⟩) ?_
            refine r_take 9 (.bool false) (RB.pre _ _) rfl (by kernel_rfl) (fun _ _ _ h => hQ.panic _ _ _ _ _ h) (.inl ⟨rfl, fun wq hq => (by kernel_rfl)⟩) ?_
            refine r_take 10 (.iface 94 (.int .i64 n140)) (RB.pre _ _) rfl (by kernel_rfl) (fun _ _ _ h => hQ.panic _ _ _ _ _ h) (.inl ⟨(by kernel_rfl), fun wq hq => (by kernel_rfl)⟩) ?_
            refine r_take 11 (.pointer (some ⟨b8, 1, none⟩)) (RB.pre _ _) rfl (by kernel_rfl) (fun _ _ _ h => hQ.panic _ _ _ _ _ h) (.inl ⟨(by kernel_rfl), fun wq hq => (by kernel_rfl)⟩) ?_
            refine r_take 12 (.int .i64 w_.Err) (RB.pre _ _) rfl (by kernel_rfl) (fun _ _ _ h => hQ.panic _ _ _ _ _ h) (.inl ⟨(by kernel_rfl), fun wq hq => (x_load1 (by kernel_rfl) Tryd.isAgg3 ((Blk.rb k214.2.1 (RB.trans er227 hq) (Nat.lt_of_lt_of_eq (Blk.lt k214.2.1) z205) (fun h => by cases h)).cell' 1 rfl))⟩) ?_
            refine r_take 13 (.iface 94 (.int .i64 w_.Err)) (RB.pre _ _) rfl (by kernel_rfl) (fun _ _ _ h => hQ.panic _ _ _ _ _ h) (.inl ⟨(by kernel_rfl), fun wq hq => (by kernel_rfl)⟩) ?_
            refine r_ready [14] (by kernel_rfl) rfl (all_cons ⟨_, _, _, _, _, _, rfl, ?_⟩ all_nil)
            refine o_call 58 #[(.iface 94 (.int .i64 n140)), (.iface 94 (.int .i64 w_.Err))] (by kernel_rfl) (x_call Tryd.call58 (by kernel_rfl)) (errors_Is_w (X := []) (err := (PErr.no n140)) (target := w_.Err) (Old.nil _) (rErr_no r142) rw_Err6 hp) ?_
            rintro _ w230 ⟨r229, hp, e231, rfl⟩
            have rm := RB.mono (F' := []) e231 (Nat.le_trans (Nat.le_of_eq z205.symm) (RB.size er227)) (fun _ h => by cases h)
            have er233 := RB.trans er227 rm
            refine ⟨fun _ => rm, ?_⟩
            have s232 := Step.of0 X10 e231
            refine r_take 15 (.bool (!r229)) (RB.pre _ _) rfl (by kernel_rfl) (fun _ _ _ h => hQ.panic _ _ _ _ _ h) (.inl ⟨(by kernel_rfl), fun wq hq => (by kernel_rfl)⟩) ?_
            refine r_take 16 (.bool (!r229)) (RB.pre _ _) rfl (by kernel_rfl) (fun _ _ _ h => hQ.panic _ _ _ _ _ h) (.inl ⟨rfl, fun wq hq => (by kernel_rfl)⟩) ?_
            refine r_done (by kernel_rfl) ?_
            have E234 := (Evo.then0 (Evo.then0 (Evo.then0 E212 e217) e224) e231)
            have hXo235 := (Old.step (Old.step (Old.step hXo211 s218) s225) s232)
            have hS236 := (Sub.trans (Sub.trans (Sub.trans hS213 (Step.up s218)) (Step.up s225)) (Step.up s232))
            have gv237 := (GV.step (GV.step (GV.step gv209 s218) s225) s232)
            have gv238 := (GV.step (GV.step (GV.step gv210 s218) s225) s232)
            have hw_Parts239 := (Sl.step (Sl.step hw_Parts221 s225) s232)
            have k240 := (OB.step0 (OB.step0 (OB.step0 k214 s218) s225) s232)
            refine then_normal (hJ187 _ _ _ ⟨[(27, (.bool (!r229)))], fit_mk (fun _ _ => rfl) (by kernel_rfl) (vs_cons (by kernel_rfl) vs_nil), ?_⟩)
            exact ⟨X10, (!r229), rfl, E234, hXo235, hS236, gv237, gv238, hw_Parts239, k240, hp⟩
          ·
            replace hp := hp.2 h228
            refine r_take 7 (.bool true) (RB.pre _ _) rfl (by kernel_rfl) (fun _ _ _ h => hQ.panic _ _ _ _ _ h) (.inl ⟨(by kernel_rfl), fun wq hq => (x_ndt (p := (r215 : ByteArray) = r222) (x_strne (by kernel_rfl) (by kernel_rfl)) h228)⟩) ?_
            refine r_take 8 (.bool true) (RB.pre _ _) rfl (by kernel_rfl) (fun _ _ _ h => hQ.panic _ _ _ _ _ h) (.inl ⟨rfl, fun wq hq => (by kernel_rfl)⟩) ?_
            refine r_take 9 (.bool true) (RB.pre _ _) rfl (by kernel_rfl) (fun _ _ _ h => hQ.panic _ _ _ _ _ h) (.inl ⟨rfl, fun wq hq => (by kernel_rfl)⟩) ?_
            refine r_take 10 undef (RB.pre _ _) rfl (by kernel_rfl) (fun _ _ _ h => hQ.panic _ _ _ _ _ h) (.inr ⟨by kernel_rfl, rfl⟩) ?_
            refine r_take 11 undef (RB.pre _ _) rfl (by kernel_rfl) (fun _ _ _ h => hQ.panic _ _ _ _ _ h) (.inr ⟨by kernel_rfl, rfl⟩) ?_
            refine r_take 12 undef (RB.pre _ _) rfl (by kernel_rfl) (fun _ _ _ h => hQ.panic _ _ _ _ _ h) (.inr ⟨by kernel_rfl, rfl⟩) ?_
            refine r_take 13 undef (RB.pre _ _) rfl (by kernel_rfl) (fun _ _ _ h => hQ.panic _ _ _ _ _ h) (.inr ⟨by kernel_rfl, rfl⟩) ?_
            refine r_take 14 undef (RB.pre _ _) rfl (by kernel_rfl) (fun _ _ _ h => hQ.panic _ _ _ _ _ h) (.inr ⟨by kernel_rfl, rfl⟩) ?_
            refine r_take 15 undef (RB.pre _ _) rfl (by kernel_rfl) (fun _ _ _ h => hQ.panic _ _ _ _ _ h) (.inr ⟨by kernel_rfl, rfl⟩) ?_
            refine r_take 16 (.bool true) (RB.pre _ _) rfl (by kernel_rfl) (fun _ _ _ h => hQ.panic _ _ _ _ _ h) (.inl ⟨rfl, fun wq hq => (by kernel_rfl)⟩) ?_
            refine r_done (by kernel_rfl) ?_
            have E241 := (Evo.then0 (Evo.then0 E212 e217) e224)
            have hXo242 := (Old.step (Old.step hXo211 s218) s225)
            have hS243 := (Sub.trans (Sub.trans hS213 (Step.up s218)) (Step.up s225))
            have gv244 := (GV.step (GV.step gv209 s218) s225)
            have gv245 := (GV.step (GV.step gv210 s218) s225)
            have hw_Parts246 := (Sl.step hw_Parts221 s225)
            have k247 := (OB.step0 (OB.step0 k214 s218) s225)
            refine then_normal (hJ187 _ _ _ ⟨[(27, (.bool true))], fit_mk (fun _ _ => rfl) (by kernel_rfl) (vs_cons (by kernel_rfl) vs_nil), ?_⟩)
            exact ⟨X10, true, rfl, E241, hXo242, hS243, gv244, gv245, hw_Parts246, k247, hp⟩
        ·
          rintro _ w184 g248 ⟨X185, s181, rfl, E195, hXo196, hS197, gv198, gv199, hw_Parts200, k201, hv188⟩
          replace hp := hk183 s181 hv188
          refine then_normal (K20 _ _ _ _ ?_)
          refine cond_b s181 (by kernel_rfl) (fun h249 => ?_) (fun h249 => ?_)
          ·
            replace hp := hp.1 h249
            refine seq_ (fun _ K250 => ?_)
            refine reg_ ?_
            refine sq (o_pv (.bool false) rfl (by kernel_rfl) ?_)
            refine nil_ ?_
            refine then_normal (K250 _ _ _ _ ?_)
            refine wp_ret ?_
            refine then_ret ?_
            refine end_ret hQ (.bool false) (by kernel_rfl) ?_
            exact ⟨false, hp, E195, rfl⟩
          ·
            replace hp := hp.2 h249
            refine wp_skip ?_
            refine then_normal (K19 _ _ _ _ ?_)
            refine seq_ (fun _ K251 => ?_)
            refine seq_ (fun _ K252 => ?_)
            refine reg_ ?_
            refine sq (o_pv (.pointer (some ⟨b8, 0, none⟩)) rfl (by kernel_rfl) ?_)
            refine sq (o_pv (.slice aw_Parts3 w_.Parts.length cw_Parts4) rfl (x_load1 (by kernel_rfl) Tryd.isAgg32 (k201.2.1.cell' 0 rfl)) ?_)
            refine sq (o_pv (.int .i64 (w_.Parts.length : Int)) rfl (by kernel_rfl) ?_)
            refine sq (o_pv (.bool (decide ((w_.Parts.length : Int) = (0 : Int)))) rfl (by kernel_rfl) ?_)
            refine nil_ ?_
            refine then_normal (K252 _ _ _ _ ?_)
            refine cond_d ((w_.Parts.length : Int) = (0 : Int)) (by kernel_rfl) (fun h253 => ?_) (fun h253 => ?_)
            ·
              replace hp := hp.1 h253
              refine seq_ (fun _ K254 => ?_)
              refine reg_ ?_
              refine sq (o_pv (.bool true) rfl (by kernel_rfl) ?_)
              refine nil_ ?_
              refine then_normal (K254 _ _ _ _ ?_)
              refine wp_ret ?_
              refine then_ret ?_
              refine end_ret hQ (.bool true) (by kernel_rfl) ?_
              exact ⟨true, hp, E195, rfl⟩
            ·
              replace hp := hp.2 h253
              refine wp_skip ?_
              refine then_normal (K251 _ _ _ _ ?_)
              refine seq_ (fun _ K255 => ?_)
              refine reg_ ?_
              refine sq (o_newX [(.pointer none)] 115 (X := X185) (B := w.heap.size) E195.size rfl (by kernel_rfl) ?_)
              intro b256 w257 X258 s259 k260 n261
              have p262 := n261 _ (OB.old k201)
              refine nil_ ?_
              refine then_normal (K255 _ _ _ _ ?_)
              refine seq_ (fun _ K263 => ?_)
              refine seq_ (fun _ K264 => ?_)
              have E301 := (Evo.then0 E195 (Step.evo s259))
              have hXo302 := (Old.step hXo196 s259)
              have hS303 := (Sub.trans hS197 (Step.up s259))
              have gv304 := (GV.step gv198 s259)
              have gv305 := (GV.step gv199 s259)
              have hw_Parts306 := (Sl.step hw_Parts200 s259)
              have k307 := (OB.step0 k201 s259)
              obtain ⟨k294, hk295, hp⟩ := hp
              refine ground_ ?_
              refine join_ 1095216660480 (fun lq w296 => ∃ (X297 : List Nat) (s290 : Bool) (o291 : S_cellFault) (F292 : List Nat), (lq = [(39, (.bool s290))]) ∧ (Evo [] w w296) ∧ (Old X297 w296) ∧ (Sub X X297) ∧ (GV X297 w296 0 [(.iface 202 (.agg #[typeHandle Tryd.prog 26]))]) ∧ (GV X297 w296 1 (Lib.pow10Tab.map (Value.int .u64))) ∧ (Sl r_rectoref3_Part X297 w296 aw_Parts3 cw_Parts4 w_.Parts) ∧ (OB ([]) w.heap.size X297 w296 b8 [(.slice aw_Parts3 w_.Parts.length cw_Parts4), (.int .i64 w_.Err)] 34) ∧ (MO o_cellFault 115 ([]) w.heap.size X297 w296 F292 b256 o291) ∧ (Ap ([b8]) (F292)) ∧ (k294 s290 o291)) (fun Kj298 hJ299 => ?_) ?_
              ·
                refine reg_ ?_
                refine sq (o_pv (.iface 94 (.int .i64 n140)) rfl (by kernel_rfl) ?_)
                refine sq (o_pv (.iface 117 (.pointer (some ⟨b256, 0, none⟩))) rfl (by kernel_rfl) ?_)
                obtain ⟨F316, m317, hs318⟩ := MO.pack (o_cellFault_mk k260 rPtrO_none)
                have p319 := hs318 _ (Ap.cons p262 (Ap.nil_r _))
                refine sq (o_call 59 #[(.iface 94 (.int .i64 n140)), (.iface 117 (.pointer (some ⟨b256, 0, none⟩)))] rfl (x_call Tryd.call59 (by kernel_rfl)) (errors_As_w (X := X258) (err := (PErr.no n140)) (target := (S_cellFault.mk none)) hXo302 (rErr_no r142) (MO.re m317 (Wr.self _ _ (Sub.refl _))) gv304 hp) ?_)
                rintro _ w322 ⟨target320, r321, hp, X323, F325, s324, rfl, m326⟩
                have m327 := MO.re m326 (Wr.trans m326.wr m317.wr E301.size)
                have p328 := Ap.grow m326.wr p319 (OB.old k307) (Nat.le_refl _)
                cases r321
                ·
                  replace hp := hp.2 rfl
                  refine sq (o_pv (.bool true) rfl (by kernel_rfl) ?_)
                  refine sq (o_pv (.bool true) rfl (by kernel_rfl) ?_)
                  refine sq (o_not (by kernel_rfl) ?_)
                  refine sq (o_not (by kernel_rfl) ?_)
                  refine sq (o_pv (.bool true) rfl (by kernel_rfl) ?_)
                  refine nil_ ?_
                  have E329 := (Evo.thenW E301 (Step.evo s324) m317.wr)
                  have hXo330 := (Old.step hXo302 s324)
                  have hS331 := (Sub.trans hS303 (Step.up s324))
                  have gv332 := (GV.step gv304 s324)
                  have gv333 := (GV.step gv305 s324)
                  have hw_Parts334 := (Sl.step hw_Parts306 s324)
                  have k335 := (OB.step k307 s324 p319)
                  refine then_normal (hJ299 _ _ _ ⟨[(39, (.bool true))], fit_mk (fun _ _ => rfl) (by kernel_rfl) (vs_cons (by kernel_rfl) vs_nil), ?_⟩)
                  exact ⟨X323, true, target320, F325, rfl, E329, hXo330, hS331, gv332, gv333, hw_Parts334, k335, m327, p328, hp⟩
                ·
                  replace hp := hp.1 rfl
                  refine sq (o_pv (.bool false) rfl (by kernel_rfl) ?_)
                  refine sq (o_pv (.bool false) rfl (by kernel_rfl) ?_)
                  obtain ⟨vov336, k338, hov337, sb339⟩ := o_cellFault_open m327
                  have p340 := Ap.subr p328 sb339
                  refine sq (o_pv vov336 (by kernel_rfl) (x_load1 (by kernel_rfl) Tryd.isAgg115 (k338.2.1.cell' 0 rfl)) ?_)
                  refine sq (o_pv (.bool target320.v.isNone) (by kernel_rfl) (x_ptro_eq hov337 Tryd.underlying115 (by kernel_rfl) (by kernel_rfl)) ?_)
                  refine sq (o_pv (.bool target320.v.isNone) rfl (by kernel_rfl) ?_)
                  refine nil_ ?_
                  have E341 := (Evo.thenW E301 (Step.evo s324) m317.wr)
                  have hXo342 := (Old.step hXo302 s324)
                  have hS343 := (Sub.trans hS303 (Step.up s324))
                  have gv344 := (GV.step gv304 s324)
                  have gv345 := (GV.step gv305 s324)
                  have hw_Parts346 := (Sl.step hw_Parts306 s324)
                  have k347 := (OB.step k307 s324 p319)
                  obtain ⟨F348, m349, hs350⟩ := MO.pack (o_cellFault_mk k338 hov337)
                  have p351 := hs350 _ (Ap.cons p340 (Ap.nil_r _))
                  refine then_normal (hJ299 _ _ _ ⟨[(39, (.bool target320.v.isNone))], fit_mk (fun _ _ => rfl) (by kernel_rfl) (vs_cons (by kernel_rfl) vs_nil), ?_⟩)
                  exact ⟨X323, target320.v.isNone, target320, F348, rfl, E341, hXo342, hS343, gv344, gv345, hw_Parts346, k347, m349, p351, hp⟩
              ·
                rintro _ w296 g352 ⟨X297, s290, o291, F292, rfl, E308, hXo309, hS310, gv311, gv312, hw_Parts313, k314, m293, p315, hv300⟩
                replace hp := hk295 s290 o291 hv300
                refine then_normal (K264 _ _ _ _ ?_)
                refine cond_b s290 (by kernel_rfl) (fun h353 => ?_) (fun h353 => ?_)
                ·
                  replace hp := hp.1 h353
                  refine seq_ (fun _ K354 => ?_)
                  refine reg_ ?_
                  refine sq (o_pv (.bool false) rfl (by kernel_rfl) ?_)
                  refine nil_ ?_
                  refine then_normal (K354 _ _ _ _ ?_)
                  refine wp_ret ?_
                  refine then_ret ?_
                  refine end_ret hQ (.bool false) (by kernel_rfl) ?_
                  exact ⟨false, hp, E308, rfl⟩
                ·
                  replace hp := hp.2 h353
                  refine wp_skip ?_
                  refine then_normal (K263 _ _ _ _ ?_)
                  refine seq_ (fun _ K355 => ?_)
                  obtain ⟨k412, hk413, hp⟩ := hp
                  refine ground_ ?_
                  refine join_ 4611684918915760144 (fun lq w414 => ∃ (X415 : List Nat) (s411 : Bool), (lq = [(4, (.bool s411))]) ∧ (Evo [] w w414) ∧ (Old X415 w414) ∧ (Sub X X415) ∧ (GV X415 w414 0 [(.iface 202 (.agg #[typeHandle Tryd.prog 26]))]) ∧ (GV X415 w414 1 (Lib.pow10Tab.map (Value.int .u64))) ∧ (k412 s411)) (fun Kj416 hJ417 => ?_) ?_
                  ·
                    obtain ⟨vov424, k426, hov425, sb427⟩ := o_cellFault_open m293
                    have p428 := Ap.subr p315 sb427
                    refine reg_drawn (RB w296.heap.size []) 22 (by kernel_rfl) (fun w429 hd430 => ?_)
                    have e431 := Evo.of_drew hd430
                    have z432 : w429.heap.size = w296.heap.size := by rw [hd430]
                    clear hd430
                    have s434 := Step.of0 X297 e431
                    have er433 := RB.refl w296.heap.size [] w429
                    have E435 := (Evo.then0 E308 (Step.evo s434))
                    have hXo436 := (Old.step hXo309 s434)
                    have hS437 := (Sub.trans hS310 (Step.up s434))
                    have gv438 := (GV.step gv311 s434)
                    have gv439 := (GV.step gv312 s434)
                    have hw_Parts440 := (Sl.step hw_Parts313 s434)
                    have k441 := (OB.step0 k314 s434)
                    have k442 := (OB.step0 k426 s434)
                    have hov443 := (Rep.step (rPtrO r_api_Fault 119) hov425 s434)
                    refine r_take 0 vov424 (RB.pre _ _) rfl (by kernel_rfl) (fun _ _ _ h => hQ.panic _ _ _ _ _ h) (.inl ⟨rfl, fun wq hq => (x_load1 (by kernel_rfl) Tryd.isAgg115 ((Blk.rb k442.2.1 (RB.trans er433 hq) (Nat.lt_of_lt_of_eq (Blk.lt k442.2.1) z432) (fun h => by cases h)).cell' 0 rfl))⟩) ?_
                    obtain ⟨d444, h445, hp⟩ := hp
                    rw [h445] at hov443
                    obtain ⟨b446, cs447, hvb446, nb448, k449, ok450⟩ := hov443
                    injection hvb446 with hvb446 _; subst hvb446
                    obtain ⟨vpErr453, rfl, zpPart451, rpAt452, hpErr454⟩ := r_api_Fault_open ok450
                    replace hp := hp zpPart451
                    replace hp := hp rpAt452
                    have k455 := (⟨nb448, k449⟩ : RO _ _ _ _ _)
                    refine r_take 1 (.pointer (some ⟨b446, 0, none⟩)) (RB.pre _ _) rfl (by kernel_rfl) (fun _ _ _ h => hQ.panic _ _ _ _ _ h) (.inl ⟨rfl, fun wq hq => (by kernel_rfl)⟩) ?_
                    refine r_take 2 (.pointer (some ⟨b446, 0, none⟩)) (RB.pre _ _) rfl (by kernel_rfl) (fun _ _ _ h => hQ.panic _ _ _ _ _ h) (.inl ⟨rfl, fun wq hq => (by kernel_rfl)⟩) ?_
                    refine r_take 3 (.string d444.Part) (RB.pre _ _) rfl (by kernel_rfl) (fun _ _ _ h => hQ.panic _ _ _ _ _ h) (.inl ⟨rfl, fun wq hq => (x_load1 (by kernel_rfl) Tryd.isAgg9 ((Blk.rb k455.2 (RB.trans er433 hq) (Nat.lt_of_lt_of_eq (Blk.lt k455.2) z432) (fun h => by cases h)).cell' 0 rfl))⟩) ?_
                    refine r_take 4 (.pointer (some ⟨b8, 0, none⟩)) (RB.pre _ _) rfl (by kernel_rfl) (fun _ _ _ h => hQ.panic _ _ _ _ _ h) (.inl ⟨rfl, fun wq hq => (by kernel_rfl)⟩) ?_
                    refine r_take 5 (.slice aw_Parts3 w_.Parts.length cw_Parts4) (RB.pre _ _) rfl (by kernel_rfl) (fun _ _ _ h => hQ.panic _ _ _ _ _ h) (.inl ⟨rfl, fun wq hq => (x_load1 (by kernel_rfl) Tryd.isAgg32 ((Blk.rb k441.2.1 (RB.trans er433 hq) (Nat.lt_of_lt_of_eq (Blk.lt k441.2.1) z432) (fun h => by cases h)).cell' 0 rfl))⟩) ?_
                    obtain ⟨h456, hp⟩ := hp
                    obtain ⟨b457, o458, cs459, ha460, nx461, lt462, ok463, hc464⟩ := Sl.atI hw_Parts440 (0 : Int) h456
                    obtain ⟨rfl, zeWord465, reAt466⟩ := r_rectoref3_Part_open ok463
                    replace hp := hp zeWord465
                    replace hp := hp reAt466
                    refine r_take 6 (.pointer (some ⟨b457, o458 + (0 : Int).toNat * 2, none⟩)) (RB.pre _ _) rfl (by kernel_rfl) (fun _ _ _ h => hQ.panic _ _ _ _ _ h) (.inl ⟨rfl, fun wq hq => (x_ixA (m := w_.Parts.length) (c := cw_Parts4) (k := .i64) (i := (0 : Int)) Tryd.underlying32 Tryd.sizeOf112 (by rw [← ha460]; kernel_rfl) (by kernel_rfl) h456)⟩) ?_
                    refine r_take 7 (.pointer (some ⟨b457, o458 + (0 : Int).toNat * 2, none⟩)) (RB.pre _ _) rfl (by kernel_rfl) (fun _ _ _ h => hQ.panic _ _ _ _ _ h) (.inl ⟨rfl, fun wq hq => (by kernel_rfl)⟩) ?_
                    refine r_take 8 (.string ((lget w_.Parts (0 : Int)).Word)) (RB.pre _ _) rfl (by kernel_rfl) (fun _ _ _ h => hQ.panic _ _ _ _ _ h) (.inl ⟨rfl, fun wq hq => (x_load1 (by kernel_rfl) Tryd.isAgg9 ((CellsAt.rb hc464 (RB.trans er433 hq) (Nat.lt_of_lt_of_eq lt462 z432) (fun h => by cases h)) 0 _ rfl))⟩) ?_
                    by_cases h467 : (d444.Part : ByteArray) = (lget w_.Parts (0 : Int)).Word
                    ·
                      replace hp := hp.1 h467
                      refine r_take 9 (.bool true) (RB.pre _ _) rfl (by kernel_rfl) (fun _ _ _ h => hQ.panic _ _ _ _ _ h) (.inl ⟨rfl, fun wq hq => (x_dt (p := (d444.Part : ByteArray) = (lget w_.Parts (0 : Int)).Word) (x_streq (by kernel_rfl) (by kernel_rfl)) h467)⟩) ?_
                      refine r_take 10 (.bool true) (RB.pre _ _) rfl (by kernel_rfl) (fun _ _ _ h => hQ.panic _ _ _ _ _ h) (.inl ⟨rfl, fun wq hq => (by kernel_rfl)⟩) ?_
                      refine r_take 11 (.pointer (some ⟨b446, 0, none⟩)) (RB.pre _ _) rfl (by kernel_rfl) (fun _ _ _ h => hQ.panic _ _ _ _ _ h) (.inl ⟨(by kernel_rfl), fun wq hq => (x_load1 (by kernel_rfl) Tryd.isAgg115 ((Blk.rb k442.2.1 (RB.trans er433 hq) (Nat.lt_of_lt_of_eq (Blk.lt k442.2.1) z432) (fun h => by cases h)).cell' 0 rfl))⟩) ?_
                      refine r_take 12 (.pointer (some ⟨b446, 0, none⟩)) (RB.pre _ _) rfl (by kernel_rfl) (fun _ _ _ h => hQ.panic _ _ _ _ _ h) (.inl ⟨(by kernel_rfl), fun wq hq => (by kernel_rfl)⟩) ?_
                      refine r_take 13 (.pointer (some ⟨b446, 1, none⟩)) (RB.pre _ _) rfl (by kernel_rfl) (fun _ _ _ h => hQ.panic _ _ _ _ _ h) (.inl ⟨(by kernel_rfl), fun wq hq => (by kernel_rfl)⟩) ?_
                      refine r_take 14 (.int .i64 d444.At) (RB.pre _ _) rfl (by kernel_rfl) (fun _ _ _ h => hQ.panic _ _ _ _ _ h) (.inl ⟨(by kernel_rfl), fun wq hq => (x_load1 (by kernel_rfl) Tryd.isAgg3 ((Blk.rb k455.2 (RB.trans er433 hq) (Nat.lt_of_lt_of_eq (Blk.lt k455.2) z432) (fun h => by cases h)).cell' 1 rfl))⟩) ?_
                      refine r_take 15 (.pointer (some ⟨b8, 0, none⟩)) (RB.pre _ _) rfl (by kernel_rfl) (fun _ _ _ h => hQ.panic _ _ _ _ _ h) (.inl ⟨(by kernel_rfl), fun wq hq => (by kernel_rfl)⟩) ?_
                      refine r_take 16 (.slice aw_Parts3 w_.Parts.length cw_Parts4) (RB.pre _ _) rfl (by kernel_rfl) (fun _ _ _ h => hQ.panic _ _ _ _ _ h) (.inl ⟨(by kernel_rfl), fun wq hq => (x_load1 (by kernel_rfl) Tryd.isAgg32 ((Blk.rb k441.2.1 (RB.trans er433 hq) (Nat.lt_of_lt_of_eq (Blk.lt k441.2.1) z432) (fun h => by cases h)).cell' 0 rfl))⟩) ?_
                      obtain ⟨h468, hp⟩ := hp
                      obtain ⟨b469, o470, cs471, ha472, nx473, lt474, ok475, hc476⟩ := Sl.atI hw_Parts440 (0 : Int) h468
                      obtain ⟨rfl, zeWord477, reAt478⟩ := r_rectoref3_Part_open ok475
                      replace hp := hp zeWord477
                      replace hp := hp reAt478
                      refine r_take 17 (.pointer (some ⟨b469, o470 + (0 : Int).toNat * 2, none⟩)) (RB.pre _ _) rfl (by kernel_rfl) (fun _ _ _ h => hQ.panic _ _ _ _ _ h) (.inl ⟨(by kernel_rfl), fun wq hq => (x_ixA (m := w_.Parts.length) (c := cw_Parts4) (k := .i64) (i := (0 : Int)) Tryd.underlying32 Tryd.sizeOf112 (by rw [← ha472]; kernel_rfl) (by kernel_rfl) h468)⟩) ?_
                      refine r_take 18 (.pointer (some ⟨b469, o470 + (0 : Int).toNat * 2 + 1, none⟩)) (RB.pre _ _) rfl (by kernel_rfl) (fun _ _ _ h => hQ.panic _ _ _ _ _ h) (.inl ⟨(by kernel_rfl), fun wq hq => (by kernel_rfl)⟩) ?_
                      refine r_take 19 (.int .i64 ((lget w_.Parts (0 : Int)).At)) (RB.pre _ _) rfl (by kernel_rfl) (fun _ _ _ h => hQ.panic _ _ _ _ _ h) (.inl ⟨(by kernel_rfl), fun wq hq => (x_load1 (by kernel_rfl) Tryd.isAgg3 ((CellsAt.rb hc476 (RB.trans er433 hq) (Nat.lt_of_lt_of_eq lt474 z432) (fun h => by cases h)) 1 _ rfl))⟩) ?_
                      refine r_take 20 (.bool (decide (d444.At = ((lget w_.Parts (0 : Int)).At)))) (RB.pre _ _) rfl (by kernel_rfl) (fun _ _ _ h => hQ.panic _ _ _ _ _ h) (.inl ⟨(by kernel_rfl), fun wq hq => (by kernel_rfl)⟩) ?_
                      refine r_take 21 (.bool (decide (d444.At = ((lget w_.Parts (0 : Int)).At)))) (RB.pre _ _) rfl (by kernel_rfl) (fun _ _ _ h => hQ.panic _ _ _ _ _ h) (.inl ⟨rfl, fun wq hq => (by kernel_rfl)⟩) ?_
                      refine r_ready [22] (by kernel_rfl) rfl (all_cons ⟨_, _, _, _, _, _, rfl, ?_⟩ all_nil)
                      refine o_pv (.bool (decide (d444.At = ((lget w_.Parts (0 : Int)).At)))) rfl (by kernel_rfl) ?_
                      refine ⟨fun h => absurd h (by decide), ?_⟩
                      refine r_done (by kernel_rfl) ?_
                      refine then_normal (hJ417 _ _ _ ⟨[(4, (.bool (decide (d444.At = ((lget w_.Parts (0 : Int)).At)))))], fit_mk (fun _ _ => rfl) (by kernel_rfl) (vs_cons (by kernel_rfl) vs_nil), ?_⟩)
                      exact ⟨X297, (decide (d444.At = ((lget w_.Parts (0 : Int)).At))), rfl, E435, hXo436, hS437, gv438, gv439, hp⟩
                    ·
                      replace hp := hp.2 h467
                      refine r_take 9 (.bool false) (RB.pre _ _) rfl (by kernel_rfl) (fun _ _ _ h => hQ.panic _ _ _ _ _ h) (.inl ⟨rfl, fun wq hq => (x_df (p := (d444.Part : ByteArray) = (lget w_.Parts (0 : Int)).Word) (x_streq (by kernel_rfl) (by kernel_rfl)) h467)⟩) ?_
                      refine r_take 10 (.bool false) (RB.pre _ _) rfl (by kernel_rfl) (fun _ _ _ h => hQ.panic _ _ _ _ _ h) (.inl ⟨rfl, fun wq hq => (by kernel_rfl)⟩) ?_
                      refine r_take 11 undef (RB.pre _ _) rfl (by kernel_rfl) (fun _ _ _ h => hQ.panic _ _ _ _ _ h) (.inr ⟨by kernel_rfl, rfl⟩) ?_
                      refine r_take 12 undef (RB.pre _ _) rfl (by kernel_rfl) (fun _ _ _ h => hQ.panic _ _ _ _ _ h) (.inr ⟨by kernel_rfl, rfl⟩) ?_
                      refine r_take 13 undef (RB.pre _ _) rfl (by kernel_rfl) (fun _ _ _ h => hQ.panic _ _ _ _ _ h) (.inr ⟨by kernel_rfl, rfl⟩) ?_
                      refine r_take 14 undef (RB.pre _ _) rfl (by kernel_rfl) (fun _ _ _ h => hQ.panic _ _ _ _ _ h) (.inr ⟨by kernel_rfl, rfl⟩) ?_
                      refine r_take 15 undef (RB.pre _ _) rfl (by kernel_rfl) (fun _ _ _ h => hQ.panic _ _ _ _ _ h) (.inr ⟨by kernel_rfl, rfl⟩) ?_
                      refine r_take 16 undef (RB.pre _ _) rfl (by kernel_rfl) (fun _ _ _ h => hQ.panic _ _ _ _ _ h) (.inr ⟨by kernel_rfl, rfl⟩) ?_
                      refine r_take 17 undef (RB.pre _ _) rfl (by kernel_rfl) (fun _ _ _ h => hQ.panic _ _ _ _ _ h) (.inr ⟨by kernel_rfl, rfl⟩) ?_
                      refine r_take 18 undef (RB.pre _ _) rfl (by kernel_rfl) (fun _ _ _ h => hQ.panic _ _ _ _ _ h) (.inr ⟨by kernel_rfl, rfl⟩) ?_
                      refine r_take 19 undef (RB.pre _ _) rfl (by kernel_rfl) (fun _ _ _ h => hQ.panic _ _ _ _ _ h) (.inr ⟨by kernel_rfl, rfl⟩) ?_
                      refine r_take 20 undef (RB.pre _ _) rfl (by kernel_rfl) (fun _ _ _ h => hQ.panic _ _ _ _ _ h) (.inr ⟨by kernel_rfl, rfl⟩) ?_
                      refine r_take 21 (.bool false) (RB.pre _ _) rfl (by kernel_rfl) (fun _ _ _ h => hQ.panic _ _ _ _ _ h) (.inl ⟨rfl, fun wq hq => (by kernel_rfl)⟩) ?_
                      refine r_ready [22] (by kernel_rfl) rfl (all_cons ⟨_, _, _, _, _, _, rfl, ?_⟩ all_nil)
                      refine o_pv (.bool false) rfl (by kernel_rfl) ?_
                      refine ⟨fun h => absurd h (by decide), ?_⟩
                      refine r_done (by kernel_rfl) ?_
                      refine then_normal (hJ417 _ _ _ ⟨[(4, (.bool false))], fit_mk (fun _ _ => rfl) (by kernel_rfl) (vs_cons (by kernel_rfl) vs_nil), ?_⟩)
                      exact ⟨X297, false, rfl, E435, hXo436, hS437, gv438, gv439, hp⟩
                  ·
                    rintro _ w414 g479 ⟨X415, s411, rfl, E419, hXo420, hS421, gv422, gv423, hv418⟩
                    replace hp := hk413 s411 hv418
                    refine then_normal (K355 _ _ _ _ ?_)
                    refine wp_ret ?_
                    refine end_ret hQ (.bool s411) (by kernel_rfl) ?_
                    exact ⟨s411, hp, E419, rfl⟩
      ·
        replace hp := hp.2 h99
        obtain ⟨part480, at481, n482, hc483⟩ := isFault_eq h98 h99
        replace hp := hp part480 at481 n482 hc483
        rw [hc483] at herr97
        obtain ⟨b484, rfl, k485, z486, r487, r488⟩ := rErr_inv_fault herr97
        replace hp := hp z486
        replace hp := hp r487
        replace hp := hp r488
        have hw_Parts537 := (Sl.step hw_Parts5 s11)
        have gv538 := (GV.step gv0 s11)
        have gv539 := (GV.step gv1 s11)
        have hXo540 := (Old.step hXo s11)
        have E541 := (Evo.then0 E0 (Step.evo s11))
        have hS542 := (Sub.trans hS (Step.up s11))
        obtain ⟨k530, hk531, hp⟩ := hp
        refine ground_ ?_
        refine join_ 268433408 (fun lq w532 => ∃ (X533 : List Nat) (s529 : Bool), (lq = [(27, (.bool s529))]) ∧ (Evo [] w w532) ∧ (Old X533 w532) ∧ (Sub X X533) ∧ (GV X533 w532 0 [(.iface 202 (.agg #[typeHandle Tryd.prog 26]))]) ∧ (GV X533 w532 1 (Lib.pow10Tab.map (Value.int .u64))) ∧ (RO X533 w532 b484 [(.string part480), (.int .i64 at481), (.iface 94 (.int .i64 n482))] 119) ∧ (Sl r_rectoref3_Part X533 w532 aw_Parts3 cw_Parts4 w_.Parts) ∧ (OB ([]) w.heap.size X533 w532 b8 [(.slice aw_Parts3 w_.Parts.length cw_Parts4), (.int .i64 w_.Err)] 34) ∧ (k530 s529)) (fun Kj534 hJ535 => ?_) ?_
        ·
          refine reg_drawn (RB w9.heap.size []) 17 (by kernel_rfl) (fun w551 hd552 => ?_)
          have e553 := Evo.of_drew hd552
          have z554 : w551.heap.size = w9.heap.size := by rw [hd552]
          clear hd552
          have s556 := Step.of0 X10 e553
          have er555 := RB.refl w9.heap.size [] w551
          have hw_Parts557 := (Sl.step hw_Parts537 s556)
          have gv558 := (GV.step gv538 s556)
          have gv559 := (GV.step gv539 s556)
          have hXo560 := (Old.step hXo540 s556)
          have E561 := (Evo.then0 E541 (Step.evo s556))
          have hS562 := (Sub.trans hS542 (Step.up s556))
          have k563 := (OB.step0 k12 s556)
          have k564 := (RO.step k485 s556)
          refine r_take 0 (.iface 115 (.pointer (some ⟨b484, 0, none⟩))) (RB.pre _ _) rfl (by kernel_rfl) (fun _ _ _ h => hQ.panic _ _ _ _ _ h) (.inl ⟨rfl, fun wq hq => (by kernel_rfl)⟩) ?_
          refine r_take 1 (.bool false) (RB.pre _ _) rfl (by kernel_rfl) (fun _ _ _ h => hQ.panic _ _ _ _ _ h) (.inl ⟨rfl, fun wq hq => (x_inil_eq (tp := 115) (v := (.pointer (some ⟨b484, 0, none⟩))) Tryd.underlying26 (by kernel_rfl) (by kernel_rfl))⟩) ?_
          refine r_take 2 (.bool false) (RB.pre _ _) rfl (by kernel_rfl) (fun _ _ _ h => hQ.panic _ _ _ _ _ h) (.inl ⟨rfl, fun wq hq => (by kernel_rfl)⟩) ?_
          refine r_take 3 (.iface 115 (.pointer (some ⟨b484, 0, none⟩))) (RB.pre _ _) rfl (by kernel_rfl) (fun _ _ _ h => hQ.panic _ _ _ _ _ h) (.inl ⟨(by kernel_rfl), fun wq hq => (by kernel_rfl)⟩) ?_
          refine r_take 5 (.agg #[(.slice aw_Parts3 w_.Parts.length cw_Parts4), (.int .i64 w_.Err)]) (RB.pre _ _) rfl (by kernel_rfl) (fun _ _ _ h => hQ.panic _ _ _ _ _ h) (.inl ⟨(by kernel_rfl), fun wq hq => (x_loadN [(.slice aw_Parts3 w_.Parts.length cw_Parts4), (.int .i64 w_.Err)] (by kernel_rfl) Tryd.isAgg34 Tryd.sizeOf34 ((Blk.rb k563.2.1 (RB.trans er555 hq) (Nat.lt_of_lt_of_eq (Blk.lt k563.2.1) z554) (fun h => by cases h)).cells' 0 rfl))⟩) ?_
          refine r_ready [4] (by kernel_rfl) rfl (all_cons ⟨_, _, _, _, _, _, rfl, ?_⟩ all_nil)
          refine o_call 176 #[(.pointer (some ⟨b484, 0, none⟩))] (by kernel_rfl) (x_invoke (t := 115) (v := (.pointer (some ⟨b484, 0, none⟩))) (r := (.pointer (some ⟨b484, 0, none⟩))) (by kernel_rfl) (fun _ => by kernel_rfl) Tryd.call176 (by kernel_rfl)) (api_Fault_Error_w (X := []) (f_ := (S_api_Fault.mk part480 at481 (PErr.no n482))) (Old.nil _) ⟨(fun hm => by cases hm), k564.2⟩ z486 r487 (rErr_no r488) (GV.less gv559 (Sub.nil _)) hp) ?_
          rintro _ w566 ⟨r565, hp, e567, rfl, zr569⟩
          have rm := RB.mono (F' := []) e567 (Nat.le_trans (Nat.le_of_eq z554.symm) (RB.size er555)) (fun _ h => by cases h)
          have er570 := RB.trans er555 rm
          refine ⟨fun _ => rm, ?_⟩
          have s568 := Step.of0 X10 e567
          replace hp := hp zr569
          refine r_ready [6] (by kernel_rfl) rfl (all_cons ⟨_, _, _, _, _, _, rfl, ?_⟩ all_nil)
          have hw_Parts571 := (Sl.step hw_Parts557 s568)
          refine o_call 57 #[(.agg #[(.slice aw_Parts3 w_.Parts.length cw_Parts4), (.int .i64 w_.Err)])] (by kernel_rfl) (x_call Tryd.call57 (by kernel_rfl)) (rectoref3_Words_w (X := []) (w_ := w_) (Old.nil _) (Sl.less hw_Parts571 (Sub.nil _)) rw_Err6 hp) ?_
          rintro _ w573 ⟨r572, hp, e574, rfl, zr576⟩
          have rm := RB.mono (F' := []) e574 (Nat.le_trans (Nat.le_of_eq z554.symm) (RB.size er570)) (fun _ h => by cases h)
          have er577 := RB.trans er570 rm
          refine ⟨fun _ => rm, ?_⟩
          have s575 := Step.of0 X10 e574
          replace hp := hp zr576
          by_cases h578 : (r565 : ByteArray) = r572
          ·
            replace hp := hp.1 h578
            refine r_take 7 (.bool false) (RB.pre _ _) rfl (by kernel_rfl) (fun _ _ _ h => hQ.panic _ _ _ _ _ h) (.inl ⟨(by kernel_rfl), fun wq hq => (x_ndf (p := (r565 : ByteArray) = r572) (x_strne (by kernel_rfl) (by kernel_rfl)) h578)⟩) ?_
            refine r_take 8 (.bool false) (RB.pre _ _) rfl (by kernel_rfl) (fun _ _ _ h => hQ.panic _ _ _ _ _ h) (.inl ⟨rfl, fun wq hq => (by kernel_rfl)⟩) ?_
            refine r_take 9 (.bool false) (RB.pre _ _) rfl (by kernel_rfl) (fun _ _ _ h => hQ.panic _ _ _ _ _ h) (.inl ⟨rfl, fun wq hq => (by kernel_rfl)⟩) ?_
            refine r_take 10 (.iface 115 (.pointer (some ⟨b484, 0, none⟩))) (RB.pre _ _) rfl (by kernel_rfl) (fun _ _ _ h => hQ.panic _ _ _ _ _ h) (.inl ⟨(by kernel_rfl), fun wq hq => (by kernel_rfl)⟩) ?_
            refine r_take 11 (.pointer (some ⟨b8, 1, none⟩)) (RB.pre _ _) rfl (by kernel_rfl) (fun _ _ _ h => hQ.panic _ _ _ _ _ h) (.inl ⟨(by kernel_rfl), fun wq hq => (by kernel_rfl)⟩) ?_
            refine r_take 12 (.int .i64 w_.Err) (RB.pre _ _) rfl (by kernel_rfl) (fun _ _ _ h => hQ.panic _ _ _ _ _ h) (.inl ⟨(by kernel_rfl), fun wq hq => (x_load1 (by kernel_rfl) Tryd.isAgg3 ((Blk.rb k563.2.1 (RB.trans er577 hq) (Nat.lt_of_lt_of_eq (Blk.lt k563.2.1) z554) (fun h => by cases h)).cell' 1 rfl))⟩) ?_
            refine r_take 13 (.iface 94 (.int .i64 w_.Err)) (RB.pre _ _) rfl (by kernel_rfl) (fun _ _ _ h => hQ.panic _ _ _ _ _ h) (.inl ⟨(by kernel_rfl), fun wq hq => (by kernel_rfl)⟩) ?_
            refine r_ready [14] (by kernel_rfl) rfl (all_cons ⟨_, _, _, _, _, _, rfl, ?_⟩ all_nil)
            have k579 := (RO.step (RO.step k564 s568) s575)
            refine o_call 58 #[(.iface 115 (.pointer (some ⟨b484, 0, none⟩))), (.iface 94 (.int .i64 w_.Err))] (by kernel_rfl) (x_call Tryd.call58 (by kernel_rfl)) (errors_Is_w (X := []) (err := (PErr.fault part480 at481 n482)) (target := w_.Err) (Old.nil _) (rErr_fault (fun hm => by cases hm) k579.2 z486 r487 r488) rw_Err6 hp) ?_
            rintro _ w581 ⟨r580, hp, e582, rfl⟩
            have rm := RB.mono (F' := []) e582 (Nat.le_trans (Nat.le_of_eq z554.symm) (RB.size er577)) (fun _ h => by cases h)
            have er584 := RB.trans er577 rm
            refine ⟨fun _ => rm, ?_⟩
            have s583 := Step.of0 X10 e582
            refine r_take 15 (.bool (!r580)) (RB.pre _ _) rfl (by kernel_rfl) (fun _ _ _ h => hQ.panic _ _ _ _ _ h) (.inl ⟨(by kernel_rfl), fun wq hq => (by kernel_rfl)⟩) ?_
            refine r_take 16 (.bool (!r580)) (RB.pre _ _) rfl (by kernel_rfl) (fun _ _ _ h => hQ.panic _ _ _ _ _ h) (.inl ⟨rfl, fun wq hq => (by kernel_rfl)⟩) ?_
            refine r_done (by kernel_rfl) ?_
            have E585 := (Evo.then0 (Evo.then0 (Evo.then0 E561 e567) e574) e582)
            have hXo586 := (Old.step (Old.step (Old.step hXo560 s568) s575) s583)
            have hS587 := (Sub.trans (Sub.trans (Sub.trans hS562 (Step.up s568)) (Step.up s575)) (Step.up s583))
            have gv588 := (GV.step (GV.step (GV.step gv558 s568) s575) s583)
            have gv589 := (GV.step (GV.step (GV.step gv559 s568) s575) s583)
            have k590 := (RO.step k579 s583)
            have hw_Parts591 := (Sl.step (Sl.step hw_Parts571 s575) s583)
            have k592 := (OB.step0 (OB.step0 (OB.step0 k563 s568) s575) s583)
            refine then_normal (hJ535 _ _ _ ⟨[(27, (.bool (!r580)))], fit_mk (fun _ _ => rfl) (by kernel_rfl) (vs_cons (by kernel_rfl) vs_nil), ?_⟩)
            exact ⟨X10, (!r580), rfl, E585, hXo586, hS587, gv588, gv589, k590, hw_Parts591, k592, hp⟩
          ·
            replace hp := hp.2 h578
            refine r_take 7 (.bool true) (RB.pre _ _) rfl (by kernel_rfl) (fun _ _ _ h => hQ.panic _ _ _ _ _ h) (.inl ⟨(by kernel_rfl), fun wq hq => (x_ndt (p := (r565 : ByteArray) = r572) (x_strne (by kernel_rfl) (by kernel_rfl)) h578)⟩) ?_
            refine r_take 8 (.bool true) (RB.pre _ _) rfl (by kernel_rfl) (fun _ _ _ h => hQ.panic _ _ _ _ _ h) (.inl ⟨rfl, fun wq hq => (by kernel_rfl)⟩) ?_
            refine r_take 9 (.bool true) (RB.pre _ _) rfl (by kernel_rfl) (fun _ _ _ h => hQ.panic _ _ _ _ _ h) (.inl ⟨rfl, fun wq hq => (by kernel_rfl)⟩) ?_
            refine r_take 10 undef (RB.pre _ _) rfl (by kernel_rfl) (fun _ _ _ h => hQ.panic _ _ _ _ _ h) (.inr ⟨by kernel_rfl, rfl⟩) ?_
            refine r_take 11 undef (RB.pre _ _) rfl (by kernel_rfl) (fun _ _ _ h => hQ.panic _ _ _ _ _ h) (.inr ⟨by kernel_rfl, rfl⟩) ?_
            refine r_take 12 undef (RB.pre _ _) rfl (by kernel_rfl) (fun _ _ _ h => hQ.panic _ _ _ _ _ h) (.inr ⟨by kernel_rfl, rfl⟩) ?_
            refine r_take 13 undef (RB.pre _ _) rfl (by kernel_rfl) (fun _ _ _ h => hQ.panic _ _ _ _ _ h) (.inr ⟨by kernel_rfl, rfl⟩) ?_
            refine r_take 14 undef (RB.pre _ _) rfl (by kernel_rfl) (fun _ _ _ h => hQ.panic _ _ _ _ _ h) (.inr ⟨by kernel_rfl, rfl⟩) ?_
            refine r_take 15 undef (RB.pre _ _) rfl (by kernel_rfl) (fun _ _ _ h => hQ.panic _ _ _ _ _ h) (.inr ⟨by kernel_rfl, rfl⟩) ?_
            refine r_take 16 (.bool true) (RB.pre _ _) rfl (by kernel_rfl) (fun _ _ _ h => hQ.panic _ _ _ _ _ h) (.inl ⟨rfl, fun wq hq => (by kernel_rfl)⟩) ?_
            refine r_done (by kernel_rfl) ?_
            have E593 := (Evo.then0 (Evo.then0 E561 e567) e574)
            have hXo594 := (Old.step (Old.step hXo560 s568) s575)
            have hS595 := (Sub.trans (Sub.trans hS562 (Step.up s568)) (Step.up s575))
            have gv596 := (GV.step (GV.step gv558 s568) s575)
            have gv597 := (GV.step (GV.step gv559 s568) s575)
            have k598 := (RO.step (RO.step k564 s568) s575)
            have hw_Parts599 := (Sl.step hw_Parts571 s575)
            have k600 := (OB.step0 (OB.step0 k563 s568) s575)
            refine then_normal (hJ535 _ _ _ ⟨[(27, (.bool true))], fit_mk (fun _ _ => rfl) (by kernel_rfl) (vs_cons (by kernel_rfl) vs_nil), ?_⟩)
            exact ⟨X10, true, rfl, E593, hXo594, hS595, gv596, gv597, k598, hw_Parts599, k600, hp⟩
        ·
          rintro _ w532 g601 ⟨X533, s529, rfl, E543, hXo544, hS545, gv546, gv547, k548, hw_Parts549, k550, hv536⟩
          replace hp := hk531 s529 hv536
          refine then_normal (K20 _ _ _ _ ?_)
          refine cond_b s529 (by kernel_rfl) (fun h602 => ?_) (fun h602 => ?_)
          ·
            replace hp := hp.1 h602
            refine seq_ (fun _ K603 => ?_)
            refine reg_ ?_
            refine sq (o_pv (.bool false) rfl (by kernel_rfl) ?_)
            refine nil_ ?_
            refine then_normal (K603 _ _ _ _ ?_)
            refine wp_ret ?_
            refine then_ret ?_
            refine end_ret hQ (.bool false) (by kernel_rfl) ?_
            exact ⟨false, hp, E543, rfl⟩
          ·
            replace hp := hp.2 h602
            refine wp_skip ?_
            refine then_normal (K19 _ _ _ _ ?_)
            refine seq_ (fun _ K604 => ?_)
            refine seq_ (fun _ K605 => ?_)
            refine reg_ ?_
            refine sq (o_pv (.pointer (some ⟨b8, 0, none⟩)) rfl (by kernel_rfl) ?_)
            refine sq (o_pv (.slice aw_Parts3 w_.Parts.length cw_Parts4) rfl (x_load1 (by kernel_rfl) Tryd.isAgg32 (k550.2.1.cell' 0 rfl)) ?_)
            refine sq (o_pv (.int .i64 (w_.Parts.length : Int)) rfl (by kernel_rfl) ?_)
            refine sq (o_pv (.bool (decide ((w_.Parts.length : Int) = (0 : Int)))) rfl (by kernel_rfl) ?_)
            refine nil_ ?_
            refine then_normal (K605 _ _ _ _ ?_)
            refine cond_d ((w_.Parts.length : Int) = (0 : Int)) (by kernel_rfl) (fun h606 => ?_) (fun h606 => ?_)
            ·
              replace hp := hp.1 h606
              refine seq_ (fun _ K607 => ?_)
              refine reg_ ?_
              refine sq (o_pv (.bool true) rfl (by kernel_rfl) ?_)
              refine nil_ ?_
              refine then_normal (K607 _ _ _ _ ?_)
              refine wp_ret ?_
              refine then_ret ?_
              refine end_ret hQ (.bool true) (by kernel_rfl) ?_
              exact ⟨true, hp, E543, rfl⟩
            ·
              replace hp := hp.2 h606
              refine wp_skip ?_
              refine then_normal (K604 _ _ _ _ ?_)
              refine seq_ (fun _ K608 => ?_)
              refine reg_ ?_
              refine sq (o_newX [(.pointer none)] 115 (X := X533) (B := w.heap.size) E543.size rfl (by kernel_rfl) ?_)
              intro b609 w610 X611 s612 k613 n614
              have p615 := n614 _ (OB.old k550)
              refine nil_ ?_
              refine then_normal (K608 _ _ _ _ ?_)
              refine seq_ (fun _ K616 => ?_)
              refine seq_ (fun _ K617 => ?_)
              have E655 := (Evo.then0 E543 (Step.evo s612))
              have hXo656 := (Old.step hXo544 s612)
              have hS657 := (Sub.trans hS545 (Step.up s612))
              have gv658 := (GV.step gv546 s612)
              have gv659 := (GV.step gv547 s612)
              have k660 := (RO.step k548 s612)
              have hw_Parts661 := (Sl.step hw_Parts549 s612)
              have k662 := (OB.step0 k550 s612)
              obtain ⟨k648, hk649, hp⟩ := hp
              refine ground_ ?_
              refine join_ 1095216660480 (fun lq w650 => ∃ (X651 : List Nat) (s644 : Bool) (o645 : S_cellFault) (F646 : List Nat), (lq = [(39, (.bool s644))]) ∧ (Evo [] w w650) ∧ (Old X651 w650) ∧ (Sub X X651) ∧ (GV X651 w650 0 [(.iface 202 (.agg #[typeHandle Tryd.prog 26]))]) ∧ (GV X651 w650 1 (Lib.pow10Tab.map (Value.int .u64))) ∧ (Sl r_rectoref3_Part X651 w650 aw_Parts3 cw_Parts4 w_.Parts) ∧ (OB ([]) w.heap.size X651 w650 b8 [(.slice aw_Parts3 w_.Parts.length cw_Parts4), (.int .i64 w_.Err)] 34) ∧ (MO o_cellFault 115 ([]) w.heap.size X651 w650 F646 b609 o645) ∧ (Ap ([b8]) (F646)) ∧ (k648 s644 o645)) (fun Kj652 hJ653 => ?_) ?_
              ·
                refine reg_ ?_
                refine sq (o_pv (.iface 115 (.pointer (some ⟨b484, 0, none⟩))) rfl (by kernel_rfl) ?_)
                refine sq (o_pv (.iface 117 (.pointer (some ⟨b609, 0, none⟩))) rfl (by kernel_rfl) ?_)
                obtain ⟨F671, m672, hs673⟩ := MO.pack (o_cellFault_mk k613 rPtrO_none)
                have p674 := hs673 _ (Ap.cons p615 (Ap.nil_r _))
                refine sq (o_call 59 #[(.iface 115 (.pointer (some ⟨b484, 0, none⟩))), (.iface 117 (.pointer (some ⟨b609, 0, none⟩)))] rfl (x_call Tryd.call59 (by kernel_rfl)) (errors_As_w (X := X611) (err := (PErr.fault part480 at481 n482)) (target := (S_cellFault.mk none)) hXo656 (rErr_fault k660.1 k660.2 z486 r487 r488) (MO.re m672 (Wr.self _ _ (Sub.refl _))) gv658 hp) ?_)
                rintro _ w677 ⟨target675, r676, hp, X678, F680, s679, rfl, m681⟩
                have m682 := MO.re m681 (Wr.trans m681.wr m672.wr E655.size)
                have p683 := Ap.grow m681.wr p674 (OB.old k662) (Nat.le_refl _)
                cases r676
                ·
                  replace hp := hp.2 rfl
                  refine sq (o_pv (.bool true) rfl (by kernel_rfl) ?_)
                  refine sq (o_pv (.bool true) rfl (by kernel_rfl) ?_)
                  refine sq (o_not (by kernel_rfl) ?_)
                  refine sq (o_not (by kernel_rfl) ?_)
                  refine sq (o_pv (.bool true) rfl (by kernel_rfl) ?_)
                  refine nil_ ?_
                  have E684 := (Evo.thenW E655 (Step.evo s679) m672.wr)
                  have hXo685 := (Old.step hXo656 s679)
                  have hS686 := (Sub.trans hS657 (Step.up s679))
                  have gv687 := (GV.step gv658 s679)
                  have gv688 := (GV.step gv659 s679)
                  have hw_Parts689 := (Sl.step hw_Parts661 s679)
                  have k690 := (OB.step k662 s679 p674)
                  refine then_normal (hJ653 _ _ _ ⟨[(39, (.bool true))], fit_mk (fun _ _ => rfl) (by kernel_rfl) (vs_cons (by kernel_rfl) vs_nil), ?_⟩)
                  exact ⟨X678, true, target675, F680, rfl, E684, hXo685, hS686, gv687, gv688, hw_Parts689, k690, m682, p683, hp⟩
                ·
                  replace hp := hp.1 rfl
                  refine sq (o_pv (.bool false) rfl (by kernel_rfl) ?_)
                  refine sq (o_pv (.bool false) rfl (by kernel_rfl) ?_)
                  obtain ⟨vov691, k693, hov692, sb694⟩ := o_cellFault_open m682
                  have p695 := Ap.subr p683 sb694
                  refine sq (o_pv vov691 (by kernel_rfl) (x_load1 (by kernel_rfl) Tryd.isAgg115 (k693.2.1.cell' 0 rfl)) ?_)
                  refine sq (o_pv (.bool target675.v.isNone) (by kernel_rfl) (x_ptro_eq hov692 Tryd.underlying115 (by kernel_rfl) (by kernel_rfl)) ?_)
                  refine sq (o_pv (.bool target675.v.isNone) rfl (by kernel_rfl) ?_)
                  refine nil_ ?_
                  have E696 := (Evo.thenW E655 (Step.evo s679) m672.wr)
                  have hXo697 := (Old.step hXo656 s679)
                  have hS698 := (Sub.trans hS657 (Step.up s679))
                  have gv699 := (GV.step gv658 s679)
                  have gv700 := (GV.step gv659 s679)
                  have k701 := (RO.step k660 s679)
                  have hw_Parts702 := (Sl.step hw_Parts661 s679)
                  have k703 := (OB.step k662 s679 p674)
                  obtain ⟨F704, m705, hs706⟩ := MO.pack (o_cellFault_mk k693 hov692)
                  have p707 := hs706 _ (Ap.cons p695 (Ap.nil_r _))
                  refine then_normal (hJ653 _ _ _ ⟨[(39, (.bool target675.v.isNone))], fit_mk (fun _ _ => rfl) (by kernel_rfl) (vs_cons (by kernel_rfl) vs_nil), ?_⟩)
                  exact ⟨X678, target675.v.isNone, target675, F704, rfl, E696, hXo697, hS698, gv699, gv700, hw_Parts702, k703, m705, p707, hp⟩
              ·
                rintro _ w650 g708 ⟨X651, s644, o645, F646, rfl, E663, hXo664, hS665, gv666, gv667, hw_Parts668, k669, m647, p670, hv654⟩
                replace hp := hk649 s644 o645 hv654
                refine then_normal (K617 _ _ _ _ ?_)
                refine cond_b s644 (by kernel_rfl) (fun h709 => ?_) (fun h709 => ?_)
                ·
                  replace hp := hp.1 h709
                  refine seq_ (fun _ K710 => ?_)
                  refine reg_ ?_
                  refine sq (o_pv (.bool false) rfl (by kernel_rfl) ?_)
                  refine nil_ ?_
                  refine then_normal (K710 _ _ _ _ ?_)
                  refine wp_ret ?_
                  refine then_ret ?_
                  refine end_ret hQ (.bool false) (by kernel_rfl) ?_
                  exact ⟨false, hp, E663, rfl⟩
                ·
                  replace hp := hp.2 h709
                  refine wp_skip ?_
                  refine then_normal (K616 _ _ _ _ ?_)
                  refine seq_ (fun _ K711 => ?_)
                  obtain ⟨k768, hk769, hp⟩ := hp
                  refine ground_ ?_
                  refine join_ 4611684918915760144 (fun lq w770 => ∃ (X771 : List Nat) (s767 : Bool), (lq = [(4, (.bool s767))]) ∧ (Evo [] w w770) ∧ (Old X771 w770) ∧ (Sub X X771) ∧ (GV X771 w770 0 [(.iface 202 (.agg #[typeHandle Tryd.prog 26]))]) ∧ (GV X771 w770 1 (Lib.pow10Tab.map (Value.int .u64))) ∧ (k768 s767)) (fun Kj772 hJ773 => ?_) ?_
                  ·
                    obtain ⟨vov780, k782, hov781, sb783⟩ := o_cellFault_open m647
                    have p784 := Ap.subr p670 sb783
                    refine reg_drawn (RB w650.heap.size []) 22 (by kernel_rfl) (fun w785 hd786 => ?_)
                    have e787 := Evo.of_drew hd786
                    have z788 : w785.heap.size = w650.heap.size := by rw [hd786]
                    clear hd786
                    have s790 := Step.of0 X651 e787
                    have er789 := RB.refl w650.heap.size [] w785
                    have E791 := (Evo.then0 E663 (Step.evo s790))
                    have hXo792 := (Old.step hXo664 s790)
                    have hS793 := (Sub.trans hS665 (Step.up s790))
                    have gv794 := (GV.step gv666 s790)
                    have gv795 := (GV.step gv667 s790)
                    have hw_Parts796 := (Sl.step hw_Parts668 s790)
                    have k797 := (OB.step0 k669 s790)
                    have k798 := (OB.step0 k782 s790)
                    have hov799 := (Rep.step (rPtrO r_api_Fault 119) hov781 s790)
                    refine r_take 0 vov780 (RB.pre _ _) rfl (by kernel_rfl) (fun _ _ _ h => hQ.panic _ _ _ _ _ h) (.inl ⟨rfl, fun wq hq => (x_load1 (by kernel_rfl) Tryd.isAgg115 ((Blk.rb k798.2.1 (RB.trans er789 hq) (Nat.lt_of_lt_of_eq (Blk.lt k798.2.1) z788) (fun h => by cases h)).cell' 0 rfl))⟩) ?_
                    obtain ⟨d800, h801, hp⟩ := hp
                    rw [h801] at hov799
                    obtain ⟨b802, cs803, hvb802, nb804, k805, ok806⟩ := hov799
                    injection hvb802 with hvb802 _; subst hvb802
                    obtain ⟨vpErr809, rfl, zpPart807, rpAt808, hpErr810⟩ := r_api_Fault_open ok806
                    replace hp := hp zpPart807
                    replace hp := hp rpAt808
                    have k811 := (⟨nb804, k805⟩ : RO _ _ _ _ _)
                    refine r_take 1 (.pointer (some ⟨b802, 0, none⟩)) (RB.pre _ _) rfl (by kernel_rfl) (fun _ _ _ h => hQ.panic _ _ _ _ _ h) (.inl ⟨rfl, fun wq hq => (by kernel_rfl)⟩) ?_
                    refine r_take 2 (.pointer (some ⟨b802, 0, none⟩)) (RB.pre _ _) rfl (by kernel_rfl) (fun _ _ _ h => hQ.panic _ _ _ _ _ h) (.inl ⟨rfl, fun wq hq => (by kernel_rfl)⟩) ?_
                    refine r_take 3 (.string d800.Part) (RB.pre _ _) rfl (by kernel_rfl) (fun _ _ _ h => hQ.panic _ _ _ _ _ h) (.inl ⟨rfl, fun wq hq => (x_load1 (by kernel_rfl) Tryd.isAgg9 ((Blk.rb k811.2 (RB.trans er789 hq) (Nat.lt_of_lt_of_eq (Blk.lt k811.2) z788) (fun h => by cases h)).cell' 0 rfl))⟩) ?_
                    refine r_take 4 (.pointer (some ⟨b8, 0, none⟩)) (RB.pre _ _) rfl (by kernel_rfl) (fun _ _ _ h => hQ.panic _ _ _ _ _ h) (.inl ⟨rfl, fun wq hq => (by kernel_rfl)⟩) ?_
                    refine r_take 5 (.slice aw_Parts3 w_.Parts.length cw_Parts4) (RB.pre _ _) rfl (by kernel_rfl) (fun _ _ _ h => hQ.panic _ _ _ _ _ h) (.inl ⟨rfl, fun wq hq => (x_load1 (by kernel_rfl) Tryd.isAgg32 ((Blk.rb k797.2.1 (RB.trans er789 hq) (Nat.lt_of_lt_of_eq (Blk.lt k797.2.1) z788) (fun h => by cases h)).cell' 0 rfl))⟩) ?_
                    obtain ⟨h812, hp⟩ := hp
                    obtain ⟨b813, o814, cs815, ha816, nx817, lt818, ok819, hc820⟩ := Sl.atI hw_Parts796 (0 : Int) h812
                    obtain ⟨rfl, zeWord821, reAt822⟩ := r_rectoref3_Part_open ok819
                    replace hp := hp zeWord821
                    replace hp := hp reAt822
                    refine r_take 6 (.pointer (some ⟨b813, o814 + (0 : Int).toNat * 2, none⟩)) (RB.pre _ _) rfl (by kernel_rfl) (fun _ _ _ h => hQ.panic _ _ _ _ _ h) (.inl ⟨rfl, fun wq hq => (x_ixA (m := w_.Parts.length) (c := cw_Parts4) (k := .i64) (i := (0 : Int)) Tryd.underlying32 Tryd.sizeOf112 (by rw [← ha816]; kernel_rfl) (by kernel_rfl) h812)⟩) ?_
                    refine r_take 7 (.pointer (some ⟨b813, o814 + (0 : Int).toNat * 2, none⟩)) (RB.pre _ _) rfl (by kernel_rfl) (fun _ _ _ h => hQ.panic _ _ _ _ _ h) (.inl ⟨rfl, fun wq hq => (by kernel_rfl)⟩) ?_
                    refine r_take 8 (.string ((lget w_.Parts (0 : Int)).Word)) (RB.pre _ _) rfl (by kernel_rfl) (fun _ _ _ h => hQ.panic _ _ _ _ _ h) (.inl ⟨rfl, fun wq hq => (x_load1 (by kernel_rfl) Tryd.isAgg9 ((CellsAt.rb hc820 (RB.trans er789 hq) (Nat.lt_of_lt_of_eq lt818 z788) (fun h => by cases h)) 0 _ rfl))⟩) ?_
                    by_cases h823 : (d800.Part : ByteArray) = (lget w_.Parts (0 : Int)).Word
                    ·
                      replace hp := hp.1 h823
                      refine r_take 9 (.bool true) (RB.pre _ _) rfl (by kernel_rfl) (fun _ _ _ h => hQ.panic _ _ _ _ _ h) (.inl ⟨rfl, fun wq hq => (x_dt (p := (d800.Part : ByteArray) = (lget w_.Parts (0 : Int)).Word) (x_streq (by kernel_rfl) (by kernel_rfl)) h823)⟩) ?_
                      refine r_take 10 (.bool true) (RB.pre _ _) rfl (by kernel_rfl) (fun _ _ _ h => hQ.panic _ _ _ _ _ h) (.inl ⟨rfl, fun wq hq => (by kernel_rfl)⟩) ?_
                      refine r_take 11 (.pointer (some ⟨b802, 0, none⟩)) (RB.pre _ _) rfl (by kernel_rfl) (fun _ _ _ h => hQ.panic _ _ _ _ _ h) (.inl ⟨(by kernel_rfl), fun wq hq => (x_load1 (by kernel_rfl) Tryd.isAgg115 ((Blk.rb k798.2.1 (RB.trans er789 hq) (Nat.lt_of_lt_of_eq (Blk.lt k798.2.1) z788) (fun h => by cases h)).cell' 0 rfl))⟩) ?_
                      refine r_take 12 (.pointer (some ⟨b802, 0, none⟩)) (RB.pre _ _) rfl (by kernel_rfl) (fun _ _ _ h => hQ.panic _ _ _ _ _ h) (.inl ⟨(by kernel_rfl), fun wq hq => (by kernel_rfl)⟩) ?_
                      refine r_take 13 (.pointer (some ⟨b802, 1, none⟩)) (RB.pre _ _) rfl (by kernel_rfl) (fun _ _ _ h => hQ.panic _ _ _ _ _ h) (.inl ⟨(by kernel_rfl), fun wq hq => (by kernel_rfl)⟩) ?_
                      refine r_take 14 (.int .i64 d800.At) (RB.pre _ _) rfl (by kernel_rfl) (fun _ _ _ h => hQ.panic _ _ _ _ _ h) (.inl ⟨(by kernel_rfl), fun wq hq => (x_load1 (by kernel_rfl) Tryd.isAgg3 ((Blk.rb k811.2 (RB.trans er789 hq) (Nat.lt_of_lt_of_eq (Blk.lt k811.2) z788) (fun h => by cases h)).cell' 1 rfl))⟩) ?_
                      refine r_take 15 (.pointer (some ⟨b8, 0, none⟩)) (RB.pre _ _) rfl (by kernel_rfl) (fun _ _ _ h => hQ.panic _ _ _ _ _ h) (.inl ⟨(by kernel_rfl), fun wq hq => (by kernel_rfl)⟩) ?_
                      refine r_take 16 (.slice aw_Parts3 w_.Parts.length cw_Parts4) (RB.pre _ _) rfl (by kernel_rfl) (fun _ _ _ h => hQ.panic _ _ _ _ _ h) (.inl ⟨(by kernel_rfl), fun wq hq => (x_load1 (by kernel_rfl) Tryd.isAgg32 ((Blk.rb k797.2.1 (RB.trans er789 hq) (Nat.lt_of_lt_of_eq (Blk.lt k797.2.1) z788) (fun h => by cases h)).cell' 0 rfl))⟩) ?_
                      obtain ⟨h824, hp⟩ := hp
                      obtain ⟨b825, o826, cs827, ha828, nx829, lt830, ok831, hc832⟩ := Sl.atI hw_Parts796 (0 : Int) h824
                      obtain ⟨rfl, zeWord833, reAt834⟩ := r_rectoref3_Part_open ok831
                      replace hp := hp zeWord833
                      replace hp := hp reAt834
                      refine r_take 17 (.pointer (some ⟨b825, o826 + (0 : Int).toNat * 2, none⟩)) (RB.pre _ _) rfl (by kernel_rfl) (fun _ _ _ h => hQ.panic _ _ _ _ _ h) (.inl ⟨(by kernel_rfl), fun wq hq => (x_ixA (m := w_.Parts.length) (c := cw_Parts4) (k := .i64) (i := (0 : Int)) Tryd.underlying32 Tryd.sizeOf112 (by rw [← ha828]; kernel_rfl) (by kernel_rfl) h824)⟩) ?_
                      refine r_take 18 (.pointer (some ⟨b825, o826 + (0 : Int).toNat * 2 + 1, none⟩)) (RB.pre _ _) rfl (by kernel_rfl) (fun _ _ _ h => hQ.panic _ _ _ _ _ h) (.inl ⟨(by kernel_rfl), fun wq hq => (by kernel_rfl)⟩) ?_
                      refine r_take 19 (.int .i64 ((lget w_.Parts (0 : Int)).At)) (RB.pre _ _) rfl (by kernel_rfl) (fun _ _ _ h => hQ.panic _ _ _ _ _ h) (.inl ⟨(by kernel_rfl), fun wq hq => (x_load1 (by kernel_rfl) Tryd.isAgg3 ((CellsAt.rb hc832 (RB.trans er789 hq) (Nat.lt_of_lt_of_eq lt830 z788) (fun h => by cases h)) 1 _ rfl))⟩) ?_
                      refine r_take 20 (.bool (decide (d800.At = ((lget w_.Parts (0 : Int)).At)))) (RB.pre _ _) rfl (by kernel_rfl) (fun _ _ _ h => hQ.panic _ _ _ _ _ h) (.inl ⟨(by kernel_rfl), fun wq hq => (by kernel_rfl)⟩) ?_
                      refine r_take 21 (.bool (decide (d800.At = ((lget w_.Parts (0 : Int)).At)))) (RB.pre _ _) rfl (by kernel_rfl) (fun _ _ _ h => hQ.panic _ _ _ _ _ h) (.inl ⟨rfl, fun wq hq => (by kernel_rfl)⟩) ?_
                      refine r_ready [22] (by kernel_rfl) rfl (all_cons ⟨_, _, _, _, _, _, rfl, ?_⟩ all_nil)
                      refine o_pv (.bool (decide (d800.At = ((lget w_.Parts (0 : Int)).At)))) rfl (by kernel_rfl) ?_
                      refine ⟨fun h => absurd h (by decide), ?_⟩
                      refine r_done (by kernel_rfl) ?_
                      refine then_normal (hJ773 _ _ _ ⟨[(4, (.bool (decide (d800.At = ((lget w_.Parts (0 : Int)).At)))))], fit_mk (fun _ _ => rfl) (by kernel_rfl) (vs_cons (by kernel_rfl) vs_nil), ?_⟩)
                      exact ⟨X651, (decide (d800.At = ((lget w_.Parts (0 : Int)).At))), rfl, E791, hXo792, hS793, gv794, gv795, hp⟩
                    ·
                      replace hp := hp.2 h823
                      refine r_take 9 (.bool false) (RB.pre _ _) rfl (by kernel_rfl) (fun _ _ _ h => hQ.panic _ _ _ _ _ h) (.inl ⟨rfl, fun wq hq => (x_df (p := (d800.Part : ByteArray) = (lget w_.Parts (0 : Int)).Word) (x_streq (by kernel_rfl) (by kernel_rfl)) h823)⟩) ?_
                      refine r_take 10 (.bool false) (RB.pre _ _) rfl (by kernel_rfl) (fun _ _ _ h => hQ.panic _ _ _ _ _ h) (.inl ⟨rfl, fun wq hq => (by kernel_rfl)⟩) ?_
                      refine r_take 11 undef (RB.pre _ _) rfl (by kernel_rfl) (fun _ _ _ h => hQ.panic _ _ _ _ _ h) (.inr ⟨by kernel_rfl, rfl⟩) ?_
                      refine r_take 12 undef (RB.pre _ _) rfl (by kernel_rfl) (fun _ _ _ h => hQ.panic _ _ _ _ _ h) (.inr ⟨by kernel_rfl, rfl⟩) ?_
                      refine r_take 13 undef (RB.pre _ _) rfl (by kernel_rfl) (fun _ _ _ h => hQ.panic _ _ _ _ _ h) (.inr ⟨by kernel_rfl, rfl⟩) ?_
                      refine r_take 14 undef (RB.pre _ _) rfl (by kernel_rfl) (fun _ _ _ h => hQ.panic _ _ _ _ _ h) (.inr ⟨by kernel_rfl, rfl⟩) ?_
                      refine r_take 15 undef (RB.pre _ _) rfl (by kernel_rfl) (fun _ _ _ h => hQ.panic _ _ _ _ _ h) (.inr ⟨by kernel_rfl, rfl⟩) ?_
                      refine r_take 16 undef (RB.pre _ _) rfl (by kernel_rfl) (fun _ _ _ h => hQ.panic _ _ _ _ _ h) (.inr ⟨by kernel_rfl, rfl⟩) ?_
                      refine r_take 17 undef (RB.pre _ _) rfl (by kernel_rfl) (fun _ _ _ h => hQ.panic _ _ _ _ _ h) (.inr ⟨by kernel_rfl, rfl⟩) ?_
                      refine r_take 18 undef (RB.pre _ _) rfl (by kernel_rfl) (fun _ _ _ h => hQ.panic _ _ _ _ _ h) (.inr ⟨by kernel_rfl, rfl⟩) ?_
                      refine r_take 19 undef (RB.pre _ _) rfl (by kernel_rfl) (fun _ _ _ h => hQ.panic _ _ _ _ _ h) (.inr ⟨by kernel_rfl, rfl⟩) ?_
                      refine r_take 20 undef (RB.pre _ _) rfl (by kernel_rfl) (fun _ _ _ h => hQ.panic _ _ _ _ _ h) (.inr ⟨by kernel_rfl, rfl⟩) ?_
                      refine r_take 21 (.bool false) (RB.pre _ _) rfl (by kernel_rfl) (fun _ _ _ h => hQ.panic _ _ _ _ _ h) (.inl ⟨rfl, fun wq hq => (by kernel_rfl)⟩) ?_
                      refine r_ready [22] (by kernel_rfl) rfl (all_cons ⟨_, _, _, _, _, _, rfl, ?_⟩ all_nil)
                      refine o_pv (.bool false) rfl (by kernel_rfl) ?_
                      refine ⟨fun h => absurd h (by decide), ?_⟩
                      refine r_done (by kernel_rfl) ?_
                      refine then_normal (hJ773 _ _ _ ⟨[(4, (.bool false))], fit_mk (fun _ _ => rfl) (by kernel_rfl) (vs_cons (by kernel_rfl) vs_nil), ?_⟩)
                      exact ⟨X651, false, rfl, E791, hXo792, hS793, gv794, gv795, hp⟩
                  ·
                    rintro _ w770 g835 ⟨X771, s767, rfl, E775, hXo776, hS777, gv778, gv779, hv774⟩
                    replace hp := hk769 s767 hv774
                    refine then_normal (K711 _ _ _ _ ?_)
                    refine wp_ret ?_
                    refine end_ret hQ (.bool s767) (by kernel_rfl) ?_
                    exact ⟨s767, hp, E775, rfl⟩

def rectoref11_Equal_p (a : (List ByteArray)) (b : (List ByteArray)) (Q : Bool → Prop) : Prop :=
  ((a.length ≤ 9223372036854775807) → ((b.length ≤ 9223372036854775807) → (((¬ ((a.length : Int) = (b.length : Int))) → Q false) ∧ (((a.length : Int) = (b.length : Int)) → (∃ (I57 : Int → Prop) (m58 : Int → Nat), (I57 (0 : Int)) ∧ (∀ (i14 : Int), (I57 i14) → (inR .i64 i14) → (((i14 < (a.length : Int)) → ((inL a i14) ∧ (((lget a i14).size ≤ maxLen) → ((inL b i14) ∧ (((lget b i14).size ≤ maxLen) → (((¬ ((lget a i14 : ByteArray) = lget b i14)) → Q false) ∧ (((lget a i14 : ByteArray) = lget b i14) → ((inR .i64 (i14 + (1 : Int))) ∧ ((I57 (i14 + (1 : Int))) ∧ m58 (i14 + (1 : Int)) < m58 i14))))))))) ∧ ((¬ (i14 < (a.length : Int))) → Q true))))))))
set_option maxRecDepth 20000 in
set_option maxHeartbeats 4000000 in
theorem rectoref11_Equal_w {X : List Nat} {w : World} {a : (List ByteArray)} {b : (List ByteArray)} {aa1 : Option Addr} {ca2 : Nat} {ab4 : Option Addr} {cb5 : Nat} {Q : Bool → Prop} (hX0 : Old X w) (ha3 : Sl rStr X w aa1 ca2 a) (hb6 : Sl rStr X w ab4 cb5 b) (hp : rectoref11_Equal_p a b Q) :
    Calls Tryd.prog 29 #[(.slice aa1 a.length ca2), (.slice ab4 b.length cb5)] w (Ret fun v w' => ∃ (r0 : Bool), Q r0 ∧ Evo [] w w' ∧ v = (.bool r0)) := by
  have hXo := hX0
  have E0 : Evo [] w w := RB.refl _ _ _
  have hS : Sub X X := Sub.refl _
  unfold rectoref11_Equal_p at hp
  refine enter_ Tryd.func29 rfl 26 [(0, (.slice aa1 a.length ca2)), (1, (.slice ab4 b.length cb5))] (by kernel_rfl) (fun Qe hQ => ?_)
  replace hp := hp (Sl.len ha3)
  replace hp := hp (Sl.len hb6)
  refine seq_ (fun _ K7 => ?_)
  refine reg_ ?_
  refine sq (o_pv (.bool false) rfl (by kernel_rfl) ?_)
  refine nil_ ?_
  refine then_normal (K7 _ _ _ _ ?_)
  refine seq_ (fun _ K8 => ?_)
  refine seq_ (fun _ K9 => ?_)
  refine reg_ ?_
  refine sq (o_pv (.slice aa1 a.length ca2) rfl (by kernel_rfl) ?_)
  refine sq (o_pv (.int .i64 (a.length : Int)) rfl (by kernel_rfl) ?_)
  refine sq (o_pv (.slice ab4 b.length cb5) rfl (by kernel_rfl) ?_)
  refine sq (o_pv (.int .i64 (b.length : Int)) rfl (by kernel_rfl) ?_)
  refine sq (o_pv (.bool (!decide ((a.length : Int) = (b.length : Int)))) rfl (by kernel_rfl) ?_)
  refine nil_ ?_
  refine then_normal (K9 _ _ _ _ ?_)
  refine cond_nd ((a.length : Int) = (b.length : Int)) (by kernel_rfl) (fun h10 => ?_) (fun h10 => ?_)
  ·
    replace hp := hp.1 h10
    refine seq_ (fun _ K11 => ?_)
    refine reg_ ?_
    refine sq (o_pv (.bool false) rfl (by kernel_rfl) ?_)
    refine nil_ ?_
    refine then_normal (K11 _ _ _ _ ?_)
    refine wp_ret ?_
    refine then_ret ?_
    refine end_ret hQ (.bool false) (by kernel_rfl) ?_
    exact ⟨false, hp, E0, rfl⟩
  ·
    replace hp := hp.2 h10
    refine wp_skip ?_
    refine then_normal (K8 _ _ _ _ ?_)
    refine seq_ (fun _ K12 => ?_)
    refine seq_ (fun _ K13 => ?_)
    refine reg_ ?_
    refine sq (o_pv (.int .i64 (0 : Int)) rfl (by kernel_rfl) ?_)
    refine nil_ ?_
    refine then_normal (K13 _ _ _ _ ?_)
    refine wp_block ?_
    obtain ⟨I57, m58, hI59, hp⟩ := hp
    refine loop_ 67106864 (fun kq lq w61 => ∃ (X62 : List Nat) (i14 : Int), (lq = [(5, (.int .i64 i14))]) ∧ (kq = m58 i14) ∧ (Evo [] w w61) ∧ (Old X62 w61) ∧ (Sub X X62) ∧ (Sl rStr X62 w61 aa1 ca2 a) ∧ (Sl rStr X62 w61 ab4 cb5 b) ∧ (inR .i64 i14) ∧ (I57 i14)) (m58 (0 : Int)) [(5, (.int .i64 (0 : Int)))] (vs_cons (by kernel_rfl) vs_nil) ⟨X, (0 : Int), rfl, rfl, E0, hXo, hS, ha3, hb6, (by decide), hI59⟩ ?_
    rintro _ _ w61 g64 ⟨X62, i14, rfl, rfl, E67, hXo68, hS69, ha70, hb71, ri15, hI60⟩ Kl65 hA66
    replace hp := hp i14 hI60 ri15
    refine seq_ (fun _ K72 => ?_)
    refine seq_ (fun _ K73 => ?_)
    refine reg_ ?_
    refine sq (o_pv (.int .i64 i14) rfl (by kernel_rfl) ?_)
    refine sq (o_pv (.slice aa1 a.length ca2) rfl (by kernel_rfl) ?_)
    refine sq (o_pv (.int .i64 (a.length : Int)) rfl (by kernel_rfl) ?_)
    refine sq (o_pv (.bool (decide (i14 < (a.length : Int)))) rfl (by kernel_rfl) ?_)
    refine nil_ ?_
    refine then_normal (K73 _ _ _ _ ?_)
    refine cond_d (i14 < (a.length : Int)) (by kernel_rfl) (fun h74 => ?_) (fun h74 => ?_)
    ·
      replace hp := hp.1 h74
      refine wp_skip ?_
      refine then_normal (K72 _ _ _ _ ?_)
      refine seq_ (fun _ K75 => ?_)
      refine wp_block ?_
      refine seq_ (fun _ K76 => ?_)
      refine reg_drawn (RB w61.heap.size []) 9 (by kernel_rfl) (fun w77 hd78 => ?_)
      have e79 := Evo.of_drew hd78
      have z80 : w77.heap.size = w61.heap.size := by rw [hd78]
      clear hd78
      have s82 := Step.of0 X62 e79
      have er81 := RB.refl w61.heap.size [] w77
      have E83 := (Evo.then0 E67 (Step.evo s82))
      have hXo84 := (Old.step hXo68 s82)
      have hS85 := (Sub.trans hS69 (Step.up s82))
      have ha86 := (Sl.step ha70 s82)
      have hb87 := (Sl.step hb71 s82)
      refine r_take 0 (.slice aa1 a.length ca2) (RB.pre _ _) rfl (by kernel_rfl) (fun _ _ _ h => hQ.panic _ _ _ _ _ h) (.inl ⟨rfl, fun wq hq => (by kernel_rfl)⟩) ?_
      refine r_take 1 (.int .i64 i14) (RB.pre _ _) rfl (by kernel_rfl) (fun _ _ _ h => hQ.panic _ _ _ _ _ h) (.inl ⟨rfl, fun wq hq => (by kernel_rfl)⟩) ?_
      obtain ⟨h88, hp⟩ := hp
      obtain ⟨b89, o90, cs91, ha92, nx93, lt94, ok95, hc96⟩ := Sl.atI ha86 i14 h88
      obtain ⟨rfl, ze97⟩ := ok95
      replace hp := hp ze97
      refine r_take 2 (.pointer (some ⟨b89, o90 + i14.toNat * 1, none⟩)) (RB.pre _ _) rfl (by kernel_rfl) (fun _ _ _ h => hQ.panic _ _ _ _ _ h) (.inl ⟨rfl, fun wq hq => (x_ixA (m := a.length) (c := ca2) (k := .i64) (i := i14) Tryd.underlying39 Tryd.sizeOf9 (by rw [← ha92]; kernel_rfl) (by kernel_rfl) h88)⟩) ?_
      refine r_take 3 (.string (lget a i14)) (RB.pre _ _) rfl (by kernel_rfl) (fun _ _ _ h => hQ.panic _ _ _ _ _ h) (.inl ⟨rfl, fun wq hq => (x_load1 (by kernel_rfl) Tryd.isAgg9 ((CellsAt.rb hc96 (RB.trans er81 hq) (Nat.lt_of_lt_of_eq lt94 z80) (fun h => by cases h)) 0 _ rfl))⟩) ?_
      refine r_take 4 (.slice ab4 b.length cb5) (RB.pre _ _) rfl (by kernel_rfl) (fun _ _ _ h => hQ.panic _ _ _ _ _ h) (.inl ⟨rfl, fun wq hq => (by kernel_rfl)⟩) ?_
      refine r_take 5 (.int .i64 i14) (RB.pre _ _) rfl (by kernel_rfl) (fun _ _ _ h => hQ.panic _ _ _ _ _ h) (.inl ⟨rfl, fun wq hq => (by kernel_rfl)⟩) ?_
      obtain ⟨h98, hp⟩ := hp
      obtain ⟨b99, o100, cs101, ha102, nx103, lt104, ok105, hc106⟩ := Sl.atI hb87 i14 h98
      obtain ⟨rfl, ze107⟩ := ok105
      replace hp := hp ze107
      refine r_take 6 (.pointer (some ⟨b99, o100 + i14.toNat * 1, none⟩)) (RB.pre _ _) rfl (by kernel_rfl) (fun _ _ _ h => hQ.panic _ _ _ _ _ h) (.inl ⟨rfl, fun wq hq => (x_ixA (m := b.length) (c := cb5) (k := .i64) (i := i14) Tryd.underlying39 Tryd.sizeOf9 (by rw [← ha102]; kernel_rfl) (by kernel_rfl) h98)⟩) ?_
      refine r_take 7 (.string (lget b i14)) (RB.pre _ _) rfl (by kernel_rfl) (fun _ _ _ h => hQ.panic _ _ _ _ _ h) (.inl ⟨rfl, fun wq hq => (x_load1 (by kernel_rfl) Tryd.isAgg9 ((CellsAt.rb hc106 (RB.trans er81 hq) (Nat.lt_of_lt_of_eq lt104 z80) (fun h => by cases h)) 0 _ rfl))⟩) ?_
      refine r_take 8 (.bool (!decide ((lget a i14 : ByteArray) = lget b i14))) (RB.pre _ _) rfl (by kernel_rfl) (fun _ _ _ h => hQ.panic _ _ _ _ _ h) (.inl ⟨rfl, fun wq hq => (x_strne (by kernel_rfl) (by kernel_rfl))⟩) ?_
      refine r_done (by kernel_rfl) ?_
      refine then_normal (K76 _ _ _ _ ?_)
      refine cond_nd ((lget a i14 : ByteArray) = lget b i14) (by kernel_rfl) (fun h108 => ?_) (fun h108 => ?_)
      ·
        replace hp := hp.1 h108
        refine seq_ (fun _ K109 => ?_)
        refine reg_ ?_
        refine sq (o_pv (.bool false) rfl (by kernel_rfl) ?_)
        refine nil_ ?_
        refine then_normal (K109 _ _ _ _ ?_)
        refine wp_ret ?_
        refine blk_ret ?_
        refine then_ret ?_
        refine then_ret ?_
        refine blk_ret ?_
        refine then_ret ?_
        refine end_ret hQ (.bool false) (by kernel_rfl) ?_
        exact ⟨false, hp, E83, rfl⟩
      ·
        replace hp := hp.2 h108
        refine wp_skip ?_
        refine blk_normal ?_
        refine then_normal (K75 _ _ _ _ ?_)
        refine reg_ ?_
        refine sq (o_pv (.int .i64 i14) rfl (by kernel_rfl) ?_)
        obtain ⟨h110, hp⟩ := hp
        refine sq (o_pv (.int .i64 (i14 + (1 : Int))) rfl (x_add2 (k := .i64) (a := i14) (b := (1 : Int)) (i14 + (1 : Int)) (by kernel_rfl) (by kernel_rfl) (wrap_inR h110)) ?_)
        refine sq (o_pv (.int .i64 (i14 + (1 : Int))) rfl (by kernel_rfl) ?_)
        refine nil_ ?_
        refine then_normal (hA66 _ _ _ ⟨_, [(5, (.int .i64 (i14 + (1 : Int))))], hp.2, fit_mk (AgB.mix _ _ _) (by kernel_rfl) (vs_cons (by kernel_rfl) vs_nil), ?_⟩)
        exact ⟨X62, (i14 + (1 : Int)), rfl, rfl, E83, hXo84, hS85, ha86, hb87, h110, hp.1⟩
    ·
      replace hp := hp.2 h74
      refine wp_exit ?_
      refine then_exit ?_
      refine then_exit ?_
      refine blk_exit ?_
      refine then_normal (K12 _ _ _ _ ?_)
      refine seq_ (fun _ K111 => ?_)
      refine reg_ ?_
      refine sq (o_pv (.bool true) rfl (by kernel_rfl) ?_)
      refine nil_ ?_
      refine then_normal (K111 _ _ _ _ ?_)
      refine wp_ret ?_
      refine end_ret hQ (.bool true) (by kernel_rfl) ?_
      exact ⟨true, hp, E67, rfl⟩

end Go.Proofs.YtjejeipdndddpaaDoor
