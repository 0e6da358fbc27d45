/- Walks of functions: what each asks and computes, as a plain predicate, and the contract from it. -/
import Derived.Test.YtljbaoehhnljlaaRRRRDoorChecked
import Derived.Test.YtljbaoehhnljlaaRRRRDoorCs2
import Derived.Test.YtljbaoehhnljlaaRRRRDoorLib
import Derived.Test.YtljbaoehhnljlaaRRRRDoorShelf
namespace Go.Proofs.YtljbaoehhnljlaaRRRRDoor
open Go


def errors_Is_p (err : PErr) (target : Int) (Q : Bool → Prop) : Prop :=
  ((inR .i64 target) → (((err.isNil = true) → (((err.isNil = true) → Q false) ∧ ((¬ (err.isNil = true)) → (((err.isNo = true) → (∀ n18 : Int, err = PErr.no n18 → ((inR .i64 n18) → Q (decide (n18 = target))))) ∧ ((¬ (err.isNo = true)) → (∀ (part21 : ByteArray) (at22 n23 : Int), err = PErr.fault part21 at22 n23 → ((part21.size ≤ maxLen) → ((inR .i64 at22) → ((inR .i64 n23) → Q false))))))))) ∧ ((¬ (err.isNil = true)) → (errors_is_p err target true (fun (r32 : Bool) => Q r32)))))
set_option maxRecDepth 20000 in
set_option maxHeartbeats 4000000 in
theorem errors_Is_w {X : List Nat} {w : World} {err : PErr} {target : Int} {verr1 : Value} {Q : Bool → Prop} (hX0 : Old X w) (herr2 : (rErr 25 82 84).ok X w ([verr1]) err) (rtarget3 : inR .i64 target) (hp : errors_Is_p err target Q) :
    Calls Tryd.prog 46 #[verr1, (.iface 25 (.int .i64 target))] w (Ret fun v w' => ∃ (r0 : Bool), Q r0 ∧ Evo [] w w' ∧ v = (.bool r0)) := by
  have hXo := hX0
  have E0 : Evo [] w w := RB.refl _ _ _
  have hS : Sub X X := Sub.refl _
  unfold errors_Is_p at hp
  refine enter_ Tryd.func46 rfl 22 [(0, verr1), (1, (.iface 25 (.int .i64 target)))] (by kernel_rfl) (fun Qe hQ => ?_)
  replace hp := hp rtarget3
  refine seq_ (fun _ K4 => ?_)
  refine reg_ ?_
  refine sq (o_pv (.bool false) rfl (by kernel_rfl) ?_)
  refine nil_ ?_
  refine then_normal (K4 _ _ _ _ ?_)
  refine seq_ (fun _ K5 => ?_)
  refine seq_ (fun _ K6 => ?_)
  refine ground_ ?_
  refine join_ 4032 (fun lq w10 => lq = [(11, (.bool (decide (err.isNil = true))))] ∧ w = w10) (fun Kj8 hJ9 => ?_) ?_
  ·
    refine reg_ ?_
    refine sq (o_pv verr1 rfl (by kernel_rfl) ?_)
    by_cases h12 : err.isNil = true
    ·
      refine sq (o_pv (.bool true) rfl (x_bt (x_err_eq err herr2 Tryd.underlying39 (by kernel_rfl)) h12) ?_)
      refine sq (o_pv (.bool true) rfl (by kernel_rfl) ?_)
      refine sq (o_not (by kernel_rfl) ?_)
      refine sq (o_not (by kernel_rfl) ?_)
      refine sq (o_pv (.bool true) rfl (by kernel_rfl) ?_)
      refine nil_ ?_
      refine then_normal (hJ9 _ _ _ ⟨[(11, (.bool (decide (err.isNil = true))))], fit_mk (fun _ _ => rfl) (by kernel_rfl) (vs_cons (Eq.trans (b := (.bool true)) (by kernel_rfl) (dec_t (iff_true_intro h12)).symm) vs_nil), rfl, rfl⟩)
    ·
      refine sq (o_pv (.bool false) rfl (x_bf (x_err_eq err herr2 Tryd.underlying39 (by kernel_rfl)) h12) ?_)
      refine sq (o_pv (.bool false) rfl (by kernel_rfl) ?_)
      refine sq (o_pv (.iface 25 (.int .i64 target)) (by kernel_rfl) (by kernel_rfl) ?_)
      refine sq (o_pv (.bool false) (by kernel_rfl) (x_inil_eq (tp := 25) (v := (.int .i64 target)) Tryd.underlying39 (by kernel_rfl) (by kernel_rfl)) ?_)
      refine sq (o_pv (.bool false) rfl (by kernel_rfl) ?_)
      refine nil_ ?_
      refine then_normal (hJ9 _ _ _ ⟨[(11, (.bool (decide (err.isNil = true))))], fit_mk (fun _ _ => rfl) (by kernel_rfl) (vs_cons (Eq.trans (b := (.bool false)) (by kernel_rfl) (dec_f (iff_false_intro h12)).symm) vs_nil), rfl, rfl⟩)
  ·
    rintro _ w10 g11 ⟨rfl, hw⟩
    subst hw
    refine then_normal (K6 _ _ _ _ ?_)
    refine cond_d (err.isNil = true) (by kernel_rfl) (fun h13 => ?_) (fun h13 => ?_)
    ·
      replace hp := hp.1 h13
      refine seq_ (fun _ K14 => ?_)
      refine reg_ ?_
      refine sq (o_pv verr1 rfl (by kernel_rfl) ?_)
      refine sq (o_pv (.iface 25 (.int .i64 target)) rfl (by kernel_rfl) ?_)
      by_cases h15 : err.isNil = true
      ·
        replace hp := hp.1 h15
        have hc17 := isNil_eq h15
        rw [hc17] at herr2
        obtain rfl := rErr_inv_nil herr2
        refine sq (o_pv (.bool false) rfl (x_if_nil (t := 25) (v := (.int .i64 target)) Tryd.underlying39 (by kernel_rfl) (by kernel_rfl)) ?_)
        refine sq (o_pv (.bool false) rfl (by kernel_rfl) ?_)
        refine nil_ ?_
        refine then_normal (K14 _ _ _ _ ?_)
        refine wp_ret ?_
        refine then_ret ?_
        refine end_ret hQ (.bool false) (by kernel_rfl) ?_
        exact ⟨false, hp, E0, rfl⟩
      ·
        replace hp := hp.2 h15
        by_cases h16 : err.isNo = true
        ·
          replace hp := hp.1 h16
          obtain ⟨n18, hc19⟩ := isNo_eq h16
          replace hp := hp n18 hc19
          rw [hc19] at herr2
          obtain ⟨rfl, r20⟩ := rErr_inv_no herr2
          replace hp := hp r20
          refine sq (o_pv (.bool (decide (n18 = target))) rfl (x_if_num (k := .i64) (a := n18) (b := target) (i := Tryd.t25) Tryd.underlying39 Tryd.underlying25 (by kernel_rfl) rfl (by kernel_rfl) (by kernel_rfl)) ?_)
          refine sq (o_pv (.bool (decide (n18 = target))) rfl (by kernel_rfl) ?_)
          refine nil_ ?_
          refine then_normal (K14 _ _ _ _ ?_)
          refine wp_ret ?_
          refine then_ret ?_
          refine end_ret hQ (.bool (decide (n18 = target))) (by kernel_rfl) ?_
          exact ⟨(decide (n18 = target)), hp, E0, rfl⟩
        ·
          replace hp := hp.2 h16
          obtain ⟨part21, at22, n23, hc24⟩ := isFault_eq h15 h16
          replace hp := hp part21 at22 n23 hc24
          rw [hc24] at herr2
          obtain ⟨b25, rfl, k26, z27, r28, r29⟩ := rErr_inv_fault herr2
          replace hp := hp z27
          replace hp := hp r28
          replace hp := hp r29
          refine sq (o_pv (.bool false) rfl (x_if_ne (tx := 82) (vx := (.pointer (some ⟨b25, 0, none⟩))) (ty' := 25) (vy := (.int .i64 target)) Tryd.underlying39 (by kernel_rfl) (by kernel_rfl) rfl) ?_)
          refine sq (o_pv (.bool false) rfl (by kernel_rfl) ?_)
          refine nil_ ?_
          refine then_normal (K14 _ _ _ _ ?_)
          refine wp_ret ?_
          refine then_ret ?_
          refine end_ret hQ (.bool false) (by kernel_rfl) ?_
          exact ⟨false, hp, E0, rfl⟩
    ·
      replace hp := hp.2 h13
      refine wp_skip ?_
      refine then_normal (K5 _ _ _ _ ?_)
      refine seq_ (fun _ K30 => ?_)
      refine reg_ ?_
      refine sq (o_pv (.iface 25 (.int .i64 target)) rfl (by kernel_rfl) ?_)
      refine sq (o_pv (.iface 132 (.agg #[typeHandle Tryd.prog 25])) rfl (x_ext Tryd.func64 (by kernel_rfl) (by kernel_rfl) (by kernel_rfl) (show _ = some Extern.ReflectliteType.typeOf by kernel_rfl) #[(.iface 25 (.int .i64 target))] (by kernel_rfl) (by kernel_rfl)) ?_)
      refine sq (o_pv (.bool true) rfl (x_invext (t := 132) (v := (.agg #[typeHandle Tryd.prog 25])) (r := (.agg #[typeHandle Tryd.prog 25])) (by kernel_rfl) (fun _ => by kernel_rfl) Tryd.func117 (by kernel_rfl) (by kernel_rfl) (by kernel_rfl) (show _ = some (Extern.ReflectliteType.method fun t => do Extern.Rtype.noPackHeld "Comparable" t; pure (.bool (← typeInfo t).comparable)) by kernel_rfl) #[(.agg #[typeHandle Tryd.prog 25])] (by kernel_rfl) (by kernel_rfl)) ?_)
      refine sq (o_pv (.bool true) rfl (by kernel_rfl) ?_)
      refine nil_ ?_
      refine then_normal (K30 _ _ _ _ ?_)
      refine seq_ (fun _ K31 => ?_)
      refine reg_ ?_
      refine sq (o_pv verr1 rfl (by kernel_rfl) ?_)
      refine sq (o_pv (.iface 25 (.int .i64 target)) rfl (by kernel_rfl) ?_)
      refine sq (o_pv (.bool true) rfl (by kernel_rfl) ?_)
      refine sq (o_call 65 #[verr1, (.iface 25 (.int .i64 target)), (.bool true)] rfl (x_call Tryd.call65 (by kernel_rfl)) (errors_is_w (X := []) (err := err) (target := target) (targetComparable := true) (Old.nil _) (Rep.less (rErr 25 82 84) herr2 (Sub.nil _)) rtarget3 hp) ?_)
      rintro _ w33 ⟨r32, hp, e34, rfl⟩
      have s35 := Step.of0 X e34
      refine sq (o_pv (.bool r32) rfl (by kernel_rfl) ?_)
      refine nil_ ?_
      refine then_normal (K31 _ _ _ _ ?_)
      refine wp_ret ?_
      have E36 := (Evo.then0 E0 e34)
      refine end_ret hQ (.bool r32) (by kernel_rfl) ?_
      exact ⟨r32, hp, E36, rfl⟩

/-- strconv.Itoa of a number of one digit or two. -/
def strconv_Itoa_p (i : Int) (Q : ByteArray → Prop) : Prop := ∃ k : Nat, i = (k : Int) ∧ k < 100 ∧ Q ⟨(Lib.decDigits k).toArray⟩
theorem decDigits_small {k : Nat} (h : k < 100) : (Lib.decDigits k).length ≤ 2 := by
  rw [Lib.decDigits]
  split
  · simp
  · rw [Lib.decDigits, dif_pos (by omega)]; simp
theorem strconv_Itoa_w {X : List Nat} {w : World} {i : Int} {Q : ByteArray → Prop} (_hX0 : Old X w) (_hi : inR .i64 i) (hp : strconv_Itoa_p i Q) :
    Calls Tryd.prog 52 #[(.int .i64 i)] w (Ret fun v w' => ∃ r0 : ByteArray, Q r0 ∧ Evo [] w w' ∧ v = (.string r0) ∧ r0.size ≤ maxLen) := by
  obtain ⟨k, rfl, hk, hq⟩ := hp
  refine (Tryd.strconv_Itoa_small k hk w).mono ?_
  rintro e w' ⟨rfl, rfl⟩
  have hl := decDigits_small hk
  refine ⟨_, rfl, _, hq, RB.refl _ _ _, rfl, ?_⟩
  show (Lib.decDigits k).toArray.size ≤ _
  rw [List.size_toArray]
  exact Nat.le_trans hl (by decide)

def api_Fault_Error_p0 (R : S_api_Fault → (ByteArray → Prop) → Prop) (f_ : S_api_Fault) (Q : ByteArray → Prop) : Prop :=
  ((f_.Part.size ≤ maxLen) → ((inR .i64 f_.At) → (((f_.Err.isNil = true) → (((f_.Part ++ (ByteArray.mk #[32])).size ≤ maxLen) ∧ (strconv_Itoa_p f_.At (fun (r24 : ByteArray) => ((r24.size ≤ maxLen) → ((((f_.Part ++ (ByteArray.mk #[32])) ++ r24).size ≤ maxLen) ∧ Q ((f_.Part ++ (ByteArray.mk #[32])) ++ r24))))))) ∧ ((f_.Err.isNil = false) → (((f_.Part ++ (ByteArray.mk #[32])).size ≤ maxLen) ∧ (strconv_Itoa_p f_.At (fun (r45 : ByteArray) => ((r45.size ≤ maxLen) → ((((f_.Part ++ (ByteArray.mk #[32])) ++ r45).size ≤ maxLen) ∧ (((((f_.Part ++ (ByteArray.mk #[32])) ++ r45) ++ (ByteArray.mk #[58, 32])).size ≤ maxLen) ∧ (((f_.Err.isNil = true) → False) ∧ ((¬ (f_.Err.isNil = true)) → (((f_.Err.isNo = true) → (∀ n56 : Int, f_.Err = PErr.no n56 → ((inR .i64 n56) → (api_Errno_Error_p n56 (fun (r59 : ByteArray) => ((r59.size ≤ maxLen) → ((((((f_.Part ++ (ByteArray.mk #[32])) ++ r45) ++ (ByteArray.mk #[58, 32])) ++ r59).size ≤ maxLen) ∧ Q ((((f_.Part ++ (ByteArray.mk #[32])) ++ r45) ++ (ByteArray.mk #[58, 32])) ++ r59)))))))) ∧ ((¬ (f_.Err.isNo = true)) → (∀ (part67 : ByteArray) (at68 n69 : Int), f_.Err = PErr.fault part67 at68 n69 → ((part67.size ≤ maxLen) → ((inR .i64 at68) → ((inR .i64 n69) → (R (S_api_Fault.mk part67 at68 (PErr.no n69)) (fun (r77 : ByteArray) => ((r77.size ≤ maxLen) → ((((((f_.Part ++ (ByteArray.mk #[32])) ++ r45) ++ (ByteArray.mk #[58, 32])) ++ r77).size ≤ maxLen) ∧ Q ((((f_.Part ++ (ByteArray.mk #[32])) ++ r45) ++ (ByteArray.mk #[58, 32])) ++ r77)))))))))))))))))))))))
set_option maxRecDepth 20000 in
set_option maxHeartbeats 4000000 in
theorem api_Fault_Error_w0 {R : S_api_Fault → (ByteArray → Prop) → Prop} (hR : ∀ {X : List Nat} {w : World} {f_ : S_api_Fault} {bf_1 : Nat} {vf_Err5 : Value} {Q : ByteArray → Prop} (hX0 : Old X w) (kf_2 : RO X w bf_1 [(.string f_.Part), (.int .i64 f_.At), vf_Err5] 84) (zf_Part3 : f_.Part.size ≤ maxLen) (rf_At4 : inR .i64 f_.At) (hf_Err6 : (rErr 25 82 84).ok X w ([vf_Err5]) f_.Err) (_hp : R f_ Q), Calls Tryd.prog 109 #[(.pointer (some ⟨bf_1, 0, none⟩))] w (Ret fun v w' => ∃ (r0 : ByteArray), Q r0 ∧ Evo [] w w' ∧ v = (.string r0) ∧ r0.size ≤ maxLen)) {X : List Nat} {w : World} {f_ : S_api_Fault} {bf_1 : Nat} {vf_Err5 : Value} {Q : ByteArray → Prop} (hX0 : Old X w) (kf_2 : RO X w bf_1 [(.string f_.Part), (.int .i64 f_.At), vf_Err5] 84) (zf_Part3 : f_.Part.size ≤ maxLen) (rf_At4 : inR .i64 f_.At) (hf_Err6 : (rErr 25 82 84).ok X w ([vf_Err5]) f_.Err) (hp : api_Fault_Error_p0 R f_ Q) :
    Calls Tryd.prog 109 #[(.pointer (some ⟨bf_1, 0, none⟩))] w (Ret fun v w' => ∃ (r0 : ByteArray), Q r0 ∧ Evo [] w w' ∧ v = (.string r0) ∧ r0.size ≤ maxLen) := by
  have hXo := hX0
  have E0 : Evo [] w w := RB.refl _ _ _
  have hS : Sub X X := Sub.refl _
  unfold api_Fault_Error_p0 at hp
  refine enter_ Tryd.func109 rfl 37 [(0, (.pointer (some ⟨bf_1, 0, none⟩)))] (by kernel_rfl) (fun Qe hQ => ?_)
  replace hp := hp zf_Part3
  replace hp := hp rf_At4
  refine seq_ (fun _ K7 => ?_)
  refine reg_ ?_
  refine sq (o_pv (.string (ByteArray.mk #[])) rfl (by kernel_rfl) ?_)
  refine nil_ ?_
  refine then_normal (K7 _ _ _ _ ?_)
  refine seq_ (fun _ K8 => ?_)
  refine seq_ (fun _ K9 => ?_)
  refine reg_ ?_
  refine sq (o_pv (.pointer (some ⟨bf_1, 0, none⟩)) rfl (by kernel_rfl) ?_)
  refine sq (o_pv (.pointer (some ⟨bf_1, 0, none⟩)) rfl (by kernel_rfl) ?_)
  refine sq (o_pv (.pointer (some ⟨bf_1, 2, none⟩)) rfl (by kernel_rfl) ?_)
  refine sq (o_pv vf_Err5 rfl (x_load1 (by kernel_rfl) Tryd.isAgg39 (kf_2.2.cell' 2 rfl)) ?_)
  refine sq (o_pv (.bool f_.Err.isNil) rfl (x_err_eq f_.Err hf_Err6 Tryd.underlying39 (by kernel_rfl)) ?_)
  refine nil_ ?_
  refine then_normal (K9 _ _ _ _ ?_)
  refine cond_b f_.Err.isNil (by kernel_rfl) (fun h10 => ?_) (fun h10 => ?_)
  ·
    replace hp := hp.1 h10
    refine seq_ (fun _ K11 => ?_)
    refine reg_drawn (RB w.heap.size []) 11 (by kernel_rfl) (fun w12 hd13 => ?_)
    have e14 := Evo.of_drew hd13
    have z15 : w12.heap.size = w.heap.size := by rw [hd13]
    clear hd13
    have s17 := Step.of0 X e14
    have er16 := RB.refl w.heap.size [] w12
    have kf_18 := (RO.step kf_2 s17)
    have hf_Err19 := (Rep.step (rErr 25 82 84) hf_Err6 s17)
    have hXo20 := (Old.step hXo s17)
    have E21 := (Evo.then0 E0 (Step.evo s17))
    have hS22 := (Sub.trans hS (Step.up s17))
    refine r_take 0 (.pointer (some ⟨bf_1, 0, none⟩)) (RB.pre _ _) rfl (by kernel_rfl) (fun _ _ _ h => hQ.panic _ _ _ _ _ h) (.inl ⟨rfl, fun wq hq => (by kernel_rfl)⟩) ?_
    refine r_take 1 (.pointer (some ⟨bf_1, 0, none⟩)) (RB.pre _ _) rfl (by kernel_rfl) (fun _ _ _ h => hQ.panic _ _ _ _ _ h) (.inl ⟨rfl, fun wq hq => (by kernel_rfl)⟩) ?_
    refine r_take 2 (.pointer (some ⟨bf_1, 0, none⟩)) (RB.pre _ _) rfl (by kernel_rfl) (fun _ _ _ h => hQ.panic _ _ _ _ _ h) (.inl ⟨rfl, fun wq hq => (by kernel_rfl)⟩) ?_
    refine r_take 3 (.string f_.Part) (RB.pre _ _) rfl (by kernel_rfl) (fun _ _ _ h => hQ.panic _ _ _ _ _ h) (.inl ⟨rfl, fun wq hq => (x_load1 (by kernel_rfl) Tryd.isAgg9 ((Blk.rb kf_18.2 (RB.trans er16 hq) (Nat.lt_of_lt_of_eq (Blk.lt kf_18.2) z15) (fun h => by cases h)).cell' 0 rfl))⟩) ?_
    obtain ⟨h23, hp⟩ := hp
    refine r_take 4 (.string (f_.Part ++ (ByteArray.mk #[32]))) (RB.pre _ _) rfl (by kernel_rfl) (fun _ _ _ h => hQ.panic _ _ _ _ _ h) (.inl ⟨rfl, fun wq hq => (x_cat (by kernel_rfl) (by kernel_rfl) h23)⟩) ?_
    refine r_take 5 (.pointer (some ⟨bf_1, 0, none⟩)) (RB.pre _ _) rfl (by kernel_rfl) (fun _ _ _ h => hQ.panic _ _ _ _ _ h) (.inl ⟨rfl, fun wq hq => (by kernel_rfl)⟩) ?_
    refine r_take 6 (.pointer (some ⟨bf_1, 0, none⟩)) (RB.pre _ _) rfl (by kernel_rfl) (fun _ _ _ h => hQ.panic _ _ _ _ _ h) (.inl ⟨rfl, fun wq hq => (by kernel_rfl)⟩) ?_
    refine r_take 7 (.pointer (some ⟨bf_1, 1, none⟩)) (RB.pre _ _) rfl (by kernel_rfl) (fun _ _ _ h => hQ.panic _ _ _ _ _ h) (.inl ⟨rfl, fun wq hq => (by kernel_rfl)⟩) ?_
    refine r_take 8 (.int .i64 f_.At) (RB.pre _ _) rfl (by kernel_rfl) (fun _ _ _ h => hQ.panic _ _ _ _ _ h) (.inl ⟨rfl, fun wq hq => (x_load1 (by kernel_rfl) Tryd.isAgg3 ((Blk.rb kf_18.2 (RB.trans er16 hq) (Nat.lt_of_lt_of_eq (Blk.lt kf_18.2) z15) (fun h => by cases h)).cell' 1 rfl))⟩) ?_
    refine r_ready [9] (by kernel_rfl) rfl (all_cons ⟨_, _, _, _, _, _, rfl, ?_⟩ all_nil)
    refine o_call 52 #[(.int .i64 f_.At)] rfl (x_call Tryd.call52 (by kernel_rfl)) (strconv_Itoa_w (X := []) (i := f_.At) (Old.nil _) rf_At4 hp) ?_
    rintro _ w25 ⟨r24, hp, e26, rfl, zr28⟩
    have rm := RB.mono (F' := []) e26 (Nat.le_trans (Nat.le_of_eq z15.symm) (RB.size er16)) (fun _ h => by cases h)
    have er29 := RB.trans er16 rm
    refine ⟨fun _ => rm, ?_⟩
    have s27 := Step.of0 X e26
    replace hp := hp zr28
    obtain ⟨h30, hp⟩ := hp
    refine r_take 10 (.string ((f_.Part ++ (ByteArray.mk #[32])) ++ r24)) (RB.pre _ _) rfl (by kernel_rfl) (fun _ _ _ h => hQ.panic _ _ _ _ _ h) (.inl ⟨rfl, fun wq hq => (x_cat (by kernel_rfl) (by kernel_rfl) h30)⟩) ?_
    refine r_ready [11] (by kernel_rfl) rfl (all_cons ⟨_, _, _, _, _, _, rfl, ?_⟩ all_nil)
    refine o_pv (.string ((f_.Part ++ (ByteArray.mk #[32])) ++ r24)) rfl (by kernel_rfl) ?_
    refine ⟨fun h => absurd h (by decide), ?_⟩
    refine r_done (by kernel_rfl) ?_
    refine then_normal (K11 _ _ _ _ ?_)
    refine wp_ret ?_
    refine then_ret ?_
    have E31 := (Evo.then0 E21 e26)
    refine end_ret hQ (.string ((f_.Part ++ (ByteArray.mk #[32])) ++ r24)) (by kernel_rfl) ?_
    exact ⟨((f_.Part ++ (ByteArray.mk #[32])) ++ r24), hp, E31, rfl, h30⟩
  ·
    replace hp := hp.2 h10
    refine wp_skip ?_
    refine then_normal (K8 _ _ _ _ ?_)
    refine seq_ (fun _ K32 => ?_)
    refine reg_drawn (RB w.heap.size []) 18 (by kernel_rfl) (fun w33 hd34 => ?_)
    have e35 := Evo.of_drew hd34
    have z36 : w33.heap.size = w.heap.size := by rw [hd34]
    clear hd34
    have s38 := Step.of0 X e35
    have er37 := RB.refl w.heap.size [] w33
    have kf_39 := (RO.step kf_2 s38)
    have hf_Err40 := (Rep.step (rErr 25 82 84) hf_Err6 s38)
    have hXo41 := (Old.step hXo s38)
    have E42 := (Evo.then0 E0 (Step.evo s38))
    have hS43 := (Sub.trans hS (Step.up s38))
    refine r_take 0 (.pointer (some ⟨bf_1, 0, none⟩)) (RB.pre _ _) rfl (by kernel_rfl) (fun _ _ _ h => hQ.panic _ _ _ _ _ h) (.inl ⟨rfl, fun wq hq => (by kernel_rfl)⟩) ?_
    refine r_take 1 (.pointer (some ⟨bf_1, 0, none⟩)) (RB.pre _ _) rfl (by kernel_rfl) (fun _ _ _ h => hQ.panic _ _ _ _ _ h) (.inl ⟨rfl, fun wq hq => (by kernel_rfl)⟩) ?_
    refine r_take 2 (.pointer (some ⟨bf_1, 0, none⟩)) (RB.pre _ _) rfl (by kernel_rfl) (fun _ _ _ h => hQ.panic _ _ _ _ _ h) (.inl ⟨rfl, fun wq hq => (by kernel_rfl)⟩) ?_
    refine r_take 3 (.string f_.Part) (RB.pre _ _) rfl (by kernel_rfl) (fun _ _ _ h => hQ.panic _ _ _ _ _ h) (.inl ⟨rfl, fun wq hq => (x_load1 (by kernel_rfl) Tryd.isAgg9 ((Blk.rb kf_39.2 (RB.trans er37 hq) (Nat.lt_of_lt_of_eq (Blk.lt kf_39.2) z36) (fun h => by cases h)).cell' 0 rfl))⟩) ?_
    obtain ⟨h44, hp⟩ := hp
    refine r_take 4 (.string (f_.Part ++ (ByteArray.mk #[32]))) (RB.pre _ _) rfl (by kernel_rfl) (fun _ _ _ h => hQ.panic _ _ _ _ _ h) (.inl ⟨rfl, fun wq hq => (x_cat (by kernel_rfl) (by kernel_rfl) h44)⟩) ?_
    refine r_take 5 (.pointer (some ⟨bf_1, 0, none⟩)) (RB.pre _ _) rfl (by kernel_rfl) (fun _ _ _ h => hQ.panic _ _ _ _ _ h) (.inl ⟨rfl, fun wq hq => (by kernel_rfl)⟩) ?_
    refine r_take 6 (.pointer (some ⟨bf_1, 0, none⟩)) (RB.pre _ _) rfl (by kernel_rfl) (fun _ _ _ h => hQ.panic _ _ _ _ _ h) (.inl ⟨rfl, fun wq hq => (by kernel_rfl)⟩) ?_
    refine r_take 7 (.pointer (some ⟨bf_1, 1, none⟩)) (RB.pre _ _) rfl (by kernel_rfl) (fun _ _ _ h => hQ.panic _ _ _ _ _ h) (.inl ⟨rfl, fun wq hq => (by kernel_rfl)⟩) ?_
    refine r_take 8 (.int .i64 f_.At) (RB.pre _ _) rfl (by kernel_rfl) (fun _ _ _ h => hQ.panic _ _ _ _ _ h) (.inl ⟨rfl, fun wq hq => (x_load1 (by kernel_rfl) Tryd.isAgg3 ((Blk.rb kf_39.2 (RB.trans er37 hq) (Nat.lt_of_lt_of_eq (Blk.lt kf_39.2) z36) (fun h => by cases h)).cell' 1 rfl))⟩) ?_
    refine r_take 12 (.pointer (some ⟨bf_1, 0, none⟩)) (RB.pre _ _) rfl (by kernel_rfl) (fun _ _ _ h => hQ.panic _ _ _ _ _ h) (.inl ⟨rfl, fun wq hq => (by kernel_rfl)⟩) ?_
    refine r_take 13 (.pointer (some ⟨bf_1, 0, none⟩)) (RB.pre _ _) rfl (by kernel_rfl) (fun _ _ _ h => hQ.panic _ _ _ _ _ h) (.inl ⟨rfl, fun wq hq => (by kernel_rfl)⟩) ?_
    refine r_take 14 (.pointer (some ⟨bf_1, 2, none⟩)) (RB.pre _ _) rfl (by kernel_rfl) (fun _ _ _ h => hQ.panic _ _ _ _ _ h) (.inl ⟨rfl, fun wq hq => (by kernel_rfl)⟩) ?_
    refine r_take 15 vf_Err5 (RB.pre _ _) rfl (by kernel_rfl) (fun _ _ _ h => hQ.panic _ _ _ _ _ h) (.inl ⟨rfl, fun wq hq => (x_load1 (by kernel_rfl) Tryd.isAgg39 ((Blk.rb kf_39.2 (RB.trans er37 hq) (Nat.lt_of_lt_of_eq (Blk.lt kf_39.2) z36) (fun h => by cases h)).cell' 2 rfl))⟩) ?_
    refine r_ready [9] (by kernel_rfl) rfl (all_cons ⟨_, _, _, _, _, _, rfl, ?_⟩ all_nil)
    refine o_call 52 #[(.int .i64 f_.At)] rfl (x_call Tryd.call52 (by kernel_rfl)) (strconv_Itoa_w (X := []) (i := f_.At) (Old.nil _) rf_At4 hp) ?_
    rintro _ w46 ⟨r45, hp, e47, rfl, zr49⟩
    have rm := RB.mono (F' := []) e47 (Nat.le_trans (Nat.le_of_eq z36.symm) (RB.size er37)) (fun _ h => by cases h)
    have er50 := RB.trans er37 rm
    refine ⟨fun _ => rm, ?_⟩
    have s48 := Step.of0 X e47
    replace hp := hp zr49
    obtain ⟨h51, hp⟩ := hp
    refine r_take 10 (.string ((f_.Part ++ (ByteArray.mk #[32])) ++ r45)) (RB.pre _ _) rfl (by kernel_rfl) (fun _ _ _ h => hQ.panic _ _ _ _ _ h) (.inl ⟨rfl, fun wq hq => (x_cat (by kernel_rfl) (by kernel_rfl) h51)⟩) ?_
    obtain ⟨h52, hp⟩ := hp
    refine r_take 11 (.string (((f_.Part ++ (ByteArray.mk #[32])) ++ r45) ++ (ByteArray.mk #[58, 32]))) (RB.pre _ _) rfl (by kernel_rfl) (fun _ _ _ h => hQ.panic _ _ _ _ _ h) (.inl ⟨rfl, fun wq hq => (x_cat (by kernel_rfl) (by kernel_rfl) h52)⟩) ?_
    refine r_ready [16] (by kernel_rfl) rfl (all_cons ⟨_, _, _, _, _, _, rfl, ?_⟩ all_nil)
    by_cases h53 : f_.Err.isNil = true
    ·
      replace hp := hp.1 h53
      have hc55 := isNil_eq h53
      rw [hc55] at hf_Err40
      obtain rfl := rErr_inv_nil hf_Err40
      exact hp.elim
    ·
      replace hp := hp.2 h53
      by_cases h54 : f_.Err.isNo = true
      ·
        replace hp := hp.1 h54
        obtain ⟨n56, hc57⟩ := isNo_eq h54
        replace hp := hp n56 hc57
        rw [hc57] at hf_Err40
        obtain ⟨rfl, r58⟩ := rErr_inv_no hf_Err40
        replace hp := hp r58
        refine o_call 107 #[(.int .i64 n56)] rfl (x_invoke (t := 25) (v := (.int .i64 n56)) (r := (.int .i64 n56)) (by kernel_rfl) (fun _ => by kernel_rfl) Tryd.call107 (by kernel_rfl)) (api_Errno_Error_w (X := []) (e := n56) (Old.nil _) r58 hp) ?_
        rintro _ w60 ⟨r59, hp, e61, rfl, zr63⟩
        have rm := RB.mono (F' := []) e61 (Nat.le_trans (Nat.le_of_eq z36.symm) (RB.size er50)) (fun _ h => by cases h)
        have er64 := RB.trans er50 rm
        refine ⟨fun _ => rm, ?_⟩
        have s62 := Step.of0 X e61
        replace hp := hp zr63
        obtain ⟨h65, hp⟩ := hp
        refine r_take 17 (.string ((((f_.Part ++ (ByteArray.mk #[32])) ++ r45) ++ (ByteArray.mk #[58, 32])) ++ r59)) (RB.pre _ _) rfl (by kernel_rfl) (fun _ _ _ h => hQ.panic _ _ _ _ _ h) (.inl ⟨rfl, fun wq hq => (x_cat (by kernel_rfl) (by kernel_rfl) h65)⟩) ?_
        refine r_ready [18] (by kernel_rfl) rfl (all_cons ⟨_, _, _, _, _, _, rfl, ?_⟩ all_nil)
        refine o_pv (.string ((((f_.Part ++ (ByteArray.mk #[32])) ++ r45) ++ (ByteArray.mk #[58, 32])) ++ r59)) rfl (by kernel_rfl) ?_
        refine ⟨fun h => absurd h (by decide), ?_⟩
        refine r_done (by kernel_rfl) ?_
        refine then_normal (K32 _ _ _ _ ?_)
        refine wp_ret ?_
        have E66 := (Evo.then0 (Evo.then0 E42 e47) e61)
        refine end_ret hQ (.string ((((f_.Part ++ (ByteArray.mk #[32])) ++ r45) ++ (ByteArray.mk #[58, 32])) ++ r59)) (by kernel_rfl) ?_
        exact ⟨((((f_.Part ++ (ByteArray.mk #[32])) ++ r45) ++ (ByteArray.mk #[58, 32])) ++ r59), hp, E66, rfl, h65⟩
      ·
        replace hp := hp.2 h54
        obtain ⟨part67, at68, n69, hc70⟩ := isFault_eq h53 h54
        replace hp := hp part67 at68 n69 hc70
        rw [hc70] at hf_Err40
        obtain ⟨b71, rfl, k72, z73, r74, r75⟩ := rErr_inv_fault hf_Err40
        replace hp := hp z73
        replace hp := hp r74
        replace hp := hp r75
        have k76 := (RO.step k72 s48)
        refine o_call 109 #[(.pointer (some ⟨b71, 0, none⟩))] rfl (x_invoke (t := 82) (v := (.pointer (some ⟨b71, 0, none⟩))) (r := (.pointer (some ⟨b71, 0, none⟩))) (by kernel_rfl) (fun _ => by kernel_rfl) Tryd.call109 (by kernel_rfl)) (hR (X := []) (f_ := (S_api_Fault.mk part67 at68 (PErr.no n69))) (Old.nil _) ⟨(fun hm => by cases hm), k76.2⟩ z73 r74 (rErr_no r75) hp) ?_
        rintro _ w78 ⟨r77, hp, e79, rfl, zr81⟩
        have rm := RB.mono (F' := []) e79 (Nat.le_trans (Nat.le_of_eq z36.symm) (RB.size er50)) (fun _ h => by cases h)
        have er82 := RB.trans er50 rm
        refine ⟨fun _ => rm, ?_⟩
        have s80 := Step.of0 X e79
        replace hp := hp zr81
        obtain ⟨h83, hp⟩ := hp
        refine r_take 17 (.string ((((f_.Part ++ (ByteArray.mk #[32])) ++ r45) ++ (ByteArray.mk #[58, 32])) ++ r77)) (RB.pre _ _) rfl (by kernel_rfl) (fun _ _ _ h => hQ.panic _ _ _ _ _ h) (.inl ⟨rfl, fun wq hq => (x_cat (by kernel_rfl) (by kernel_rfl) h83)⟩) ?_
        refine r_ready [18] (by kernel_rfl) rfl (all_cons ⟨_, _, _, _, _, _, rfl, ?_⟩ all_nil)
        refine o_pv (.string ((((f_.Part ++ (ByteArray.mk #[32])) ++ r45) ++ (ByteArray.mk #[58, 32])) ++ r77)) rfl (by kernel_rfl) ?_
        refine ⟨fun h => absurd h (by decide), ?_⟩
        refine r_done (by kernel_rfl) ?_
        refine then_normal (K32 _ _ _ _ ?_)
        refine wp_ret ?_
        have E84 := (Evo.then0 (Evo.then0 E42 e47) e79)
        refine end_ret hQ (.string ((((f_.Part ++ (ByteArray.mk #[32])) ++ r45) ++ (ByteArray.mk #[58, 32])) ++ r77)) (by kernel_rfl) ?_
        exact ⟨((((f_.Part ++ (ByteArray.mk #[32])) ++ r45) ++ (ByteArray.mk #[58, 32])) ++ r77), hp, E84, rfl, h83⟩
def api_Fault_Error_pk : Nat → S_api_Fault → (ByteArray → Prop) → Prop
  | 0 => fun _ _ => False
  | k + 1 => api_Fault_Error_p0 (api_Fault_Error_pk k)
theorem api_Fault_Error_wk : ∀ (k : Nat) {X : List Nat} {w : World} {f_ : S_api_Fault} {bf_1 : Nat} {vf_Err5 : Value} {Q : ByteArray → Prop} (hX0 : Old X w) (kf_2 : RO X w bf_1 [(.string f_.Part), (.int .i64 f_.At), vf_Err5] 84) (zf_Part3 : f_.Part.size ≤ maxLen) (rf_At4 : inR .i64 f_.At) (hf_Err6 : (rErr 25 82 84).ok X w ([vf_Err5]) f_.Err) (_hp : api_Fault_Error_pk k f_ Q), Calls Tryd.prog 109 #[(.pointer (some ⟨bf_1, 0, none⟩))] w (Ret fun v w' => ∃ (r0 : ByteArray), Q r0 ∧ Evo [] w w' ∧ v = (.string r0) ∧ r0.size ≤ maxLen) := by
  intro k
  induction k with
  | zero => intro _ _ _ _ _ _ _ _ _ _ _ hp; exact hp.elim
  | succ k ih => intro X w f_ bf_1 vf_Err5 Q hX0 kf_2 zf_Part3 rf_At4 hf_Err6 hp; exact api_Fault_Error_w0 (R := api_Fault_Error_pk k) (fun hX0 kf_2 zf_Part3 rf_At4 hf_Err6 hp => ih hX0 kf_2 zf_Part3 rf_At4 hf_Err6 hp) hX0 kf_2 zf_Part3 rf_At4 hf_Err6 hp
def api_Fault_Error_p (f_ : S_api_Fault) (Q : ByteArray → Prop) : Prop := ∃ k, api_Fault_Error_pk k f_ Q
theorem api_Fault_Error_w {X : List Nat} {w : World} {f_ : S_api_Fault} {bf_1 : Nat} {vf_Err5 : Value} {Q : ByteArray → Prop} (hX0 : Old X w) (kf_2 : RO X w bf_1 [(.string f_.Part), (.int .i64 f_.At), vf_Err5] 84) (zf_Part3 : f_.Part.size ≤ maxLen) (rf_At4 : inR .i64 f_.At) (hf_Err6 : (rErr 25 82 84).ok X w ([vf_Err5]) f_.Err) (hp : api_Fault_Error_p f_ Q) :
    Calls Tryd.prog 109 #[(.pointer (some ⟨bf_1, 0, none⟩))] w (Ret fun v w' => ∃ (r0 : ByteArray), Q r0 ∧ Evo [] w w' ∧ v = (.string r0) ∧ r0.size ≤ maxLen) := by
  obtain ⟨k, hp⟩ := hp
  exact api_Fault_Error_wk k hX0 kf_2 zf_Part3 rf_At4 hf_Err6 hp

def errors_as_p (err : PErr) (target : S_cellFault) (targetVal : Unit) (targetType : Unit) (Q : S_cellFault → Bool → Prop) : Prop :=
  (∃ (I62 : Prop) (m63 : Nat), (I62) ∧ ((I62) → (((err.isNil = true) → False) ∧ ((¬ (err.isNil = true)) → (((err.isNo = true) → (∀ n92 : Int, err = PErr.no n92 → ((inR .i64 n92) → Q target false))) ∧ ((¬ (err.isNo = true)) → (∀ (part103 : ByteArray) (at104 n105 : Int), err = PErr.fault part103 at104 n105 → ((part103.size ≤ maxLen) → ((inR .i64 at104) → ((inR .i64 n105) → Q (S_cellFault.mk (some (S_api_Fault.mk part103 at104 (PErr.no n105)))) true))))))))))
set_option maxRecDepth 20000 in
set_option maxHeartbeats 4000000 in
theorem errors_as_w {X : List Nat} {w : World} {err : PErr} {target : S_cellFault} {targetVal : Unit} {targetType : Unit} {verr1 : Value} {btarget3 : Nat} {Ftarget4 : List Nat} {btargetVal6 : Nat} {Q : S_cellFault → Bool → Prop} (hX0 : Old X w) (herr2 : (rErr 25 82 84).ok X w ([verr1]) err) (mtarget5 : MO o_cellFault 82 Ftarget4 w.heap.size X w Ftarget4 btarget3 target) (ktargetVal7 : RO X w btargetVal6 [(.pointer (some ⟨btarget3, 0, none⟩))] 90) (hp : errors_as_p err target targetVal targetType Q) :
    Calls Tryd.prog 69 #[verr1, (.iface 90 (.pointer (some ⟨btarget3, 0, none⟩))), (.agg #[(typeHandle Tryd.prog 90), (.pointer (some ⟨btargetVal6, 0, none⟩)), (.int .u64 (150 : Int))]), (.iface 132 (.agg #[typeHandle Tryd.prog 82]))] w (Ret fun v w' => ∃ (m0 : S_cellFault) (r0 : Bool), Q m0 r0 ∧ ∃ (X' : List Nat) (Fm0 : List Nat), Step X w Ftarget4 X' w' ∧ v = (.bool r0) ∧ MO o_cellFault 82 Ftarget4 w.heap.size X' w' Fm0 btarget3 m0) := by
  have hXo := hX0
  have E0 : Evo Ftarget4 w w := RB.refl _ _ _
  have hS : Sub X X := Sub.refl _
  have hN : News X w X w := News.refl _ _
  have hF0 : Sub Ftarget4 X := MO.mem mtarget5
  unfold errors_as_p at hp
  refine enter_ Tryd.func69 rfl 62 [(0, verr1), (1, (.iface 90 (.pointer (some ⟨btarget3, 0, none⟩)))), (2, (.agg #[(typeHandle Tryd.prog 90), (.pointer (some ⟨btargetVal6, 0, none⟩)), (.int .u64 (150 : Int))])), (3, (.iface 132 (.agg #[typeHandle Tryd.prog 82])))] (by kernel_rfl) (fun Qe hQ => ?_)
  refine seq_ (fun _ K8 => ?_)
  refine reg_ ?_
  refine sq (o_newX [(typeHandle Tryd.prog 90), (.pointer (some ⟨btargetVal6, 0, none⟩)), (.int .u64 (150 : Int))] 121 (X := X) (B := w.heap.size) E0.size rfl (by kernel_rfl) ?_)
  intro b9 w10 X11 s12 k13 n14
  have p15 := n14 _ (MO.old mtarget5)
  refine sq (o_pv (.bool false) rfl (by kernel_rfl) ?_)
  refine nil_ ?_
  refine then_normal (K8 _ _ _ _ ?_)
  refine wp_block ?_
  have herr72 := (Rep.step (rErr 25 82 84) herr2 s12)
  have ktargetVal73 := (RO.step ktargetVal7 s12)
  have mtarget74 := (MO.step0 mtarget5 s12)
  have hXo75 := (Old.step hXo s12)
  have E76 := (Evo.then0 E0 (Step.evo s12))
  have hS77 := (Sub.trans hS (Step.up s12))
  have hN78 := (News.step hN s12)
  obtain ⟨I62, m63, hI64, hp⟩ := hp
  refine loop_ 4611686018427379457 (fun kq lq w66 => ∃ (X67 : List Nat), (lq = [(0, verr1)]) ∧ (kq = m63) ∧ (Evo Ftarget4 w w66) ∧ (Old X67 w66) ∧ (Sub X X67) ∧ (News X w X67 w66) ∧ ((rErr 25 82 84).ok X67 w66 ([verr1]) err) ∧ (MO o_cellFault 82 Ftarget4 w.heap.size X67 w66 Ftarget4 btarget3 target) ∧ (OB ([]) w.heap.size X67 w66 b9 [(typeHandle Tryd.prog 90), (.pointer (some ⟨btargetVal6, 0, none⟩)), (.int .u64 (150 : Int))] 121) ∧ (RO X67 w66 btargetVal6 [(.pointer (some ⟨btarget3, 0, none⟩))] 90) ∧ (I62)) (m63) [(0, verr1)] (vs_cons (by kernel_rfl) vs_nil) ⟨X11, rfl, rfl, E76, hXo75, hS77, hN78, herr72, mtarget74, k13, ktargetVal73, hI64⟩ ?_
  rintro _ _ w66 g69 ⟨X67, rfl, rfl, E79, hXo80, hS81, hN82, herr83, mtarget84, k85, ktargetVal86, hI65⟩ Kl70 hA71
  replace hp := hp hI65
  refine wp_block ?_
  refine seq_ (fun _ K87 => ?_)
  refine seq_ (fun _ K88 => ?_)
  refine reg_ ?_
  refine sq (o_pv verr1 rfl (by kernel_rfl) ?_)
  by_cases h89 : err.isNil = true
  ·
    replace hp := hp.1 h89
    have hc91 := isNil_eq h89
    rw [hc91] at herr83
    obtain rfl := rErr_inv_nil herr83
    exact hp.elim
  ·
    replace hp := hp.2 h89
    by_cases h90 : err.isNo = true
    ·
      replace hp := hp.1 h90
      obtain ⟨n92, hc93⟩ := isNo_eq h90
      replace hp := hp n92 hc93
      rw [hc93] at herr83
      obtain ⟨rfl, r94⟩ := rErr_inv_no herr83
      replace hp := hp r94
      refine sq (o_pv (.iface 132 (.agg #[typeHandle Tryd.prog 25])) rfl (x_ext Tryd.func64 (by kernel_rfl) (by kernel_rfl) (by kernel_rfl) (show _ = some Extern.ReflectliteType.typeOf by kernel_rfl) #[(.iface 25 (.int .i64 n92))] (by kernel_rfl) (by kernel_rfl)) ?_)
      refine sq (o_pv (.iface 132 (.agg #[typeHandle Tryd.prog 82])) rfl (by kernel_rfl) ?_)
      refine sq (o_pv (.bool false) rfl (x_invext (t := 132) (v := (.agg #[typeHandle Tryd.prog 25])) (r := (.agg #[typeHandle Tryd.prog 25])) (by kernel_rfl) (fun _ => by kernel_rfl) Tryd.func116 (by kernel_rfl) (by kernel_rfl) (by kernel_rfl) (show _ = some (Extern.ReflectliteType.relation "AssignableTo" Extern.ReflectliteType.assignableTo) by kernel_rfl) #[(.agg #[typeHandle Tryd.prog 25]), (.iface 132 (.agg #[typeHandle Tryd.prog 82]))] (by kernel_rfl) (by kernel_rfl)) ?_)
      refine nil_ ?_
      refine then_normal (K88 _ _ _ _ ?_)
      refine cond_f (by kernel_rfl) ?_
      refine wp_skip ?_
      refine then_normal (K87 _ _ _ _ ?_)
      refine seq_ (fun _ K95 => ?_)
      refine seq_ (fun _ K96 => ?_)
      refine reg_ ?_
      refine sq (o_pv (.iface 25 (.int .i64 n92)) rfl (by kernel_rfl) ?_)
      refine sq (o_pv (.tuple #[.nilIface, (.bool false)]) rfl (x_tassert (t := 25) (v := (.int .i64 n92)) (by kernel_rfl) (fun v xT w => run_typeAssert_lacksB Tryd.underlying143 (by kernel_rfl) (by kernel_rfl) v xT w)) ?_)
      refine sq (o_pv (.tuple #[.nilIface, (.bool false)]) rfl (by kernel_rfl) ?_)
      refine sq (o_pv .nilIface rfl (by kernel_rfl) ?_)
      refine sq (o_pv (.bool false) rfl (by kernel_rfl) ?_)
      refine sq (o_pv .nilIface rfl (by kernel_rfl) ?_)
      refine sq (o_pv (.bool false) rfl (by kernel_rfl) ?_)
      refine nil_ ?_
      refine then_normal (K96 _ _ _ _ ?_)
      refine seq_ (fun _ K97 => ?_)
      refine reg_ ?_
      refine sq (o_pv (.bool false) rfl (by kernel_rfl) ?_)
      refine sq (o_pv (.bool false) rfl (by kernel_rfl) ?_)
      refine sq (o_not (by kernel_rfl) ?_)
      refine sq (o_not (by kernel_rfl) ?_)
      refine sq (o_not (by kernel_rfl) ?_)
      refine sq (o_pv (.bool false) rfl (by kernel_rfl) ?_)
      refine nil_ ?_
      refine then_normal (K97 _ _ _ _ ?_)
      refine cond_f (by kernel_rfl) ?_
      refine wp_skip ?_
      refine then_normal (K95 _ _ _ _ ?_)
      refine seq_ (fun _ K98 => ?_)
      refine reg_ ?_
      refine sq (o_pv (.iface 25 (.int .i64 n92)) rfl (by kernel_rfl) ?_)
      refine nil_ ?_
      refine then_normal (K98 _ _ _ _ ?_)
      refine wp_block ?_
      refine seq_ (fun _ K99 => ?_)
      refine reg_ ?_
      refine sq (o_pv (.tuple #[.nilIface, (.bool false)]) rfl (x_tassert (t := 25) (v := (.int .i64 n92)) (by kernel_rfl) (fun v xT w => run_typeAssert_lacksB Tryd.underlying137 (by kernel_rfl) (by kernel_rfl) v xT w)) ?_)
      refine sq (o_pv (.bool false) rfl (by kernel_rfl) ?_)
      refine sq (o_pv .nilIface rfl (by kernel_rfl) ?_)
      refine nil_ ?_
      refine then_normal (K99 _ _ _ _ ?_)
      refine cond_f (by kernel_rfl) ?_
      refine seq_ (fun _ K100 => ?_)
      refine reg_ ?_
      refine sq (o_pv (.tuple #[.nilIface, (.bool false)]) rfl (x_tassert (t := 25) (v := (.int .i64 n92)) (by kernel_rfl) (fun v xT w => run_typeAssert_lacksB Tryd.underlying138 (by kernel_rfl) (by kernel_rfl) v xT w)) ?_)
      refine sq (o_pv (.bool false) rfl (by kernel_rfl) ?_)
      refine sq (o_pv .nilIface rfl (by kernel_rfl) ?_)
      refine nil_ ?_
      refine then_normal (K100 _ _ _ _ ?_)
      refine cond_f (by kernel_rfl) ?_
      refine seq_ (fun _ K101 => ?_)
      refine reg_ ?_
      refine sq (o_pv (.iface 25 (.int .i64 n92)) rfl (by kernel_rfl) ?_)
      refine nil_ ?_
      refine then_normal (K101 _ _ _ _ ?_)
      refine seq_ (fun _ K102 => ?_)
      refine reg_ ?_
      refine sq (o_pv (.bool false) rfl (by kernel_rfl) ?_)
      refine nil_ ?_
      refine then_normal (K102 _ _ _ _ ?_)
      refine wp_ret ?_
      refine blk_ret ?_
      refine blk_ret ?_
      refine then_ret ?_
      refine blk_ret ?_
      refine end_ret hQ (.bool false) (by kernel_rfl) ?_
      exact ⟨target, false, hp, X67, Ftarget4, step_of E79 hF0 hS81 hN82, rfl, mtarget84⟩
    ·
      replace hp := hp.2 h90
      obtain ⟨part103, at104, n105, hc106⟩ := isFault_eq h89 h90
      replace hp := hp part103 at104 n105 hc106
      rw [hc106] at herr83
      obtain ⟨b107, rfl, k108, z109, r110, r111⟩ := rErr_inv_fault herr83
      replace hp := hp z109
      replace hp := hp r110
      replace hp := hp r111
      refine sq (o_pv (.iface 132 (.agg #[typeHandle Tryd.prog 82])) rfl (x_ext Tryd.func64 (by kernel_rfl) (by kernel_rfl) (by kernel_rfl) (show _ = some Extern.ReflectliteType.typeOf by kernel_rfl) #[(.iface 82 (.pointer (some ⟨b107, 0, none⟩)))] (by kernel_rfl) (by kernel_rfl)) ?_)
      refine sq (o_pv (.iface 132 (.agg #[typeHandle Tryd.prog 82])) rfl (by kernel_rfl) ?_)
      refine sq (o_pv (.bool true) rfl (x_invext (t := 132) (v := (.agg #[typeHandle Tryd.prog 82])) (r := (.agg #[typeHandle Tryd.prog 82])) (by kernel_rfl) (fun _ => by kernel_rfl) Tryd.func116 (by kernel_rfl) (by kernel_rfl) (by kernel_rfl) (show _ = some (Extern.ReflectliteType.relation "AssignableTo" Extern.ReflectliteType.assignableTo) by kernel_rfl) #[(.agg #[typeHandle Tryd.prog 82]), (.iface 132 (.agg #[typeHandle Tryd.prog 82]))] (by kernel_rfl) (by kernel_rfl)) ?_)
      refine nil_ ?_
      refine then_normal (K88 _ _ _ _ ?_)
      refine cond_t (by kernel_rfl) ?_
      refine seq_ (fun _ K112 => ?_)
      refine reg_ ?_
      refine sq (o_pv (.agg #[(typeHandle Tryd.prog 90), (.pointer (some ⟨btargetVal6, 0, none⟩)), (.int .u64 (150 : Int))]) rfl (x_loadN [(typeHandle Tryd.prog 90), (.pointer (some ⟨btargetVal6, 0, none⟩)), (.int .u64 (150 : Int))] (by kernel_rfl) Tryd.isAgg121 Tryd.sizeOf121 (k85.2.1.cells' 0 rfl)) ?_)
      refine sq (o_pv (.agg #[(typeHandle Tryd.prog 82), (.pointer (some ⟨btarget3, 0, none⟩)), (.int .u64 (406 : Int))]) rfl (x_ext Tryd.func74 (by kernel_rfl) (by kernel_rfl) (by kernel_rfl) (show _ = some (Extern.ReflectliteValue.method (Extern.ReflectliteValue.valueError "reflectlite.Value.Elem" 0) Extern.ReflectliteValue.elem) by kernel_rfl) #[(.agg #[(typeHandle Tryd.prog 90), (.pointer (some ⟨btargetVal6, 0, none⟩)), (.int .u64 (150 : Int))])] (by kernel_rfl) (run_velem (H' := (typeHandle Tryd.prog 82)) Tryd.underlying90 (fun w => by kernel_rfl) (ktargetVal86.2.cell' 0 rfl) (fun w => by kernel_rfl) (fun w => by kernel_rfl))) ?_)
      refine sq (o_pv (.iface 82 (.pointer (some ⟨b107, 0, none⟩))) rfl (by kernel_rfl) ?_)
      refine sq (o_valof (X := X67) (B := w.heap.size) (t := 82) (v := (.pointer (some ⟨b107, 0, none⟩))) (H := (typeHandle Tryd.prog 82)) (k := 150) E79.size rfl (x_ext Tryd.func66 (by kernel_rfl) (by kernel_rfl) (by kernel_rfl) (show _ = some (fun args => Extern.ReflectliteValue.unpack (args.getD 0 (.tuple #[]))) by kernel_rfl) #[(.iface 82 (.pointer (some ⟨b107, 0, none⟩)))] (by kernel_rfl) (by kernel_rfl)) ?_)
      intro b113 w114 X115 s116 k117 n118
      have p119 := n118 _ (MO.old mtarget84)
      have p120 := n118 _ (OB.old k85)
      have mtarget121 := (MO.step0 mtarget84 s116)
      obtain ⟨vov122, k124, hov123, sb125⟩ := o_cellFault_open mtarget121
      have p126 := Ap.subr (Ap.symm p15) sb125
      have p127 := Ap.subr (Ap.symm p119) sb125
      have k128 := (OB.step0 k85 s116)
      refine sq (o_vset (X := X115) (t := 82) (H := (typeHandle Tryd.prog 82)) rfl k124 (k117.2.1.cell' 0 rfl) Tryd.underlying82 Tryd.sizeOf82 (fun w => by kernel_rfl) (fun w => by kernel_rfl) (fun w => by kernel_rfl) (x_extr Tryd.func75 (by kernel_rfl) (by kernel_rfl) (by kernel_rfl) (show _ = some Extern.ReflectliteValue.set by kernel_rfl) #[(.agg #[(typeHandle Tryd.prog 82), (.pointer (some ⟨btarget3, 0, none⟩)), (.int .u64 (406 : Int))]), (.agg #[(typeHandle Tryd.prog 82), (.pointer (some ⟨b113, 0, none⟩)), (.int .u64 (150 : Int))])] (by kernel_rfl)) ?_)
      intro w129 s130 k131
      refine nil_ ?_
      refine then_normal (K112 _ _ _ _ ?_)
      refine seq_ (fun _ K132 => ?_)
      refine reg_ ?_
      refine sq (o_pv (.bool true) rfl (by kernel_rfl) ?_)
      refine nil_ ?_
      refine then_normal (K132 _ _ _ _ ?_)
      refine wp_ret ?_
      refine then_ret ?_
      refine blk_ret ?_
      refine then_ret ?_
      refine blk_ret ?_
      have E133 := (Evo.thenW (Evo.then0 E79 (Step.evo s116)) (Step.evo s130) k124.2.2)
      have hXo134 := (Old.step (Old.step hXo80 s116) s130)
      have hS135 := (Sub.trans (Sub.trans hS81 (Step.up s116)) (Step.up s130))
      have hN136 := (News.step (News.step hN82 s116) s130)
      have k137 := (OB.step k128 s130 p126)
      have ktargetVal138 := (RO.step (RO.step ktargetVal86 s116) s130)
      have k139 := (RO.step (RO.step k108 s116) s130)
      have k140 := (OB.step k117 s130 p127)
      have hov141 := (Rep.step (rPtrO r_api_Fault 84) hov123 s130)
      obtain ⟨F142, m143, hs144⟩ := MO.pack (o_cellFault_mk k131 (rPtrO_some k139.1 k139.2 (r_api_Fault_mk z109 r110 (rErr_no r111))))
      have p145 := hs144 _ (Ap.cons p126 (Ap.nil_r _))
      have p146 := hs144 _ (Ap.cons p127 (Ap.nil_r _))
      refine end_ret hQ (.bool true) (by kernel_rfl) ?_
      exact ⟨(S_cellFault.mk (some (S_api_Fault.mk part103 at104 (PErr.no n105)))), true, hp, X115, F142, step_of E133 hF0 hS135 hN136, rfl, m143⟩

def errors_As_p (err : PErr) (target : S_cellFault) (Q : S_cellFault → Bool → Prop) : Prop :=
  (((err.isNil = true) → Q target false) ∧ ((err.isNil = false) → (errors_as_p err target () () (fun (target67 : S_cellFault) (r68 : Bool) => Q target67 r68))))
set_option maxRecDepth 20000 in
set_option maxHeartbeats 4000000 in
theorem errors_As_w {X : List Nat} {w : World} {err : PErr} {target : S_cellFault} {verr1 : Value} {btarget3 : Nat} {Ftarget4 : List Nat} {Q : S_cellFault → Bool → Prop} (hX0 : Old X w) (herr2 : (rErr 25 82 84).ok X w ([verr1]) err) (mtarget5 : MO o_cellFault 82 Ftarget4 w.heap.size X w Ftarget4 btarget3 target) (gv0 : GV X w 0 [(.iface 132 (.agg #[typeHandle Tryd.prog 39]))]) (hp : errors_As_p err target Q) :
    Calls Tryd.prog 47 #[verr1, (.iface 90 (.pointer (some ⟨btarget3, 0, none⟩)))] w (Ret fun v w' => ∃ (m0 : S_cellFault) (r0 : Bool), Q m0 r0 ∧ ∃ (X' : List Nat) (Fm0 : List Nat), Step X w Ftarget4 X' w' ∧ v = (.bool r0) ∧ MO o_cellFault 82 Ftarget4 w.heap.size X' w' Fm0 btarget3 m0) := by
  have hXo := hX0
  have E0 : Evo Ftarget4 w w := RB.refl _ _ _
  have hS : Sub X X := Sub.refl _
  have hN : News X w X w := News.refl _ _
  have hF0 : Sub Ftarget4 X := MO.mem mtarget5
  unfold errors_As_p at hp
  refine enter_ Tryd.func47 rfl 42 [(0, verr1), (1, (.iface 90 (.pointer (some ⟨btarget3, 0, none⟩))))] (by kernel_rfl) (fun Qe hQ => ?_)
  refine seq_ (fun _ K6 => ?_)
  refine reg_ ?_
  refine sq (o_pv (.bool false) rfl (by kernel_rfl) ?_)
  refine nil_ ?_
  refine then_normal (K6 _ _ _ _ ?_)
  refine seq_ (fun _ K7 => ?_)
  refine seq_ (fun _ K8 => ?_)
  refine reg_ ?_
  refine sq (o_pv verr1 rfl (by kernel_rfl) ?_)
  refine sq (o_pv (.bool err.isNil) rfl (x_err_eq err herr2 Tryd.underlying39 (by kernel_rfl)) ?_)
  refine nil_ ?_
  refine then_normal (K8 _ _ _ _ ?_)
  refine cond_b err.isNil (by kernel_rfl) (fun h9 => ?_) (fun h9 => ?_)
  ·
    replace hp := hp.1 h9
    refine seq_ (fun _ K10 => ?_)
    refine reg_ ?_
    refine sq (o_pv (.bool false) rfl (by kernel_rfl) ?_)
    refine nil_ ?_
    refine then_normal (K10 _ _ _ _ ?_)
    refine wp_ret ?_
    refine then_ret ?_
    refine end_ret hQ (.bool false) (by kernel_rfl) ?_
    exact ⟨target, false, hp, X, Ftarget4, step_of E0 hF0 hS hN, rfl, mtarget5⟩
  ·
    replace hp := hp.2 h9
    refine wp_skip ?_
    refine then_normal (K7 _ _ _ _ ?_)
    refine seq_ (fun _ K11 => ?_)
    refine seq_ (fun _ K12 => ?_)
    refine reg_ ?_
    refine sq (o_pv (.iface 90 (.pointer (some ⟨btarget3, 0, none⟩))) rfl (by kernel_rfl) ?_)
    refine sq (o_pv (.bool false) rfl (x_inil_eq (tp := 90) (v := (.pointer (some ⟨btarget3, 0, none⟩))) Tryd.underlying20 (by kernel_rfl) (by kernel_rfl)) ?_)
    refine nil_ ?_
    refine then_normal (K12 _ _ _ _ ?_)
    refine cond_f (by kernel_rfl) ?_
    refine wp_skip ?_
    refine then_normal (K11 _ _ _ _ ?_)
    refine seq_ (fun _ K13 => ?_)
    refine reg_ ?_
    refine sq (o_pv (.iface 90 (.pointer (some ⟨btarget3, 0, none⟩))) rfl (by kernel_rfl) ?_)
    refine sq (o_valof (X := X) (B := w.heap.size) (t := 90) (v := (.pointer (some ⟨btarget3, 0, none⟩))) (H := (typeHandle Tryd.prog 90)) (k := 150) E0.size rfl (x_ext Tryd.func66 (by kernel_rfl) (by kernel_rfl) (by kernel_rfl) (show _ = some (fun args => Extern.ReflectliteValue.unpack (args.getD 0 (.tuple #[]))) by kernel_rfl) #[(.iface 90 (.pointer (some ⟨btarget3, 0, none⟩)))] (by kernel_rfl) (by kernel_rfl)) ?_)
    intro b14 w15 X16 s17 k18 n19
    have p20 := n19 _ (MO.old mtarget5)
    have mtarget27 := (MO.step0 mtarget5 s17)
    have E28 := (Evo.then0 E0 (Step.evo s17))
    refine sq (o_newX [(.pointer none), (.pointer none), (.int .u64 (0 : Int))] 121 (X := X16) (B := w.heap.size) E28.size rfl (by kernel_rfl) ?_)
    intro b21 w22 X23 s24 k25 n26
    have p29 := n26 _ (MO.old mtarget27)
    have p30 := n26 _ (OB.old k18)
    have mtarget31 := (MO.step0 mtarget27 s24)
    have k32 := (OB.step0 k18 s24)
    have E33 := (Evo.then0 E28 (Step.evo s24))
    refine sq (o_stB (o := 0) (v := (.agg #[(typeHandle Tryd.prog 90), (.pointer (some ⟨b14, 0, none⟩)), (.int .u64 (150 : Int))])) [(typeHandle Tryd.prog 90), (.pointer (some ⟨b14, 0, none⟩)), (.int .u64 (150 : Int))] rfl k25 (by kernel_rfl) (by kernel_rfl) Tryd.sizeOf121 rfl rfl rfl ?_)
    intro w34 s35 k36
    refine nil_ ?_
    refine then_normal (K13 _ _ _ _ ?_)
    refine seq_ (fun _ K37 => ?_)
    refine reg_ ?_
    refine sq (o_pv (.agg #[(typeHandle Tryd.prog 90), (.pointer (some ⟨b14, 0, none⟩)), (.int .u64 (150 : Int))]) rfl (x_loadN [(typeHandle Tryd.prog 90), (.pointer (some ⟨b14, 0, none⟩)), (.int .u64 (150 : Int))] (by kernel_rfl) Tryd.isAgg121 Tryd.sizeOf121 (k36.2.1.cells' 0 rfl)) ?_)
    refine sq (o_pv (.iface 132 (.agg #[typeHandle Tryd.prog 90])) rfl (x_ext Tryd.func67 (by kernel_rfl) (by kernel_rfl) (by kernel_rfl) (show _ = some (Extern.ReflectliteValue.methodAny (Extern.ReflectliteValue.valueError "reflectlite.Value.Type" 0) fun t _ _ _ => Extern.ReflectliteType.toType t) by kernel_rfl) #[(.agg #[(typeHandle Tryd.prog 90), (.pointer (some ⟨b14, 0, none⟩)), (.int .u64 (150 : Int))])] (by kernel_rfl) (by kernel_rfl)) ?_)
    refine sq (o_pv (.iface 132 (.agg #[typeHandle Tryd.prog 90])) rfl (by kernel_rfl) ?_)
    refine nil_ ?_
    refine then_normal (K37 _ _ _ _ ?_)
    refine seq_ (fun _ K38 => ?_)
    refine seq_ (fun _ K39 => ?_)
    refine reg_ ?_
    refine sq (o_pv (.iface 132 (.agg #[typeHandle Tryd.prog 90])) rfl (by kernel_rfl) ?_)
    refine sq (o_pv (.int .u8 (22 : Int)) rfl (x_invext (t := 132) (v := (.agg #[typeHandle Tryd.prog 90])) (r := (typeHandle Tryd.prog 90)) (by kernel_rfl) (fun _ => by kernel_rfl) Tryd.func104 (by kernel_rfl) (by kernel_rfl) (by kernel_rfl) (show _ = some (Extern.ReflectliteType.abiMethod fun t => do pure (.int .u8 (← Extern.Rtype.kind t))) by kernel_rfl) #[(typeHandle Tryd.prog 90)] (by kernel_rfl) (by kernel_rfl)) ?_)
    refine sq (o_pv (.bool false) rfl (x_ndf (p := (22 : Int) = (22 : Int)) (by kernel_rfl) (by decide)) ?_)
    refine sq (o_pv (.bool false) rfl (by kernel_rfl) ?_)
    refine sq (o_pv (.agg #[(typeHandle Tryd.prog 90), (.pointer (some ⟨b14, 0, none⟩)), (.int .u64 (150 : Int))]) (by kernel_rfl) (x_loadN [(typeHandle Tryd.prog 90), (.pointer (some ⟨b14, 0, none⟩)), (.int .u64 (150 : Int))] (by kernel_rfl) Tryd.isAgg121 Tryd.sizeOf121 (k36.2.1.cells' 0 rfl)) ?_)
    have k41 := (OB.step k32 s35 p30)
    refine sq (o_pv (.bool false) (by kernel_rfl) (x_ext Tryd.func68 (by kernel_rfl) (by kernel_rfl) (by kernel_rfl) (show _ = some (Extern.ReflectliteValue.method (Extern.ReflectliteValue.valueError "reflectlite.Value.IsNil" 0) Extern.ReflectliteValue.isNil) by kernel_rfl) #[(.agg #[(typeHandle Tryd.prog 90), (.pointer (some ⟨b14, 0, none⟩)), (.int .u64 (150 : Int))])] (by kernel_rfl) (run_visnil Tryd.underlying90 (fun w => by kernel_rfl) (k41.2.1.cell' 0 rfl))) ?_)
    refine sq (o_pv (.bool false) rfl (by kernel_rfl) ?_)
    refine nil_ ?_
    refine then_normal (K39 _ _ _ _ ?_)
    refine cond_f (by kernel_rfl) ?_
    refine wp_skip ?_
    refine then_normal (K38 _ _ _ _ ?_)
    refine seq_ (fun _ K42 => ?_)
    refine reg_ ?_
    refine sq (o_pv (.iface 132 (.agg #[typeHandle Tryd.prog 90])) rfl (by kernel_rfl) ?_)
    refine sq (o_pv (.iface 132 (.agg #[typeHandle Tryd.prog 82])) rfl (x_invext (t := 132) (v := (.agg #[typeHandle Tryd.prog 90])) (r := (.agg #[typeHandle Tryd.prog 90])) (by kernel_rfl) (fun _ => by kernel_rfl) Tryd.func118 (by kernel_rfl) (by kernel_rfl) (by kernel_rfl) (show _ = some (Extern.ReflectliteType.method Extern.ReflectliteType.elem) by kernel_rfl) #[(.agg #[typeHandle Tryd.prog 90])] (by kernel_rfl) (by kernel_rfl)) ?_)
    refine sq (o_pv (.iface 132 (.agg #[typeHandle Tryd.prog 82])) rfl (by kernel_rfl) ?_)
    refine nil_ ?_
    refine then_normal (K42 _ _ _ _ ?_)
    refine seq_ (fun _ K43 => ?_)
    refine seq_ (fun _ K44 => ?_)
    refine reg_ ?_
    refine sq (o_pv (.iface 132 (.agg #[typeHandle Tryd.prog 82])) rfl (by kernel_rfl) ?_)
    refine sq (o_pv (.int .u8 (22 : Int)) rfl (x_invext (t := 132) (v := (.agg #[typeHandle Tryd.prog 82])) (r := (typeHandle Tryd.prog 82)) (by kernel_rfl) (fun _ => by kernel_rfl) Tryd.func104 (by kernel_rfl) (by kernel_rfl) (by kernel_rfl) (show _ = some (Extern.ReflectliteType.abiMethod fun t => do pure (.int .u8 (← Extern.Rtype.kind t))) by kernel_rfl) #[(typeHandle Tryd.prog 82)] (by kernel_rfl) (by kernel_rfl)) ?_)
    refine sq (o_pv (.bool true) rfl (x_ndt (p := (22 : Int) = (20 : Int)) (by kernel_rfl) (by decide)) ?_)
    refine sq (o_pv (.bool true) rfl (by kernel_rfl) ?_)
    refine sq (o_pv (.iface 132 (.agg #[typeHandle Tryd.prog 82])) (by kernel_rfl) (by kernel_rfl) ?_)
    have gv46 := (GV.step (GV.step (GV.step gv0 s17) s24) s35)
    refine sq (o_pv (.iface 132 (.agg #[typeHandle Tryd.prog 39])) (by kernel_rfl) (x_load1 (by kernel_rfl) Tryd.isAgg115 (GV.cell gv46 0 rfl)) ?_)
    refine sq (o_pv (.bool true) (by kernel_rfl) (x_invext (t := 132) (v := (.agg #[typeHandle Tryd.prog 82])) (r := (.agg #[typeHandle Tryd.prog 82])) (by kernel_rfl) (fun _ => by kernel_rfl) Tryd.func119 (by kernel_rfl) (by kernel_rfl) (by kernel_rfl) (show _ = some (Extern.ReflectliteType.relation "Implements" Extern.ReflectliteType.implements_) by kernel_rfl) #[(.agg #[typeHandle Tryd.prog 82]), (.iface 132 (.agg #[typeHandle Tryd.prog 39]))] (by kernel_rfl) (by kernel_rfl)) ?_)
    refine sq (o_pv (.bool false) (by kernel_rfl) (by kernel_rfl) ?_)
    refine sq (o_pv (.bool false) rfl (by kernel_rfl) ?_)
    refine nil_ ?_
    refine then_normal (K44 _ _ _ _ ?_)
    refine cond_f (by kernel_rfl) ?_
    refine wp_skip ?_
    refine then_normal (K43 _ _ _ _ ?_)
    refine seq_ (fun _ K47 => ?_)
    refine reg_ ?_
    refine sq (o_pv verr1 rfl (by kernel_rfl) ?_)
    refine sq (o_pv (.iface 90 (.pointer (some ⟨btarget3, 0, none⟩))) rfl (by kernel_rfl) ?_)
    refine sq (o_pv (.agg #[(typeHandle Tryd.prog 90), (.pointer (some ⟨b14, 0, none⟩)), (.int .u64 (150 : Int))]) rfl (x_loadN [(typeHandle Tryd.prog 90), (.pointer (some ⟨b14, 0, none⟩)), (.int .u64 (150 : Int))] (by kernel_rfl) Tryd.isAgg121 Tryd.sizeOf121 (k36.2.1.cells' 0 rfl)) ?_)
    refine sq (o_pv (.iface 132 (.agg #[typeHandle Tryd.prog 82])) rfl (by kernel_rfl) ?_)
    have herr53 := (Rep.step (rErr 25 82 84) (Rep.step (rErr 25 82 84) (Rep.step (rErr 25 82 84) herr2 s17) s24) s35)
    have mtarget54 := (MO.step mtarget31 s35 p29)
    have hXo55 := (Old.step (Old.step (Old.step hXo s17) s24) s35)
    have E56 := (Evo.thenW E33 (Step.evo s35) (Wr.of k25.2.2))
    have hS57 := (Sub.trans (Sub.trans (Sub.trans hS (Step.up s17)) (Step.up s24)) (Step.up s35))
    have hN58 := (News.step (News.step (News.step hN s17) s24) s35)
    have ax52 := OB.apold k41 hX0
    obtain ⟨X48, u49, r50, hm51⟩ := OB.release k41
    have herr59 := (Rep.less (rErr 25 82 84) herr53 u49)
    have mtarget60 := (MO.less mtarget54 u49 (hm51 _ p20 (MO.mem mtarget54)))
    have gv61 := (GV.less gv46 u49)
    have hXo62 := (Old.less hXo55 u49)
    have E63 := E56
    have hS64 := (hm51 _ ax52 hS57)
    have hN65 := (News.less hN58 u49)
    have k66 := (OB.less k36 (hm51 _ (Ap.symm p30) (OB.mem k36)))
    refine sq (o_call 69 #[verr1, (.iface 90 (.pointer (some ⟨btarget3, 0, none⟩))), (.agg #[(typeHandle Tryd.prog 90), (.pointer (some ⟨b14, 0, none⟩)), (.int .u64 (150 : Int))]), (.iface 132 (.agg #[typeHandle Tryd.prog 82]))] rfl (x_call Tryd.call69 (by kernel_rfl)) (errors_as_w (X := X48) (err := err) (target := target) (targetVal := ()) (targetType := ()) hXo62 herr59 (MO.re mtarget60 (Wr.self _ _ (Sub.refl _))) r50 hp) ?_)
    rintro _ w69 ⟨target67, r68, hp, X70, F72, s71, rfl, m73⟩
    have m74 := MO.re m73 (Wr.trans m73.wr mtarget60.wr E63.size)
    have p75 := Ap.grow m73.wr (Ap.symm p29) (OB.old k66) (Nat.le_refl _)
    refine sq (o_pv (.bool r68) rfl (by kernel_rfl) ?_)
    refine nil_ ?_
    refine then_normal (K47 _ _ _ _ ?_)
    refine wp_ret ?_
    have herr76 := (Rep.step (rErr 25 82 84) herr59 s71)
    have gv77 := (GV.step gv61 s71)
    have hXo78 := (Old.step hXo62 s71)
    have E79 := (Evo.thenW E63 (Step.evo s71) mtarget60.wr)
    have hS80 := (Sub.trans hS64 (Step.up s71))
    have hN81 := (News.step hN65 s71)
    have k82 := (OB.step k66 s71 (Ap.symm p29))
    have r83 := (RO.step r50 s71)
    refine end_ret hQ (.bool r68) (by kernel_rfl) ?_
    exact ⟨target67, r68, hp, X70, F72, step_of E79 hF0 hS80 hN81, rfl, m74⟩

def rectolaw2_Tells_p (err : PErr) (w_ : S_rectoref3_Wrong) (Q : Bool → Prop) : Prop :=
  ((w_.Parts.length ≤ 9223372036854775807) → ((inR .i64 w_.Err) → (((w_.Err = (0 : Int)) → Q err.isNil) ∧ ((¬ (w_.Err = (0 : Int))) → (((err.isNil = true) → Q false) ∧ ((¬ (err.isNil = true)) → (((err.isNo = true) → (∀ n134 : Int, err = PErr.no n134 → ((inR .i64 n134) → (∃ k174 : Bool → Prop, (∀ (s173 : Bool), k174 s173 → (((s173 = true) → Q false) ∧ ((s173 = false) → ((((w_.Parts.length : Int) = (0 : Int)) → Q true) ∧ ((¬ ((w_.Parts.length : Int) = (0 : Int))) → (∃ k280 : Bool → S_cellFault → Prop, (∀ (s276 : Bool) (o277 : S_cellFault), k280 s276 o277 → (((s276 = true) → Q false) ∧ ((s276 = false) → (∃ k393 : Bool → Prop, (∀ (s392 : Bool), k393 s392 → Q s392) ∧ (∃ d423 : S_api_Fault, (o277.v = some d423) ∧ ((d423.Part.size ≤ maxLen) → ((inR .i64 d423.At) → ((inL w_.Parts (0 : Int)) ∧ ((((lget w_.Parts (0 : Int)).Word).size ≤ maxLen) → ((inR .i64 ((lget w_.Parts (0 : Int)).At)) → ((((d423.Part : ByteArray) = (lget w_.Parts (0 : Int)).Word) → ((inL w_.Parts (0 : Int)) ∧ ((((lget w_.Parts (0 : Int)).Word).size ≤ maxLen) → ((inR .i64 ((lget w_.Parts (0 : Int)).At)) → (k393 (decide (d423.At = ((lget w_.Parts (0 : Int)).At)))))))) ∧ ((¬ ((d423.Part : ByteArray) = (lget w_.Parts (0 : Int)).Word)) → (k393 false))))))))))))) ∧ (errors_As_p (PErr.no n134) (S_cellFault.mk none) (fun (target304 : S_cellFault) (r305 : Bool) => (((r305 = true) → (k280 target304.v.isNone target304)) ∧ ((r305 = false) → (k280 true target304))))))))))) ∧ (api_Errno_Error_p n134 (fun (r204 : ByteArray) => ((r204.size ≤ maxLen) → (rectoref3_Words_p w_ (fun (r211 : ByteArray) => ((r211.size ≤ maxLen) → ((((r204 : ByteArray) = r211) → (errors_Is_p (PErr.no n134) w_.Err (fun (r218 : Bool) => (k174 (!r218))))) ∧ ((¬ ((r204 : ByteArray) = r211)) → (k174 true))))))))))))) ∧ ((¬ (err.isNo = true)) → (∀ (part459 : ByteArray) (at460 n461 : Int), err = PErr.fault part459 at460 n461 → ((part459.size ≤ maxLen) → ((inR .i64 at460) → ((inR .i64 n461) → (∃ k507 : Bool → Prop, (∀ (s506 : Bool), k507 s506 → (((s506 = true) → Q false) ∧ ((s506 = false) → ((((w_.Parts.length : Int) = (0 : Int)) → Q true) ∧ ((¬ ((w_.Parts.length : Int) = (0 : Int))) → (∃ k619 : Bool → S_cellFault → Prop, (∀ (s615 : Bool) (o616 : S_cellFault), k619 s615 o616 → (((s615 = true) → Q false) ∧ ((s615 = false) → (∃ k734 : Bool → Prop, (∀ (s733 : Bool), k734 s733 → Q s733) ∧ (∃ d764 : S_api_Fault, (o616.v = some d764) ∧ ((d764.Part.size ≤ maxLen) → ((inR .i64 d764.At) → ((inL w_.Parts (0 : Int)) ∧ ((((lget w_.Parts (0 : Int)).Word).size ≤ maxLen) → ((inR .i64 ((lget w_.Parts (0 : Int)).At)) → ((((d764.Part : ByteArray) = (lget w_.Parts (0 : Int)).Word) → ((inL w_.Parts (0 : Int)) ∧ ((((lget w_.Parts (0 : Int)).Word).size ≤ maxLen) → ((inR .i64 ((lget w_.Parts (0 : Int)).At)) → (k734 (decide (d764.At = ((lget w_.Parts (0 : Int)).At)))))))) ∧ ((¬ ((d764.Part : ByteArray) = (lget w_.Parts (0 : Int)).Word)) → (k734 false))))))))))))) ∧ (errors_As_p (PErr.fault part459 at460 n461) (S_cellFault.mk none) (fun (target644 : S_cellFault) (r645 : Bool) => (((r645 = true) → (k619 target644.v.isNone target644)) ∧ ((r645 = false) → (k619 true target644))))))))))) ∧ (api_Fault_Error_p (S_api_Fault.mk part459 at460 (PErr.no n461)) (fun (r539 : ByteArray) => ((r539.size ≤ maxLen) → (rectoref3_Words_p w_ (fun (r546 : ByteArray) => ((r546.size ≤ maxLen) → ((((r539 : ByteArray) = r546) → (errors_Is_p (PErr.fault part459 at460 n461) w_.Err (fun (r554 : Bool) => (k507 (!r554))))) ∧ ((¬ ((r539 : ByteArray) = r546)) → (k507 true))))))))))))))))))))))
set_option maxRecDepth 20000 in
set_option maxHeartbeats 4000000 in
theorem rectolaw2_Tells_w {X : List Nat} {w : World} {err : PErr} {w_ : S_rectoref3_Wrong} {verr1 : Value} {aw_Parts3 : Option Addr} {cw_Parts4 : Nat} {Q : Bool → Prop} (hX0 : Old X w) (herr2 : (rErr 25 82 84).ok X w ([verr1]) err) (hw_Parts5 : Sl r_rectoref3_Part X w aw_Parts3 cw_Parts4 w_.Parts) (rw_Err6 : inR .i64 w_.Err) (gv0 : GV X w 0 [(.iface 132 (.agg #[typeHandle Tryd.prog 39]))]) (hp : rectolaw2_Tells_p err w_ Q) :
    Calls Tryd.prog 19 #[verr1, (.agg #[(.slice aw_Parts3 w_.Parts.length cw_Parts4), (.int .i64 w_.Err)])] w (Ret fun v w' => ∃ (r0 : Bool), Q r0 ∧ Evo [] w w' ∧ v = (.bool r0)) := by
  have hXo := hX0
  have E0 : Evo [] w w := RB.refl _ _ _
  have hS : Sub X X := Sub.refl _
  unfold rectolaw2_Tells_p at hp
  refine enter_ Tryd.func19 rfl 62 [(0, verr1), (1, (.agg #[(.slice aw_Parts3 w_.Parts.length cw_Parts4), (.int .i64 w_.Err)]))] (by kernel_rfl) (fun Qe hQ => ?_)
  replace hp := hp (Sl.len hw_Parts5)
  replace hp := hp rw_Err6
  refine seq_ (fun _ K7 => ?_)
  refine reg_ ?_
  refine sq (o_newX [(.slice aw_Parts3 w_.Parts.length cw_Parts4), (.int .i64 w_.Err)] 45 (X := X) (B := w.heap.size) E0.size rfl (by kernel_rfl) ?_)
  intro b8 w9 X10 s11 k12 n13
  refine sq (o_pv (.bool false) rfl (by kernel_rfl) ?_)
  refine nil_ ?_
  refine then_normal (K7 _ _ _ _ ?_)
  refine seq_ (fun _ K14 => ?_)
  refine seq_ (fun _ K15 => ?_)
  refine reg_ ?_
  refine sq (o_pv (.pointer (some ⟨b8, 1, none⟩)) rfl (by kernel_rfl) ?_)
  refine sq (o_pv (.int .i64 w_.Err) rfl (x_load1 (by kernel_rfl) Tryd.isAgg3 (k12.2.1.cell' 1 rfl)) ?_)
  refine sq (o_pv (.bool (decide (w_.Err = (0 : Int)))) rfl (by kernel_rfl) ?_)
  refine nil_ ?_
  refine then_normal (K15 _ _ _ _ ?_)
  refine cond_d (w_.Err = (0 : Int)) (by kernel_rfl) (fun h16 => ?_) (fun h16 => ?_)
  ·
    replace hp := hp.1 h16
    refine seq_ (fun _ K17 => ?_)
    refine reg_ ?_
    refine sq (o_pv verr1 rfl (by kernel_rfl) ?_)
    refine sq (o_pv (.bool err.isNil) rfl (x_err_eq err herr2 Tryd.underlying39 (by kernel_rfl)) ?_)
    refine sq (o_pv (.bool err.isNil) rfl (by kernel_rfl) ?_)
    refine nil_ ?_
    refine then_normal (K17 _ _ _ _ ?_)
    refine wp_ret ?_
    refine then_ret ?_
    have E18 := (Evo.then0 E0 (Step.evo s11))
    refine end_ret hQ (.bool err.isNil) (by kernel_rfl) ?_
    exact ⟨err.isNil, hp, E18, rfl⟩
  ·
    replace hp := hp.2 h16
    refine wp_skip ?_
    refine then_normal (K14 _ _ _ _ ?_)
    refine seq_ (fun _ K19 => ?_)
    refine seq_ (fun _ K20 => ?_)
    have herr95 := (Rep.step (rErr 25 82 84) herr2 s11)
    by_cases h96 : err.isNil = true
    ·
      replace hp := hp.1 h96
      have hc98 := isNil_eq h96
      rw [hc98] at herr95
      obtain rfl := rErr_inv_nil herr95
      have hw_Parts116 := (Sl.step hw_Parts5 s11)
      have gv117 := (GV.step gv0 s11)
      have hXo118 := (Old.step hXo s11)
      have E119 := (Evo.then0 E0 (Step.evo s11))
      have hS120 := (Sub.trans hS (Step.up s11))
      refine reg_drawn (RB w9.heap.size []) 17 (by kernel_rfl) (fun w121 hd122 => ?_)
      have e123 := Evo.of_drew hd122
      have z124 : w121.heap.size = w9.heap.size := by rw [hd122]
      clear hd122
      have s126 := Step.of0 X10 e123
      have er125 := RB.refl w9.heap.size [] w121
      have hw_Parts127 := (Sl.step hw_Parts116 s126)
      have gv128 := (GV.step gv117 s126)
      have hXo129 := (Old.step hXo118 s126)
      have E130 := (Evo.then0 E119 (Step.evo s126))
      have hS131 := (Sub.trans hS120 (Step.up s126))
      have k132 := (OB.step0 k12 s126)
      refine r_take 0 .nilIface (RB.pre _ _) rfl (by kernel_rfl) (fun _ _ _ h => hQ.panic _ _ _ _ _ h) (.inl ⟨rfl, fun wq hq => (by kernel_rfl)⟩) ?_
      refine r_take 1 (.bool true) (RB.pre _ _) rfl (by kernel_rfl) (fun _ _ _ h => hQ.panic _ _ _ _ _ h) (.inl ⟨rfl, fun wq hq => (x_nilnil_eq Tryd.underlying39 (by kernel_rfl) rfl)⟩) ?_
      refine r_take 2 (.bool true) (RB.pre _ _) rfl (by kernel_rfl) (fun _ _ _ h => hQ.panic _ _ _ _ _ h) (.inl ⟨rfl, fun wq hq => (by kernel_rfl)⟩) ?_
      refine r_take 3 undef (RB.pre _ _) rfl (by kernel_rfl) (fun _ _ _ h => hQ.panic _ _ _ _ _ h) (.inr ⟨by kernel_rfl, rfl⟩) ?_
      refine r_take 4 undef (RB.pre _ _) rfl (by kernel_rfl) (fun _ _ _ h => hQ.panic _ _ _ _ _ h) (.inr ⟨by kernel_rfl, rfl⟩) ?_
      refine r_take 5 undef (RB.pre _ _) rfl (by kernel_rfl) (fun _ _ _ h => hQ.panic _ _ _ _ _ h) (.inr ⟨by kernel_rfl, rfl⟩) ?_
      refine r_take 6 undef (RB.pre _ _) rfl (by kernel_rfl) (fun _ _ _ h => hQ.panic _ _ _ _ _ h) (.inr ⟨by kernel_rfl, rfl⟩) ?_
      refine r_take 7 undef (RB.pre _ _) rfl (by kernel_rfl) (fun _ _ _ h => hQ.panic _ _ _ _ _ h) (.inr ⟨by kernel_rfl, rfl⟩) ?_
      refine r_take 8 (.bool true) (RB.pre _ _) rfl (by kernel_rfl) (fun _ _ _ h => hQ.panic _ _ _ _ _ h) (.inl ⟨rfl, fun wq hq => (by kernel_rfl)⟩) ?_
      refine r_take 9 (.bool true) (RB.pre _ _) rfl (by kernel_rfl) (fun _ _ _ h => hQ.panic _ _ _ _ _ h) (.inl ⟨rfl, fun wq hq => (by kernel_rfl)⟩) ?_
      refine r_take 10 undef (RB.pre _ _) rfl (by kernel_rfl) (fun _ _ _ h => hQ.panic _ _ _ _ _ h) (.inr ⟨by kernel_rfl, rfl⟩) ?_
      refine r_take 11 undef (RB.pre _ _) rfl (by kernel_rfl) (fun _ _ _ h => hQ.panic _ _ _ _ _ h) (.inr ⟨by kernel_rfl, rfl⟩) ?_
      refine r_take 12 undef (RB.pre _ _) rfl (by kernel_rfl) (fun _ _ _ h => hQ.panic _ _ _ _ _ h) (.inr ⟨by kernel_rfl, rfl⟩) ?_
      refine r_take 13 undef (RB.pre _ _) rfl (by kernel_rfl) (fun _ _ _ h => hQ.panic _ _ _ _ _ h) (.inr ⟨by kernel_rfl, rfl⟩) ?_
      refine r_take 14 undef (RB.pre _ _) rfl (by kernel_rfl) (fun _ _ _ h => hQ.panic _ _ _ _ _ h) (.inr ⟨by kernel_rfl, rfl⟩) ?_
      refine r_take 15 undef (RB.pre _ _) rfl (by kernel_rfl) (fun _ _ _ h => hQ.panic _ _ _ _ _ h) (.inr ⟨by kernel_rfl, rfl⟩) ?_
      refine r_take 16 (.bool true) (RB.pre _ _) rfl (by kernel_rfl) (fun _ _ _ h => hQ.panic _ _ _ _ _ h) (.inl ⟨rfl, fun wq hq => (by kernel_rfl)⟩) ?_
      refine r_done (by kernel_rfl) ?_
      refine then_normal (K20 _ _ _ _ ?_)
      refine cond_t (by kernel_rfl) ?_
      refine seq_ (fun _ K133 => ?_)
      refine reg_ ?_
      refine sq (o_pv (.bool false) rfl (by kernel_rfl) ?_)
      refine nil_ ?_
      refine then_normal (K133 _ _ _ _ ?_)
      refine wp_ret ?_
      refine then_ret ?_
      refine end_ret hQ (.bool false) (by kernel_rfl) ?_
      exact ⟨false, hp, E130, rfl⟩
    ·
      replace hp := hp.2 h96
      by_cases h97 : err.isNo = true
      ·
        replace hp := hp.1 h97
        obtain ⟨n134, hc135⟩ := isNo_eq h97
        replace hp := hp n134 hc135
        rw [hc135] at herr95
        obtain ⟨rfl, r136⟩ := rErr_inv_no herr95
        replace hp := hp r136
        have hw_Parts181 := (Sl.step hw_Parts5 s11)
        have gv182 := (GV.step gv0 s11)
        have hXo183 := (Old.step hXo s11)
        have E184 := (Evo.then0 E0 (Step.evo s11))
        have hS185 := (Sub.trans hS (Step.up s11))
        obtain ⟨k174, hk175, hp⟩ := hp
        refine ground_ ?_
        refine join_ 268433408 (fun lq w176 => ∃ (X177 : List Nat) (s173 : Bool), (lq = [(27, (.bool s173))]) ∧ (Evo [] w w176) ∧ (Old X177 w176) ∧ (Sub X X177) ∧ (GV X177 w176 0 [(.iface 132 (.agg #[typeHandle Tryd.prog 39]))]) ∧ (Sl r_rectoref3_Part X177 w176 aw_Parts3 cw_Parts4 w_.Parts) ∧ (OB ([]) w.heap.size X177 w176 b8 [(.slice aw_Parts3 w_.Parts.length cw_Parts4), (.int .i64 w_.Err)] 45) ∧ (k174 s173)) (fun Kj178 hJ179 => ?_) ?_
        ·
          refine reg_drawn (RB w9.heap.size []) 17 (by kernel_rfl) (fun w192 hd193 => ?_)
          have e194 := Evo.of_drew hd193
          have z195 : w192.heap.size = w9.heap.size := by rw [hd193]
          clear hd193
          have s197 := Step.of0 X10 e194
          have er196 := RB.refl w9.heap.size [] w192
          have hw_Parts198 := (Sl.step hw_Parts181 s197)
          have gv199 := (GV.step gv182 s197)
          have hXo200 := (Old.step hXo183 s197)
          have E201 := (Evo.then0 E184 (Step.evo s197))
          have hS202 := (Sub.trans hS185 (Step.up s197))
          have k203 := (OB.step0 k12 s197)
          refine r_take 0 (.iface 25 (.int .i64 n134)) (RB.pre _ _) rfl (by kernel_rfl) (fun _ _ _ h => hQ.panic _ _ _ _ _ h) (.inl ⟨rfl, fun wq hq => (by kernel_rfl)⟩) ?_
          refine r_take 1 (.bool false) (RB.pre _ _) rfl (by kernel_rfl) (fun _ _ _ h => hQ.panic _ _ _ _ _ h) (.inl ⟨rfl, fun wq hq => (x_inil_eq (tp := 25) (v := (.int .i64 n134)) Tryd.underlying39 (by kernel_rfl) (by kernel_rfl))⟩) ?_
          refine r_take 2 (.bool false) (RB.pre _ _) rfl (by kernel_rfl) (fun _ _ _ h => hQ.panic _ _ _ _ _ h) (.inl ⟨rfl, fun wq hq => (by kernel_rfl)⟩) ?_
          refine r_take 3 (.iface 25 (.int .i64 n134)) (RB.pre _ _) rfl (by kernel_rfl) (fun _ _ _ h => hQ.panic _ _ _ _ _ h) (.inl ⟨(by kernel_rfl), fun wq hq => (by kernel_rfl)⟩) ?_
          refine r_take 5 (.agg #[(.slice aw_Parts3 w_.Parts.length cw_Parts4), (.int .i64 w_.Err)]) (RB.pre _ _) rfl (by kernel_rfl) (fun _ _ _ h => hQ.panic _ _ _ _ _ h) (.inl ⟨(by kernel_rfl), fun wq hq => (x_loadN [(.slice aw_Parts3 w_.Parts.length cw_Parts4), (.int .i64 w_.Err)] (by kernel_rfl) Tryd.isAgg45 Tryd.sizeOf45 ((Blk.rb k203.2.1 (RB.trans er196 hq) (Nat.lt_of_lt_of_eq (Blk.lt k203.2.1) z195) (fun h => by cases h)).cells' 0 rfl))⟩) ?_
          refine r_ready [4] (by kernel_rfl) rfl (all_cons ⟨_, _, _, _, _, _, rfl, ?_⟩ all_nil)
          refine o_call 107 #[(.int .i64 n134)] (by kernel_rfl) (x_invoke (t := 25) (v := (.int .i64 n134)) (r := (.int .i64 n134)) (by kernel_rfl) (fun _ => by kernel_rfl) Tryd.call107 (by kernel_rfl)) (api_Errno_Error_w (X := []) (e := n134) (Old.nil _) r136 hp) ?_
          rintro _ w205 ⟨r204, hp, e206, rfl, zr208⟩
          have rm := RB.mono (F' := []) e206 (Nat.le_trans (Nat.le_of_eq z195.symm) (RB.size er196)) (fun _ h => by cases h)
          have er209 := RB.trans er196 rm
          refine ⟨fun _ => rm, ?_⟩
          have s207 := Step.of0 X10 e206
          replace hp := hp zr208
          refine r_ready [6] (by kernel_rfl) rfl (all_cons ⟨_, _, _, _, _, _, rfl, ?_⟩ all_nil)
          have hw_Parts210 := (Sl.step hw_Parts198 s207)
          refine o_call 45 #[(.agg #[(.slice aw_Parts3 w_.Parts.length cw_Parts4), (.int .i64 w_.Err)])] (by kernel_rfl) (x_call Tryd.call45 (by kernel_rfl)) (rectoref3_Words_w (X := []) (w_ := w_) (Old.nil _) (Sl.less hw_Parts210 (Sub.nil _)) rw_Err6 hp) ?_
          rintro _ w212 ⟨r211, hp, e213, rfl, zr215⟩
          have rm := RB.mono (F' := []) e213 (Nat.le_trans (Nat.le_of_eq z195.symm) (RB.size er209)) (fun _ h => by cases h)
          have er216 := RB.trans er209 rm
          refine ⟨fun _ => rm, ?_⟩
          have s214 := Step.of0 X10 e213
          replace hp := hp zr215
          by_cases h217 : (r204 : ByteArray) = r211
          ·
            replace hp := hp.1 h217
            refine r_take 7 (.bool false) (RB.pre _ _) rfl (by kernel_rfl) (fun _ _ _ h => hQ.panic _ _ _ _ _ h) (.inl ⟨(by kernel_rfl), fun wq hq => (x_ndf (p := (r204 : ByteArray) = r211) (x_strne (by kernel_rfl) (by kernel_rfl)) h217)⟩) ?_
            refine r_take 8 (.bool false) (RB.pre _ _) rfl (by kernel_rfl) (fun _ _ _ h => hQ.panic _ _ _ _ _ h) (.inl ⟨rfl, fun wq hq => (by kernel_rfl)⟩) ?_
            refine r_take 9 (.bool false) (RB.pre _ _) rfl (by kernel_rfl) (fun _ _ _ h => hQ.panic _ _ _ _ _ h) (.inl ⟨rfl, fun wq hq => (by kernel_rfl)⟩) ?_
            refine r_take 10 (.iface 25 (.int .i64 n134)) (RB.pre _ _) rfl (by kernel_rfl) (fun _ _ _ h => hQ.panic _ _ _ _ _ h) (.inl ⟨(by kernel_rfl), fun wq hq => (by kernel_rfl)⟩) ?_
            refine r_take 11 (.pointer (some ⟨b8, 1, none⟩)) (RB.pre _ _) rfl (by kernel_rfl) (fun _ _ _ h => hQ.panic _ _ _ _ _ h) (.inl ⟨(by kernel_rfl), fun wq hq => (by kernel_rfl)⟩) ?_
            refine r_take 12 (.int .i64 w_.Err) (RB.pre _ _) rfl (by kernel_rfl) (fun _ _ _ h => hQ.panic _ _ _ _ _ h) (.inl ⟨(by kernel_rfl), fun wq hq => (x_load1 (by kernel_rfl) Tryd.isAgg3 ((Blk.rb k203.2.1 (RB.trans er216 hq) (Nat.lt_of_lt_of_eq (Blk.lt k203.2.1) z195) (fun h => by cases h)).cell' 1 rfl))⟩) ?_
            refine r_take 13 (.iface 25 (.int .i64 w_.Err)) (RB.pre _ _) rfl (by kernel_rfl) (fun _ _ _ h => hQ.panic _ _ _ _ _ h) (.inl ⟨(by kernel_rfl), fun wq hq => (by kernel_rfl)⟩) ?_
            refine r_ready [14] (by kernel_rfl) rfl (all_cons ⟨_, _, _, _, _, _, rfl, ?_⟩ all_nil)
            refine o_call 46 #[(.iface 25 (.int .i64 n134)), (.iface 25 (.int .i64 w_.Err))] (by kernel_rfl) (x_call Tryd.call46 (by kernel_rfl)) (errors_Is_w (X := []) (err := (PErr.no n134)) (target := w_.Err) (Old.nil _) (rErr_no r136) rw_Err6 hp) ?_
            rintro _ w219 ⟨r218, hp, e220, rfl⟩
            have rm := RB.mono (F' := []) e220 (Nat.le_trans (Nat.le_of_eq z195.symm) (RB.size er216)) (fun _ h => by cases h)
            have er222 := RB.trans er216 rm
            refine ⟨fun _ => rm, ?_⟩
            have s221 := Step.of0 X10 e220
            refine r_take 15 (.bool (!r218)) (RB.pre _ _) rfl (by kernel_rfl) (fun _ _ _ h => hQ.panic _ _ _ _ _ h) (.inl ⟨(by kernel_rfl), fun wq hq => (by kernel_rfl)⟩) ?_
            refine r_take 16 (.bool (!r218)) (RB.pre _ _) rfl (by kernel_rfl) (fun _ _ _ h => hQ.panic _ _ _ _ _ h) (.inl ⟨rfl, fun wq hq => (by kernel_rfl)⟩) ?_
            refine r_done (by kernel_rfl) ?_
            have E223 := (Evo.then0 (Evo.then0 (Evo.then0 E201 e206) e213) e220)
            have hXo224 := (Old.step (Old.step (Old.step hXo200 s207) s214) s221)
            have hS225 := (Sub.trans (Sub.trans (Sub.trans hS202 (Step.up s207)) (Step.up s214)) (Step.up s221))
            have gv226 := (GV.step (GV.step (GV.step gv199 s207) s214) s221)
            have hw_Parts227 := (Sl.step (Sl.step hw_Parts210 s214) s221)
            have k228 := (OB.step0 (OB.step0 (OB.step0 k203 s207) s214) s221)
            refine then_normal (hJ179 _ _ _ ⟨[(27, (.bool (!r218)))], fit_mk (fun _ _ => rfl) (by kernel_rfl) (vs_cons (by kernel_rfl) vs_nil), ?_⟩)
            exact ⟨X10, (!r218), rfl, E223, hXo224, hS225, gv226, hw_Parts227, k228, hp⟩
          ·
            replace hp := hp.2 h217
            refine r_take 7 (.bool true) (RB.pre _ _) rfl (by kernel_rfl) (fun _ _ _ h => hQ.panic _ _ _ _ _ h) (.inl ⟨(by kernel_rfl), fun wq hq => (x_ndt (p := (r204 : ByteArray) = r211) (x_strne (by kernel_rfl) (by kernel_rfl)) h217)⟩) ?_
            refine r_take 8 (.bool true) (RB.pre _ _) rfl (by kernel_rfl) (fun _ _ _ h => hQ.panic _ _ _ _ _ h) (.inl ⟨rfl, fun wq hq => (by kernel_rfl)⟩) ?_
            refine r_take 9 (.bool true) (RB.pre _ _) rfl (by kernel_rfl) (fun _ _ _ h => hQ.panic _ _ _ _ _ h) (.inl ⟨rfl, fun wq hq => (by kernel_rfl)⟩) ?_
            refine r_take 10 undef (RB.pre _ _) rfl (by kernel_rfl) (fun _ _ _ h => hQ.panic _ _ _ _ _ h) (.inr ⟨by kernel_rfl, rfl⟩) ?_
            refine r_take 11 undef (RB.pre _ _) rfl (by kernel_rfl) (fun _ _ _ h => hQ.panic _ _ _ _ _ h) (.inr ⟨by kernel_rfl, rfl⟩) ?_
            refine r_take 12 undef (RB.pre _ _) rfl (by kernel_rfl) (fun _ _ _ h => hQ.panic _ _ _ _ _ h) (.inr ⟨by kernel_rfl, rfl⟩) ?_
            refine r_take 13 undef (RB.pre _ _) rfl (by kernel_rfl) (fun _ _ _ h => hQ.panic _ _ _ _ _ h) (.inr ⟨by kernel_rfl, rfl⟩) ?_
            refine r_take 14 undef (RB.pre _ _) rfl (by kernel_rfl) (fun _ _ _ h => hQ.panic _ _ _ _ _ h) (.inr ⟨by kernel_rfl, rfl⟩) ?_
            refine r_take 15 undef (RB.pre _ _) rfl (by kernel_rfl) (fun _ _ _ h => hQ.panic _ _ _ _ _ h) (.inr ⟨by kernel_rfl, rfl⟩) ?_
            refine r_take 16 (.bool true) (RB.pre _ _) rfl (by kernel_rfl) (fun _ _ _ h => hQ.panic _ _ _ _ _ h) (.inl ⟨rfl, fun wq hq => (by kernel_rfl)⟩) ?_
            refine r_done (by kernel_rfl) ?_
            have E229 := (Evo.then0 (Evo.then0 E201 e206) e213)
            have hXo230 := (Old.step (Old.step hXo200 s207) s214)
            have hS231 := (Sub.trans (Sub.trans hS202 (Step.up s207)) (Step.up s214))
            have gv232 := (GV.step (GV.step gv199 s207) s214)
            have hw_Parts233 := (Sl.step hw_Parts210 s214)
            have k234 := (OB.step0 (OB.step0 k203 s207) s214)
            refine then_normal (hJ179 _ _ _ ⟨[(27, (.bool true))], fit_mk (fun _ _ => rfl) (by kernel_rfl) (vs_cons (by kernel_rfl) vs_nil), ?_⟩)
            exact ⟨X10, true, rfl, E229, hXo230, hS231, gv232, hw_Parts233, k234, hp⟩
        ·
          rintro _ w176 g235 ⟨X177, s173, rfl, E186, hXo187, hS188, gv189, hw_Parts190, k191, hv180⟩
          replace hp := hk175 s173 hv180
          refine then_normal (K20 _ _ _ _ ?_)
          refine cond_b s173 (by kernel_rfl) (fun h236 => ?_) (fun h236 => ?_)
          ·
            replace hp := hp.1 h236
            refine seq_ (fun _ K237 => ?_)
            refine reg_ ?_
            refine sq (o_pv (.bool false) rfl (by kernel_rfl) ?_)
            refine nil_ ?_
            refine then_normal (K237 _ _ _ _ ?_)
            refine wp_ret ?_
            refine then_ret ?_
            refine end_ret hQ (.bool false) (by kernel_rfl) ?_
            exact ⟨false, hp, E186, rfl⟩
          ·
            replace hp := hp.2 h236
            refine wp_skip ?_
            refine then_normal (K19 _ _ _ _ ?_)
            refine seq_ (fun _ K238 => ?_)
            refine seq_ (fun _ K239 => ?_)
            refine reg_ ?_
            refine sq (o_pv (.pointer (some ⟨b8, 0, none⟩)) rfl (by kernel_rfl) ?_)
            refine sq (o_pv (.slice aw_Parts3 w_.Parts.length cw_Parts4) rfl (x_load1 (by kernel_rfl) Tryd.isAgg43 (k191.2.1.cell' 0 rfl)) ?_)
            refine sq (o_pv (.int .i64 (w_.Parts.length : Int)) rfl (by kernel_rfl) ?_)
            refine sq (o_pv (.bool (decide ((w_.Parts.length : Int) = (0 : Int)))) rfl (by kernel_rfl) ?_)
            refine nil_ ?_
            refine then_normal (K239 _ _ _ _ ?_)
            refine cond_d ((w_.Parts.length : Int) = (0 : Int)) (by kernel_rfl) (fun h240 => ?_) (fun h240 => ?_)
            ·
              replace hp := hp.1 h240
              refine seq_ (fun _ K241 => ?_)
              refine reg_ ?_
              refine sq (o_pv (.bool true) rfl (by kernel_rfl) ?_)
              refine nil_ ?_
              refine then_normal (K241 _ _ _ _ ?_)
              refine wp_ret ?_
              refine then_ret ?_
              refine end_ret hQ (.bool true) (by kernel_rfl) ?_
              exact ⟨true, hp, E186, rfl⟩
            ·
              replace hp := hp.2 h240
              refine wp_skip ?_
              refine then_normal (K238 _ _ _ _ ?_)
              refine seq_ (fun _ K242 => ?_)
              refine reg_ ?_
              refine sq (o_newX [(.pointer none)] 82 (X := X177) (B := w.heap.size) E186.size rfl (by kernel_rfl) ?_)
              intro b243 w244 X245 s246 k247 n248
              have p249 := n248 _ (OB.old k191)
              refine nil_ ?_
              refine then_normal (K242 _ _ _ _ ?_)
              refine seq_ (fun _ K250 => ?_)
              refine seq_ (fun _ K251 => ?_)
              have E287 := (Evo.then0 E186 (Step.evo s246))
              have hXo288 := (Old.step hXo187 s246)
              have hS289 := (Sub.trans hS188 (Step.up s246))
              have gv290 := (GV.step gv189 s246)
              have hw_Parts291 := (Sl.step hw_Parts190 s246)
              have k292 := (OB.step0 k191 s246)
              obtain ⟨k280, hk281, hp⟩ := hp
              refine ground_ ?_
              refine join_ 1095216660480 (fun lq w282 => ∃ (X283 : List Nat) (s276 : Bool) (o277 : S_cellFault) (F278 : List Nat), (lq = [(39, (.bool s276))]) ∧ (Evo [] w w282) ∧ (Old X283 w282) ∧ (Sub X X283) ∧ (GV X283 w282 0 [(.iface 132 (.agg #[typeHandle Tryd.prog 39]))]) ∧ (Sl r_rectoref3_Part X283 w282 aw_Parts3 cw_Parts4 w_.Parts) ∧ (OB ([]) w.heap.size X283 w282 b8 [(.slice aw_Parts3 w_.Parts.length cw_Parts4), (.int .i64 w_.Err)] 45) ∧ (MO o_cellFault 82 ([]) w.heap.size X283 w282 F278 b243 o277) ∧ (Ap ([b8]) (F278)) ∧ (k280 s276 o277)) (fun Kj284 hJ285 => ?_) ?_
              ·
                refine reg_ ?_
                refine sq (o_pv (.iface 25 (.int .i64 n134)) rfl (by kernel_rfl) ?_)
                refine sq (o_pv (.iface 90 (.pointer (some ⟨b243, 0, none⟩))) rfl (by kernel_rfl) ?_)
                obtain ⟨F300, m301, hs302⟩ := MO.pack (o_cellFault_mk k247 rPtrO_none)
                have p303 := hs302 _ (Ap.cons p249 (Ap.nil_r _))
                refine sq (o_call 47 #[(.iface 25 (.int .i64 n134)), (.iface 90 (.pointer (some ⟨b243, 0, none⟩)))] rfl (x_call Tryd.call47 (by kernel_rfl)) (errors_As_w (X := X245) (err := (PErr.no n134)) (target := (S_cellFault.mk none)) hXo288 (rErr_no r136) (MO.re m301 (Wr.self _ _ (Sub.refl _))) gv290 hp) ?_)
                rintro _ w306 ⟨target304, r305, hp, X307, F309, s308, rfl, m310⟩
                have m311 := MO.re m310 (Wr.trans m310.wr m301.wr E287.size)
                have p312 := Ap.grow m310.wr p303 (OB.old k292) (Nat.le_refl _)
                cases r305
                ·
                  replace hp := hp.2 rfl
                  refine sq (o_pv (.bool true) rfl (by kernel_rfl) ?_)
                  refine sq (o_pv (.bool true) rfl (by kernel_rfl) ?_)
                  refine sq (o_not (by kernel_rfl) ?_)
                  refine sq (o_not (by kernel_rfl) ?_)
                  refine sq (o_pv (.bool true) rfl (by kernel_rfl) ?_)
                  refine nil_ ?_
                  have E313 := (Evo.thenW E287 (Step.evo s308) m301.wr)
                  have hXo314 := (Old.step hXo288 s308)
                  have hS315 := (Sub.trans hS289 (Step.up s308))
                  have gv316 := (GV.step gv290 s308)
                  have hw_Parts317 := (Sl.step hw_Parts291 s308)
                  have k318 := (OB.step k292 s308 p303)
                  refine then_normal (hJ285 _ _ _ ⟨[(39, (.bool true))], fit_mk (fun _ _ => rfl) (by kernel_rfl) (vs_cons (by kernel_rfl) vs_nil), ?_⟩)
                  exact ⟨X307, true, target304, F309, rfl, E313, hXo314, hS315, gv316, hw_Parts317, k318, m311, p312, hp⟩
                ·
                  replace hp := hp.1 rfl
                  refine sq (o_pv (.bool false) rfl (by kernel_rfl) ?_)
                  refine sq (o_pv (.bool false) rfl (by kernel_rfl) ?_)
                  obtain ⟨vov319, k321, hov320, sb322⟩ := o_cellFault_open m311
                  have p323 := Ap.subr p312 sb322
                  refine sq (o_pv vov319 (by kernel_rfl) (x_load1 (by kernel_rfl) Tryd.isAgg82 (k321.2.1.cell' 0 rfl)) ?_)
                  refine sq (o_pv (.bool target304.v.isNone) (by kernel_rfl) (x_ptro_eq hov320 Tryd.underlying82 (by kernel_rfl) (by kernel_rfl)) ?_)
                  refine sq (o_pv (.bool target304.v.isNone) rfl (by kernel_rfl) ?_)
                  refine nil_ ?_
                  have E324 := (Evo.thenW E287 (Step.evo s308) m301.wr)
                  have hXo325 := (Old.step hXo288 s308)
                  have hS326 := (Sub.trans hS289 (Step.up s308))
                  have gv327 := (GV.step gv290 s308)
                  have hw_Parts328 := (Sl.step hw_Parts291 s308)
                  have k329 := (OB.step k292 s308 p303)
                  obtain ⟨F330, m331, hs332⟩ := MO.pack (o_cellFault_mk k321 hov320)
                  have p333 := hs332 _ (Ap.cons p323 (Ap.nil_r _))
                  refine then_normal (hJ285 _ _ _ ⟨[(39, (.bool target304.v.isNone))], fit_mk (fun _ _ => rfl) (by kernel_rfl) (vs_cons (by kernel_rfl) vs_nil), ?_⟩)
                  exact ⟨X307, target304.v.isNone, target304, F330, rfl, E324, hXo325, hS326, gv327, hw_Parts328, k329, m331, p333, hp⟩
              ·
                rintro _ w282 g334 ⟨X283, s276, o277, F278, rfl, E293, hXo294, hS295, gv296, hw_Parts297, k298, m279, p299, hv286⟩
                replace hp := hk281 s276 o277 hv286
                refine then_normal (K251 _ _ _ _ ?_)
                refine cond_b s276 (by kernel_rfl) (fun h335 => ?_) (fun h335 => ?_)
                ·
                  replace hp := hp.1 h335
                  refine seq_ (fun _ K336 => ?_)
                  refine reg_ ?_
                  refine sq (o_pv (.bool false) rfl (by kernel_rfl) ?_)
                  refine nil_ ?_
                  refine then_normal (K336 _ _ _ _ ?_)
                  refine wp_ret ?_
                  refine then_ret ?_
                  refine end_ret hQ (.bool false) (by kernel_rfl) ?_
                  exact ⟨false, hp, E293, rfl⟩
                ·
                  replace hp := hp.2 h335
                  refine wp_skip ?_
                  refine then_normal (K250 _ _ _ _ ?_)
                  refine seq_ (fun _ K337 => ?_)
                  obtain ⟨k393, hk394, hp⟩ := hp
                  refine ground_ ?_
                  refine join_ 4611684918915760144 (fun lq w395 => ∃ (X396 : List Nat) (s392 : Bool), (lq = [(4, (.bool s392))]) ∧ (Evo [] w w395) ∧ (Old X396 w395) ∧ (Sub X X396) ∧ (GV X396 w395 0 [(.iface 132 (.agg #[typeHandle Tryd.prog 39]))]) ∧ (k393 s392)) (fun Kj397 hJ398 => ?_) ?_
                  ·
                    obtain ⟨vov404, k406, hov405, sb407⟩ := o_cellFault_open m279
                    have p408 := Ap.subr p299 sb407
                    refine reg_drawn (RB w282.heap.size []) 22 (by kernel_rfl) (fun w409 hd410 => ?_)
                    have e411 := Evo.of_drew hd410
                    have z412 : w409.heap.size = w282.heap.size := by rw [hd410]
                    clear hd410
                    have s414 := Step.of0 X283 e411
                    have er413 := RB.refl w282.heap.size [] w409
                    have E415 := (Evo.then0 E293 (Step.evo s414))
                    have hXo416 := (Old.step hXo294 s414)
                    have hS417 := (Sub.trans hS295 (Step.up s414))
                    have gv418 := (GV.step gv296 s414)
                    have hw_Parts419 := (Sl.step hw_Parts297 s414)
                    have k420 := (OB.step0 k298 s414)
                    have k421 := (OB.step0 k406 s414)
                    have hov422 := (Rep.step (rPtrO r_api_Fault 84) hov405 s414)
                    refine r_take 0 vov404 (RB.pre _ _) rfl (by kernel_rfl) (fun _ _ _ h => hQ.panic _ _ _ _ _ h) (.inl ⟨rfl, fun wq hq => (x_load1 (by kernel_rfl) Tryd.isAgg82 ((Blk.rb k421.2.1 (RB.trans er413 hq) (Nat.lt_of_lt_of_eq (Blk.lt k421.2.1) z412) (fun h => by cases h)).cell' 0 rfl))⟩) ?_
                    obtain ⟨d423, h424, hp⟩ := hp
                    rw [h424] at hov422
                    obtain ⟨b425, cs426, hvb425, nb427, k428, ok429⟩ := hov422
                    injection hvb425 with hvb425 _; subst hvb425
                    obtain ⟨vpErr432, rfl, zpPart430, rpAt431, hpErr433⟩ := r_api_Fault_open ok429
                    replace hp := hp zpPart430
                    replace hp := hp rpAt431
                    have k434 := (⟨nb427, k428⟩ : RO _ _ _ _ _)
                    refine r_take 1 (.pointer (some ⟨b425, 0, none⟩)) (RB.pre _ _) rfl (by kernel_rfl) (fun _ _ _ h => hQ.panic _ _ _ _ _ h) (.inl ⟨rfl, fun wq hq => (by kernel_rfl)⟩) ?_
                    refine r_take 2 (.pointer (some ⟨b425, 0, none⟩)) (RB.pre _ _) rfl (by kernel_rfl) (fun _ _ _ h => hQ.panic _ _ _ _ _ h) (.inl ⟨rfl, fun wq hq => (by kernel_rfl)⟩) ?_
                    refine r_take 3 (.string d423.Part) (RB.pre _ _) rfl (by kernel_rfl) (fun _ _ _ h => hQ.panic _ _ _ _ _ h) (.inl ⟨rfl, fun wq hq => (x_load1 (by kernel_rfl) Tryd.isAgg9 ((Blk.rb k434.2 (RB.trans er413 hq) (Nat.lt_of_lt_of_eq (Blk.lt k434.2) z412) (fun h => by cases h)).cell' 0 rfl))⟩) ?_
                    refine r_take 4 (.pointer (some ⟨b8, 0, none⟩)) (RB.pre _ _) rfl (by kernel_rfl) (fun _ _ _ h => hQ.panic _ _ _ _ _ h) (.inl ⟨rfl, fun wq hq => (by kernel_rfl)⟩) ?_
                    refine r_take 5 (.slice aw_Parts3 w_.Parts.length cw_Parts4) (RB.pre _ _) rfl (by kernel_rfl) (fun _ _ _ h => hQ.panic _ _ _ _ _ h) (.inl ⟨rfl, fun wq hq => (x_load1 (by kernel_rfl) Tryd.isAgg43 ((Blk.rb k420.2.1 (RB.trans er413 hq) (Nat.lt_of_lt_of_eq (Blk.lt k420.2.1) z412) (fun h => by cases h)).cell' 0 rfl))⟩) ?_
                    obtain ⟨h435, hp⟩ := hp
                    obtain ⟨b436, o437, cs438, ha439, nx440, lt441, ok442, hc443⟩ := Sl.atI hw_Parts419 (0 : Int) h435
                    obtain ⟨rfl, zeWord444, reAt445⟩ := r_rectoref3_Part_open ok442
                    replace hp := hp zeWord444
                    replace hp := hp reAt445
                    refine r_take 6 (.pointer (some ⟨b436, o437 + (0 : Int).toNat * 2, none⟩)) (RB.pre _ _) rfl (by kernel_rfl) (fun _ _ _ h => hQ.panic _ _ _ _ _ h) (.inl ⟨rfl, fun wq hq => (x_ixA (m := w_.Parts.length) (c := cw_Parts4) (k := .i64) (i := (0 : Int)) Tryd.underlying43 Tryd.sizeOf92 (by rw [← ha439]; kernel_rfl) (by kernel_rfl) h435)⟩) ?_
                    refine r_take 7 (.pointer (some ⟨b436, o437 + (0 : Int).toNat * 2, none⟩)) (RB.pre _ _) rfl (by kernel_rfl) (fun _ _ _ h => hQ.panic _ _ _ _ _ h) (.inl ⟨rfl, fun wq hq => (by kernel_rfl)⟩) ?_
                    refine r_take 8 (.string ((lget w_.Parts (0 : Int)).Word)) (RB.pre _ _) rfl (by kernel_rfl) (fun _ _ _ h => hQ.panic _ _ _ _ _ h) (.inl ⟨rfl, fun wq hq => (x_load1 (by kernel_rfl) Tryd.isAgg9 ((CellsAt.rb hc443 (RB.trans er413 hq) (Nat.lt_of_lt_of_eq lt441 z412) (fun h => by cases h)) 0 _ rfl))⟩) ?_
                    by_cases h446 : (d423.Part : ByteArray) = (lget w_.Parts (0 : Int)).Word
                    ·
                      replace hp := hp.1 h446
                      refine r_take 9 (.bool true) (RB.pre _ _) rfl (by kernel_rfl) (fun _ _ _ h => hQ.panic _ _ _ _ _ h) (.inl ⟨rfl, fun wq hq => (x_dt (p := (d423.Part : ByteArray) = (lget w_.Parts (0 : Int)).Word) (x_streq (by kernel_rfl) (by kernel_rfl)) h446)⟩) ?_
                      refine r_take 10 (.bool true) (RB.pre _ _) rfl (by kernel_rfl) (fun _ _ _ h => hQ.panic _ _ _ _ _ h) (.inl ⟨rfl, fun wq hq => (by kernel_rfl)⟩) ?_
                      refine r_take 11 (.pointer (some ⟨b425, 0, none⟩)) (RB.pre _ _) rfl (by kernel_rfl) (fun _ _ _ h => hQ.panic _ _ _ _ _ h) (.inl ⟨(by kernel_rfl), fun wq hq => (x_load1 (by kernel_rfl) Tryd.isAgg82 ((Blk.rb k421.2.1 (RB.trans er413 hq) (Nat.lt_of_lt_of_eq (Blk.lt k421.2.1) z412) (fun h => by cases h)).cell' 0 rfl))⟩) ?_
                      refine r_take 12 (.pointer (some ⟨b425, 0, none⟩)) (RB.pre _ _) rfl (by kernel_rfl) (fun _ _ _ h => hQ.panic _ _ _ _ _ h) (.inl ⟨(by kernel_rfl), fun wq hq => (by kernel_rfl)⟩) ?_
                      refine r_take 13 (.pointer (some ⟨b425, 1, none⟩)) (RB.pre _ _) rfl (by kernel_rfl) (fun _ _ _ h => hQ.panic _ _ _ _ _ h) (.inl ⟨(by kernel_rfl), fun wq hq => (by kernel_rfl)⟩) ?_
                      refine r_take 14 (.int .i64 d423.At) (RB.pre _ _) rfl (by kernel_rfl) (fun _ _ _ h => hQ.panic _ _ _ _ _ h) (.inl ⟨(by kernel_rfl), fun wq hq => (x_load1 (by kernel_rfl) Tryd.isAgg3 ((Blk.rb k434.2 (RB.trans er413 hq) (Nat.lt_of_lt_of_eq (Blk.lt k434.2) z412) (fun h => by cases h)).cell' 1 rfl))⟩) ?_
                      refine r_take 15 (.pointer (some ⟨b8, 0, none⟩)) (RB.pre _ _) rfl (by kernel_rfl) (fun _ _ _ h => hQ.panic _ _ _ _ _ h) (.inl ⟨(by kernel_rfl), fun wq hq => (by kernel_rfl)⟩) ?_
                      refine r_take 16 (.slice aw_Parts3 w_.Parts.length cw_Parts4) (RB.pre _ _) rfl (by kernel_rfl) (fun _ _ _ h => hQ.panic _ _ _ _ _ h) (.inl ⟨(by kernel_rfl), fun wq hq => (x_load1 (by kernel_rfl) Tryd.isAgg43 ((Blk.rb k420.2.1 (RB.trans er413 hq) (Nat.lt_of_lt_of_eq (Blk.lt k420.2.1) z412) (fun h => by cases h)).cell' 0 rfl))⟩) ?_
                      obtain ⟨h447, hp⟩ := hp
                      obtain ⟨b448, o449, cs450, ha451, nx452, lt453, ok454, hc455⟩ := Sl.atI hw_Parts419 (0 : Int) h447
                      obtain ⟨rfl, zeWord456, reAt457⟩ := r_rectoref3_Part_open ok454
                      replace hp := hp zeWord456
                      replace hp := hp reAt457
                      refine r_take 17 (.pointer (some ⟨b448, o449 + (0 : Int).toNat * 2, none⟩)) (RB.pre _ _) rfl (by kernel_rfl) (fun _ _ _ h => hQ.panic _ _ _ _ _ h) (.inl ⟨(by kernel_rfl), fun wq hq => (x_ixA (m := w_.Parts.length) (c := cw_Parts4) (k := .i64) (i := (0 : Int)) Tryd.underlying43 Tryd.sizeOf92 (by rw [← ha451]; kernel_rfl) (by kernel_rfl) h447)⟩) ?_
                      refine r_take 18 (.pointer (some ⟨b448, o449 + (0 : Int).toNat * 2 + 1, none⟩)) (RB.pre _ _) rfl (by kernel_rfl) (fun _ _ _ h => hQ.panic _ _ _ _ _ h) (.inl ⟨(by kernel_rfl), fun wq hq => (by kernel_rfl)⟩) ?_
                      refine r_take 19 (.int .i64 ((lget w_.Parts (0 : Int)).At)) (RB.pre _ _) rfl (by kernel_rfl) (fun _ _ _ h => hQ.panic _ _ _ _ _ h) (.inl ⟨(by kernel_rfl), fun wq hq => (x_load1 (by kernel_rfl) Tryd.isAgg3 ((CellsAt.rb hc455 (RB.trans er413 hq) (Nat.lt_of_lt_of_eq lt453 z412) (fun h => by cases h)) 1 _ rfl))⟩) ?_
                      refine r_take 20 (.bool (decide (d423.At = ((lget w_.Parts (0 : Int)).At)))) (RB.pre _ _) rfl (by kernel_rfl) (fun _ _ _ h => hQ.panic _ _ _ _ _ h) (.inl ⟨(by kernel_rfl), fun wq hq => (by kernel_rfl)⟩) ?_
                      refine r_take 21 (.bool (decide (d423.At = ((lget w_.Parts (0 : Int)).At)))) (RB.pre _ _) rfl (by kernel_rfl) (fun _ _ _ h => hQ.panic _ _ _ _ _ h) (.inl ⟨rfl, fun wq hq => (by kernel_rfl)⟩) ?_
                      refine r_ready [22] (by kernel_rfl) rfl (all_cons ⟨_, _, _, _, _, _, rfl, ?_⟩ all_nil)
                      refine o_pv (.bool (decide (d423.At = ((lget w_.Parts (0 : Int)).At)))) rfl (by kernel_rfl) ?_
                      refine ⟨fun h => absurd h (by decide), ?_⟩
                      refine r_done (by kernel_rfl) ?_
                      refine then_normal (hJ398 _ _ _ ⟨[(4, (.bool (decide (d423.At = ((lget w_.Parts (0 : Int)).At)))))], fit_mk (fun _ _ => rfl) (by kernel_rfl) (vs_cons (by kernel_rfl) vs_nil), ?_⟩)
                      exact ⟨X283, (decide (d423.At = ((lget w_.Parts (0 : Int)).At))), rfl, E415, hXo416, hS417, gv418, hp⟩
                    ·
                      replace hp := hp.2 h446
                      refine r_take 9 (.bool false) (RB.pre _ _) rfl (by kernel_rfl) (fun _ _ _ h => hQ.panic _ _ _ _ _ h) (.inl ⟨rfl, fun wq hq => (x_df (p := (d423.Part : ByteArray) = (lget w_.Parts (0 : Int)).Word) (x_streq (by kernel_rfl) (by kernel_rfl)) h446)⟩) ?_
                      refine r_take 10 (.bool false) (RB.pre _ _) rfl (by kernel_rfl) (fun _ _ _ h => hQ.panic _ _ _ _ _ h) (.inl ⟨rfl, fun wq hq => (by kernel_rfl)⟩) ?_
                      refine r_take 11 undef (RB.pre _ _) rfl (by kernel_rfl) (fun _ _ _ h => hQ.panic _ _ _ _ _ h) (.inr ⟨by kernel_rfl, rfl⟩) ?_
                      refine r_take 12 undef (RB.pre _ _) rfl (by kernel_rfl) (fun _ _ _ h => hQ.panic _ _ _ _ _ h) (.inr ⟨by kernel_rfl, rfl⟩) ?_
                      refine r_take 13 undef (RB.pre _ _) rfl (by kernel_rfl) (fun _ _ _ h => hQ.panic _ _ _ _ _ h) (.inr ⟨by kernel_rfl, rfl⟩) ?_
                      refine r_take 14 undef (RB.pre _ _) rfl (by kernel_rfl) (fun _ _ _ h => hQ.panic _ _ _ _ _ h) (.inr ⟨by kernel_rfl, rfl⟩) ?_
                      refine r_take 15 undef (RB.pre _ _) rfl (by kernel_rfl) (fun _ _ _ h => hQ.panic _ _ _ _ _ h) (.inr ⟨by kernel_rfl, rfl⟩) ?_
                      refine r_take 16 undef (RB.pre _ _) rfl (by kernel_rfl) (fun _ _ _ h => hQ.panic _ _ _ _ _ h) (.inr ⟨by kernel_rfl, rfl⟩) ?_
                      refine r_take 17 undef (RB.pre _ _) rfl (by kernel_rfl) (fun _ _ _ h => hQ.panic _ _ _ _ _ h) (.inr ⟨by kernel_rfl, rfl⟩) ?_
                      refine r_take 18 undef (RB.pre _ _) rfl (by kernel_rfl) (fun _ _ _ h => hQ.panic _ _ _ _ _ h) (.inr ⟨by kernel_rfl, rfl⟩) ?_
                      refine r_take 19 undef (RB.pre _ _) rfl (by kernel_rfl) (fun _ _ _ h => hQ.panic _ _ _ _ _ h) (.inr ⟨by kernel_rfl, rfl⟩) ?_
                      refine r_take 20 undef (RB.pre _ _) rfl (by kernel_rfl) (fun _ _ _ h => hQ.panic _ _ _ _ _ h) (.inr ⟨by kernel_rfl, rfl⟩) ?_
                      refine r_take 21 (.bool false) (RB.pre _ _) rfl (by kernel_rfl) (fun _ _ _ h => hQ.panic _ _ _ _ _ h) (.inl ⟨rfl, fun wq hq => (by kernel_rfl)⟩) ?_
                      refine r_ready [22] (by kernel_rfl) rfl (all_cons ⟨_, _, _, _, _, _, rfl, ?_⟩ all_nil)
                      refine o_pv (.bool false) rfl (by kernel_rfl) ?_
                      refine ⟨fun h => absurd h (by decide), ?_⟩
                      refine r_done (by kernel_rfl) ?_
                      refine then_normal (hJ398 _ _ _ ⟨[(4, (.bool false))], fit_mk (fun _ _ => rfl) (by kernel_rfl) (vs_cons (by kernel_rfl) vs_nil), ?_⟩)
                      exact ⟨X283, false, rfl, E415, hXo416, hS417, gv418, hp⟩
                  ·
                    rintro _ w395 g458 ⟨X396, s392, rfl, E400, hXo401, hS402, gv403, hv399⟩
                    replace hp := hk394 s392 hv399
                    refine then_normal (K337 _ _ _ _ ?_)
                    refine wp_ret ?_
                    refine end_ret hQ (.bool s392) (by kernel_rfl) ?_
                    exact ⟨s392, hp, E400, rfl⟩
      ·
        replace hp := hp.2 h97
        obtain ⟨part459, at460, n461, hc462⟩ := isFault_eq h96 h97
        replace hp := hp part459 at460 n461 hc462
        rw [hc462] at herr95
        obtain ⟨b463, rfl, k464, z465, r466, r467⟩ := rErr_inv_fault herr95
        replace hp := hp z465
        replace hp := hp r466
        replace hp := hp r467
        have hw_Parts514 := (Sl.step hw_Parts5 s11)
        have gv515 := (GV.step gv0 s11)
        have hXo516 := (Old.step hXo s11)
        have E517 := (Evo.then0 E0 (Step.evo s11))
        have hS518 := (Sub.trans hS (Step.up s11))
        obtain ⟨k507, hk508, hp⟩ := hp
        refine ground_ ?_
        refine join_ 268433408 (fun lq w509 => ∃ (X510 : List Nat) (s506 : Bool), (lq = [(27, (.bool s506))]) ∧ (Evo [] w w509) ∧ (Old X510 w509) ∧ (Sub X X510) ∧ (GV X510 w509 0 [(.iface 132 (.agg #[typeHandle Tryd.prog 39]))]) ∧ (RO X510 w509 b463 [(.string part459), (.int .i64 at460), (.iface 25 (.int .i64 n461))] 84) ∧ (Sl r_rectoref3_Part X510 w509 aw_Parts3 cw_Parts4 w_.Parts) ∧ (OB ([]) w.heap.size X510 w509 b8 [(.slice aw_Parts3 w_.Parts.length cw_Parts4), (.int .i64 w_.Err)] 45) ∧ (k507 s506)) (fun Kj511 hJ512 => ?_) ?_
        ·
          refine reg_drawn (RB w9.heap.size []) 17 (by kernel_rfl) (fun w526 hd527 => ?_)
          have e528 := Evo.of_drew hd527
          have z529 : w526.heap.size = w9.heap.size := by rw [hd527]
          clear hd527
          have s531 := Step.of0 X10 e528
          have er530 := RB.refl w9.heap.size [] w526
          have hw_Parts532 := (Sl.step hw_Parts514 s531)
          have gv533 := (GV.step gv515 s531)
          have hXo534 := (Old.step hXo516 s531)
          have E535 := (Evo.then0 E517 (Step.evo s531))
          have hS536 := (Sub.trans hS518 (Step.up s531))
          have k537 := (OB.step0 k12 s531)
          have k538 := (RO.step k464 s531)
          refine r_take 0 (.iface 82 (.pointer (some ⟨b463, 0, none⟩))) (RB.pre _ _) rfl (by kernel_rfl) (fun _ _ _ h => hQ.panic _ _ _ _ _ h) (.inl ⟨rfl, fun wq hq => (by kernel_rfl)⟩) ?_
          refine r_take 1 (.bool false) (RB.pre _ _) rfl (by kernel_rfl) (fun _ _ _ h => hQ.panic _ _ _ _ _ h) (.inl ⟨rfl, fun wq hq => (x_inil_eq (tp := 82) (v := (.pointer (some ⟨b463, 0, none⟩))) Tryd.underlying39 (by kernel_rfl) (by kernel_rfl))⟩) ?_
          refine r_take 2 (.bool false) (RB.pre _ _) rfl (by kernel_rfl) (fun _ _ _ h => hQ.panic _ _ _ _ _ h) (.inl ⟨rfl, fun wq hq => (by kernel_rfl)⟩) ?_
          refine r_take 3 (.iface 82 (.pointer (some ⟨b463, 0, none⟩))) (RB.pre _ _) rfl (by kernel_rfl) (fun _ _ _ h => hQ.panic _ _ _ _ _ h) (.inl ⟨(by kernel_rfl), fun wq hq => (by kernel_rfl)⟩) ?_
          refine r_take 5 (.agg #[(.slice aw_Parts3 w_.Parts.length cw_Parts4), (.int .i64 w_.Err)]) (RB.pre _ _) rfl (by kernel_rfl) (fun _ _ _ h => hQ.panic _ _ _ _ _ h) (.inl ⟨(by kernel_rfl), fun wq hq => (x_loadN [(.slice aw_Parts3 w_.Parts.length cw_Parts4), (.int .i64 w_.Err)] (by kernel_rfl) Tryd.isAgg45 Tryd.sizeOf45 ((Blk.rb k537.2.1 (RB.trans er530 hq) (Nat.lt_of_lt_of_eq (Blk.lt k537.2.1) z529) (fun h => by cases h)).cells' 0 rfl))⟩) ?_
          refine r_ready [4] (by kernel_rfl) rfl (all_cons ⟨_, _, _, _, _, _, rfl, ?_⟩ all_nil)
          refine o_call 109 #[(.pointer (some ⟨b463, 0, none⟩))] (by kernel_rfl) (x_invoke (t := 82) (v := (.pointer (some ⟨b463, 0, none⟩))) (r := (.pointer (some ⟨b463, 0, none⟩))) (by kernel_rfl) (fun _ => by kernel_rfl) Tryd.call109 (by kernel_rfl)) (api_Fault_Error_w (X := []) (f_ := (S_api_Fault.mk part459 at460 (PErr.no n461))) (Old.nil _) ⟨(fun hm => by cases hm), k538.2⟩ z465 r466 (rErr_no r467) hp) ?_
          rintro _ w540 ⟨r539, hp, e541, rfl, zr543⟩
          have rm := RB.mono (F' := []) e541 (Nat.le_trans (Nat.le_of_eq z529.symm) (RB.size er530)) (fun _ h => by cases h)
          have er544 := RB.trans er530 rm
          refine ⟨fun _ => rm, ?_⟩
          have s542 := Step.of0 X10 e541
          replace hp := hp zr543
          refine r_ready [6] (by kernel_rfl) rfl (all_cons ⟨_, _, _, _, _, _, rfl, ?_⟩ all_nil)
          have hw_Parts545 := (Sl.step hw_Parts532 s542)
          refine o_call 45 #[(.agg #[(.slice aw_Parts3 w_.Parts.length cw_Parts4), (.int .i64 w_.Err)])] (by kernel_rfl) (x_call Tryd.call45 (by kernel_rfl)) (rectoref3_Words_w (X := []) (w_ := w_) (Old.nil _) (Sl.less hw_Parts545 (Sub.nil _)) rw_Err6 hp) ?_
          rintro _ w547 ⟨r546, hp, e548, rfl, zr550⟩
          have rm := RB.mono (F' := []) e548 (Nat.le_trans (Nat.le_of_eq z529.symm) (RB.size er544)) (fun _ h => by cases h)
          have er551 := RB.trans er544 rm
          refine ⟨fun _ => rm, ?_⟩
          have s549 := Step.of0 X10 e548
          replace hp := hp zr550
          by_cases h552 : (r539 : ByteArray) = r546
          ·
            replace hp := hp.1 h552
            refine r_take 7 (.bool false) (RB.pre _ _) rfl (by kernel_rfl) (fun _ _ _ h => hQ.panic _ _ _ _ _ h) (.inl ⟨(by kernel_rfl), fun wq hq => (x_ndf (p := (r539 : ByteArray) = r546) (x_strne (by kernel_rfl) (by kernel_rfl)) h552)⟩) ?_
            refine r_take 8 (.bool false) (RB.pre _ _) rfl (by kernel_rfl) (fun _ _ _ h => hQ.panic _ _ _ _ _ h) (.inl ⟨rfl, fun wq hq => (by kernel_rfl)⟩) ?_
            refine r_take 9 (.bool false) (RB.pre _ _) rfl (by kernel_rfl) (fun _ _ _ h => hQ.panic _ _ _ _ _ h) (.inl ⟨rfl, fun wq hq => (by kernel_rfl)⟩) ?_
            refine r_take 10 (.iface 82 (.pointer (some ⟨b463, 0, none⟩))) (RB.pre _ _) rfl (by kernel_rfl) (fun _ _ _ h => hQ.panic _ _ _ _ _ h) (.inl ⟨(by kernel_rfl), fun wq hq => (by kernel_rfl)⟩) ?_
            refine r_take 11 (.pointer (some ⟨b8, 1, none⟩)) (RB.pre _ _) rfl (by kernel_rfl) (fun _ _ _ h => hQ.panic _ _ _ _ _ h) (.inl ⟨(by kernel_rfl), fun wq hq => (by kernel_rfl)⟩) ?_
            refine r_take 12 (.int .i64 w_.Err) (RB.pre _ _) rfl (by kernel_rfl) (fun _ _ _ h => hQ.panic _ _ _ _ _ h) (.inl ⟨(by kernel_rfl), fun wq hq => (x_load1 (by kernel_rfl) Tryd.isAgg3 ((Blk.rb k537.2.1 (RB.trans er551 hq) (Nat.lt_of_lt_of_eq (Blk.lt k537.2.1) z529) (fun h => by cases h)).cell' 1 rfl))⟩) ?_
            refine r_take 13 (.iface 25 (.int .i64 w_.Err)) (RB.pre _ _) rfl (by kernel_rfl) (fun _ _ _ h => hQ.panic _ _ _ _ _ h) (.inl ⟨(by kernel_rfl), fun wq hq => (by kernel_rfl)⟩) ?_
            refine r_ready [14] (by kernel_rfl) rfl (all_cons ⟨_, _, _, _, _, _, rfl, ?_⟩ all_nil)
            have k553 := (RO.step (RO.step k538 s542) s549)
            refine o_call 46 #[(.iface 82 (.pointer (some ⟨b463, 0, none⟩))), (.iface 25 (.int .i64 w_.Err))] (by kernel_rfl) (x_call Tryd.call46 (by kernel_rfl)) (errors_Is_w (X := []) (err := (PErr.fault part459 at460 n461)) (target := w_.Err) (Old.nil _) (rErr_fault (fun hm => by cases hm) k553.2 z465 r466 r467) rw_Err6 hp) ?_
            rintro _ w555 ⟨r554, hp, e556, rfl⟩
            have rm := RB.mono (F' := []) e556 (Nat.le_trans (Nat.le_of_eq z529.symm) (RB.size er551)) (fun _ h => by cases h)
            have er558 := RB.trans er551 rm
            refine ⟨fun _ => rm, ?_⟩
            have s557 := Step.of0 X10 e556
            refine r_take 15 (.bool (!r554)) (RB.pre _ _) rfl (by kernel_rfl) (fun _ _ _ h => hQ.panic _ _ _ _ _ h) (.inl ⟨(by kernel_rfl), fun wq hq => (by kernel_rfl)⟩) ?_
            refine r_take 16 (.bool (!r554)) (RB.pre _ _) rfl (by kernel_rfl) (fun _ _ _ h => hQ.panic _ _ _ _ _ h) (.inl ⟨rfl, fun wq hq => (by kernel_rfl)⟩) ?_
            refine r_done (by kernel_rfl) ?_
            have E559 := (Evo.then0 (Evo.then0 (Evo.then0 E535 e541) e548) e556)
            have hXo560 := (Old.step (Old.step (Old.step hXo534 s542) s549) s557)
            have hS561 := (Sub.trans (Sub.trans (Sub.trans hS536 (Step.up s542)) (Step.up s549)) (Step.up s557))
            have gv562 := (GV.step (GV.step (GV.step gv533 s542) s549) s557)
            have k563 := (RO.step k553 s557)
            have hw_Parts564 := (Sl.step (Sl.step hw_Parts545 s549) s557)
            have k565 := (OB.step0 (OB.step0 (OB.step0 k537 s542) s549) s557)
            refine then_normal (hJ512 _ _ _ ⟨[(27, (.bool (!r554)))], fit_mk (fun _ _ => rfl) (by kernel_rfl) (vs_cons (by kernel_rfl) vs_nil), ?_⟩)
            exact ⟨X10, (!r554), rfl, E559, hXo560, hS561, gv562, k563, hw_Parts564, k565, hp⟩
          ·
            replace hp := hp.2 h552
            refine r_take 7 (.bool true) (RB.pre _ _) rfl (by kernel_rfl) (fun _ _ _ h => hQ.panic _ _ _ _ _ h) (.inl ⟨(by kernel_rfl), fun wq hq => (x_ndt (p := (r539 : ByteArray) = r546) (x_strne (by kernel_rfl) (by kernel_rfl)) h552)⟩) ?_
            refine r_take 8 (.bool true) (RB.pre _ _) rfl (by kernel_rfl) (fun _ _ _ h => hQ.panic _ _ _ _ _ h) (.inl ⟨rfl, fun wq hq => (by kernel_rfl)⟩) ?_
            refine r_take 9 (.bool true) (RB.pre _ _) rfl (by kernel_rfl) (fun _ _ _ h => hQ.panic _ _ _ _ _ h) (.inl ⟨rfl, fun wq hq => (by kernel_rfl)⟩) ?_
            refine r_take 10 undef (RB.pre _ _) rfl (by kernel_rfl) (fun _ _ _ h => hQ.panic _ _ _ _ _ h) (.inr ⟨by kernel_rfl, rfl⟩) ?_
            refine r_take 11 undef (RB.pre _ _) rfl (by kernel_rfl) (fun _ _ _ h => hQ.panic _ _ _ _ _ h) (.inr ⟨by kernel_rfl, rfl⟩) ?_
            refine r_take 12 undef (RB.pre _ _) rfl (by kernel_rfl) (fun _ _ _ h => hQ.panic _ _ _ _ _ h) (.inr ⟨by kernel_rfl, rfl⟩) ?_
            refine r_take 13 undef (RB.pre _ _) rfl (by kernel_rfl) (fun _ _ _ h => hQ.panic _ _ _ _ _ h) (.inr ⟨by kernel_rfl, rfl⟩) ?_
            refine r_take 14 undef (RB.pre _ _) rfl (by kernel_rfl) (fun _ _ _ h => hQ.panic _ _ _ _ _ h) (.inr ⟨by kernel_rfl, rfl⟩) ?_
            refine r_take 15 undef (RB.pre _ _) rfl (by kernel_rfl) (fun _ _ _ h => hQ.panic _ _ _ _ _ h) (.inr ⟨by kernel_rfl, rfl⟩) ?_
            refine r_take 16 (.bool true) (RB.pre _ _) rfl (by kernel_rfl) (fun _ _ _ h => hQ.panic _ _ _ _ _ h) (.inl ⟨rfl, fun wq hq => (by kernel_rfl)⟩) ?_
            refine r_done (by kernel_rfl) ?_
            have E566 := (Evo.then0 (Evo.then0 E535 e541) e548)
            have hXo567 := (Old.step (Old.step hXo534 s542) s549)
            have hS568 := (Sub.trans (Sub.trans hS536 (Step.up s542)) (Step.up s549))
            have gv569 := (GV.step (GV.step gv533 s542) s549)
            have k570 := (RO.step (RO.step k538 s542) s549)
            have hw_Parts571 := (Sl.step hw_Parts545 s549)
            have k572 := (OB.step0 (OB.step0 k537 s542) s549)
            refine then_normal (hJ512 _ _ _ ⟨[(27, (.bool true))], fit_mk (fun _ _ => rfl) (by kernel_rfl) (vs_cons (by kernel_rfl) vs_nil), ?_⟩)
            exact ⟨X10, true, rfl, E566, hXo567, hS568, gv569, k570, hw_Parts571, k572, hp⟩
        ·
          rintro _ w509 g573 ⟨X510, s506, rfl, E519, hXo520, hS521, gv522, k523, hw_Parts524, k525, hv513⟩
          replace hp := hk508 s506 hv513
          refine then_normal (K20 _ _ _ _ ?_)
          refine cond_b s506 (by kernel_rfl) (fun h574 => ?_) (fun h574 => ?_)
          ·
            replace hp := hp.1 h574
            refine seq_ (fun _ K575 => ?_)
            refine reg_ ?_
            refine sq (o_pv (.bool false) rfl (by kernel_rfl) ?_)
            refine nil_ ?_
            refine then_normal (K575 _ _ _ _ ?_)
            refine wp_ret ?_
            refine then_ret ?_
            refine end_ret hQ (.bool false) (by kernel_rfl) ?_
            exact ⟨false, hp, E519, rfl⟩
          ·
            replace hp := hp.2 h574
            refine wp_skip ?_
            refine then_normal (K19 _ _ _ _ ?_)
            refine seq_ (fun _ K576 => ?_)
            refine seq_ (fun _ K577 => ?_)
            refine reg_ ?_
            refine sq (o_pv (.pointer (some ⟨b8, 0, none⟩)) rfl (by kernel_rfl) ?_)
            refine sq (o_pv (.slice aw_Parts3 w_.Parts.length cw_Parts4) rfl (x_load1 (by kernel_rfl) Tryd.isAgg43 (k525.2.1.cell' 0 rfl)) ?_)
            refine sq (o_pv (.int .i64 (w_.Parts.length : Int)) rfl (by kernel_rfl) ?_)
            refine sq (o_pv (.bool (decide ((w_.Parts.length : Int) = (0 : Int)))) rfl (by kernel_rfl) ?_)
            refine nil_ ?_
            refine then_normal (K577 _ _ _ _ ?_)
            refine cond_d ((w_.Parts.length : Int) = (0 : Int)) (by kernel_rfl) (fun h578 => ?_) (fun h578 => ?_)
            ·
              replace hp := hp.1 h578
              refine seq_ (fun _ K579 => ?_)
              refine reg_ ?_
              refine sq (o_pv (.bool true) rfl (by kernel_rfl) ?_)
              refine nil_ ?_
              refine then_normal (K579 _ _ _ _ ?_)
              refine wp_ret ?_
              refine then_ret ?_
              refine end_ret hQ (.bool true) (by kernel_rfl) ?_
              exact ⟨true, hp, E519, rfl⟩
            ·
              replace hp := hp.2 h578
              refine wp_skip ?_
              refine then_normal (K576 _ _ _ _ ?_)
              refine seq_ (fun _ K580 => ?_)
              refine reg_ ?_
              refine sq (o_newX [(.pointer none)] 82 (X := X510) (B := w.heap.size) E519.size rfl (by kernel_rfl) ?_)
              intro b581 w582 X583 s584 k585 n586
              have p587 := n586 _ (OB.old k525)
              refine nil_ ?_
              refine then_normal (K580 _ _ _ _ ?_)
              refine seq_ (fun _ K588 => ?_)
              refine seq_ (fun _ K589 => ?_)
              have E626 := (Evo.then0 E519 (Step.evo s584))
              have hXo627 := (Old.step hXo520 s584)
              have hS628 := (Sub.trans hS521 (Step.up s584))
              have gv629 := (GV.step gv522 s584)
              have k630 := (RO.step k523 s584)
              have hw_Parts631 := (Sl.step hw_Parts524 s584)
              have k632 := (OB.step0 k525 s584)
              obtain ⟨k619, hk620, hp⟩ := hp
              refine ground_ ?_
              refine join_ 1095216660480 (fun lq w621 => ∃ (X622 : List Nat) (s615 : Bool) (o616 : S_cellFault) (F617 : List Nat), (lq = [(39, (.bool s615))]) ∧ (Evo [] w w621) ∧ (Old X622 w621) ∧ (Sub X X622) ∧ (GV X622 w621 0 [(.iface 132 (.agg #[typeHandle Tryd.prog 39]))]) ∧ (Sl r_rectoref3_Part X622 w621 aw_Parts3 cw_Parts4 w_.Parts) ∧ (OB ([]) w.heap.size X622 w621 b8 [(.slice aw_Parts3 w_.Parts.length cw_Parts4), (.int .i64 w_.Err)] 45) ∧ (MO o_cellFault 82 ([]) w.heap.size X622 w621 F617 b581 o616) ∧ (Ap ([b8]) (F617)) ∧ (k619 s615 o616)) (fun Kj623 hJ624 => ?_) ?_
              ·
                refine reg_ ?_
                refine sq (o_pv (.iface 82 (.pointer (some ⟨b463, 0, none⟩))) rfl (by kernel_rfl) ?_)
                refine sq (o_pv (.iface 90 (.pointer (some ⟨b581, 0, none⟩))) rfl (by kernel_rfl) ?_)
                obtain ⟨F640, m641, hs642⟩ := MO.pack (o_cellFault_mk k585 rPtrO_none)
                have p643 := hs642 _ (Ap.cons p587 (Ap.nil_r _))
                refine sq (o_call 47 #[(.iface 82 (.pointer (some ⟨b463, 0, none⟩))), (.iface 90 (.pointer (some ⟨b581, 0, none⟩)))] rfl (x_call Tryd.call47 (by kernel_rfl)) (errors_As_w (X := X583) (err := (PErr.fault part459 at460 n461)) (target := (S_cellFault.mk none)) hXo627 (rErr_fault k630.1 k630.2 z465 r466 r467) (MO.re m641 (Wr.self _ _ (Sub.refl _))) gv629 hp) ?_)
                rintro _ w646 ⟨target644, r645, hp, X647, F649, s648, rfl, m650⟩
                have m651 := MO.re m650 (Wr.trans m650.wr m641.wr E626.size)
                have p652 := Ap.grow m650.wr p643 (OB.old k632) (Nat.le_refl _)
                cases r645
                ·
                  replace hp := hp.2 rfl
                  refine sq (o_pv (.bool true) rfl (by kernel_rfl) ?_)
                  refine sq (o_pv (.bool true) rfl (by kernel_rfl) ?_)
                  refine sq (o_not (by kernel_rfl) ?_)
                  refine sq (o_not (by kernel_rfl) ?_)
                  refine sq (o_pv (.bool true) rfl (by kernel_rfl) ?_)
                  refine nil_ ?_
                  have E653 := (Evo.thenW E626 (Step.evo s648) m641.wr)
                  have hXo654 := (Old.step hXo627 s648)
                  have hS655 := (Sub.trans hS628 (Step.up s648))
                  have gv656 := (GV.step gv629 s648)
                  have hw_Parts657 := (Sl.step hw_Parts631 s648)
                  have k658 := (OB.step k632 s648 p643)
                  refine then_normal (hJ624 _ _ _ ⟨[(39, (.bool true))], fit_mk (fun _ _ => rfl) (by kernel_rfl) (vs_cons (by kernel_rfl) vs_nil), ?_⟩)
                  exact ⟨X647, true, target644, F649, rfl, E653, hXo654, hS655, gv656, hw_Parts657, k658, m651, p652, hp⟩
                ·
                  replace hp := hp.1 rfl
                  refine sq (o_pv (.bool false) rfl (by kernel_rfl) ?_)
                  refine sq (o_pv (.bool false) rfl (by kernel_rfl) ?_)
                  obtain ⟨vov659, k661, hov660, sb662⟩ := o_cellFault_open m651
                  have p663 := Ap.subr p652 sb662
                  refine sq (o_pv vov659 (by kernel_rfl) (x_load1 (by kernel_rfl) Tryd.isAgg82 (k661.2.1.cell' 0 rfl)) ?_)
                  refine sq (o_pv (.bool target644.v.isNone) (by kernel_rfl) (x_ptro_eq hov660 Tryd.underlying82 (by kernel_rfl) (by kernel_rfl)) ?_)
                  refine sq (o_pv (.bool target644.v.isNone) rfl (by kernel_rfl) ?_)
                  refine nil_ ?_
                  have E664 := (Evo.thenW E626 (Step.evo s648) m641.wr)
                  have hXo665 := (Old.step hXo627 s648)
                  have hS666 := (Sub.trans hS628 (Step.up s648))
                  have gv667 := (GV.step gv629 s648)
                  have k668 := (RO.step k630 s648)
                  have hw_Parts669 := (Sl.step hw_Parts631 s648)
                  have k670 := (OB.step k632 s648 p643)
                  obtain ⟨F671, m672, hs673⟩ := MO.pack (o_cellFault_mk k661 hov660)
                  have p674 := hs673 _ (Ap.cons p663 (Ap.nil_r _))
                  refine then_normal (hJ624 _ _ _ ⟨[(39, (.bool target644.v.isNone))], fit_mk (fun _ _ => rfl) (by kernel_rfl) (vs_cons (by kernel_rfl) vs_nil), ?_⟩)
                  exact ⟨X647, target644.v.isNone, target644, F671, rfl, E664, hXo665, hS666, gv667, hw_Parts669, k670, m672, p674, hp⟩
              ·
                rintro _ w621 g675 ⟨X622, s615, o616, F617, rfl, E633, hXo634, hS635, gv636, hw_Parts637, k638, m618, p639, hv625⟩
                replace hp := hk620 s615 o616 hv625
                refine then_normal (K589 _ _ _ _ ?_)
                refine cond_b s615 (by kernel_rfl) (fun h676 => ?_) (fun h676 => ?_)
                ·
                  replace hp := hp.1 h676
                  refine seq_ (fun _ K677 => ?_)
                  refine reg_ ?_
                  refine sq (o_pv (.bool false) rfl (by kernel_rfl) ?_)
                  refine nil_ ?_
                  refine then_normal (K677 _ _ _ _ ?_)
                  refine wp_ret ?_
                  refine then_ret ?_
                  refine end_ret hQ (.bool false) (by kernel_rfl) ?_
                  exact ⟨false, hp, E633, rfl⟩
                ·
                  replace hp := hp.2 h676
                  refine wp_skip ?_
                  refine then_normal (K588 _ _ _ _ ?_)
                  refine seq_ (fun _ K678 => ?_)
                  obtain ⟨k734, hk735, hp⟩ := hp
                  refine ground_ ?_
                  refine join_ 4611684918915760144 (fun lq w736 => ∃ (X737 : List Nat) (s733 : Bool), (lq = [(4, (.bool s733))]) ∧ (Evo [] w w736) ∧ (Old X737 w736) ∧ (Sub X X737) ∧ (GV X737 w736 0 [(.iface 132 (.agg #[typeHandle Tryd.prog 39]))]) ∧ (k734 s733)) (fun Kj738 hJ739 => ?_) ?_
                  ·
                    obtain ⟨vov745, k747, hov746, sb748⟩ := o_cellFault_open m618
                    have p749 := Ap.subr p639 sb748
                    refine reg_drawn (RB w621.heap.size []) 22 (by kernel_rfl) (fun w750 hd751 => ?_)
                    have e752 := Evo.of_drew hd751
                    have z753 : w750.heap.size = w621.heap.size := by rw [hd751]
                    clear hd751
                    have s755 := Step.of0 X622 e752
                    have er754 := RB.refl w621.heap.size [] w750
                    have E756 := (Evo.then0 E633 (Step.evo s755))
                    have hXo757 := (Old.step hXo634 s755)
                    have hS758 := (Sub.trans hS635 (Step.up s755))
                    have gv759 := (GV.step gv636 s755)
                    have hw_Parts760 := (Sl.step hw_Parts637 s755)
                    have k761 := (OB.step0 k638 s755)
                    have k762 := (OB.step0 k747 s755)
                    have hov763 := (Rep.step (rPtrO r_api_Fault 84) hov746 s755)
                    refine r_take 0 vov745 (RB.pre _ _) rfl (by kernel_rfl) (fun _ _ _ h => hQ.panic _ _ _ _ _ h) (.inl ⟨rfl, fun wq hq => (x_load1 (by kernel_rfl) Tryd.isAgg82 ((Blk.rb k762.2.1 (RB.trans er754 hq) (Nat.lt_of_lt_of_eq (Blk.lt k762.2.1) z753) (fun h => by cases h)).cell' 0 rfl))⟩) ?_
                    obtain ⟨d764, h765, hp⟩ := hp
                    rw [h765] at hov763
                    obtain ⟨b766, cs767, hvb766, nb768, k769, ok770⟩ := hov763
                    injection hvb766 with hvb766 _; subst hvb766
                    obtain ⟨vpErr773, rfl, zpPart771, rpAt772, hpErr774⟩ := r_api_Fault_open ok770
                    replace hp := hp zpPart771
                    replace hp := hp rpAt772
                    have k775 := (⟨nb768, k769⟩ : RO _ _ _ _ _)
                    refine r_take 1 (.pointer (some ⟨b766, 0, none⟩)) (RB.pre _ _) rfl (by kernel_rfl) (fun _ _ _ h => hQ.panic _ _ _ _ _ h) (.inl ⟨rfl, fun wq hq => (by kernel_rfl)⟩) ?_
                    refine r_take 2 (.pointer (some ⟨b766, 0, none⟩)) (RB.pre _ _) rfl (by kernel_rfl) (fun _ _ _ h => hQ.panic _ _ _ _ _ h) (.inl ⟨rfl, fun wq hq => (by kernel_rfl)⟩) ?_
                    refine r_take 3 (.string d764.Part) (RB.pre _ _) rfl (by kernel_rfl) (fun _ _ _ h => hQ.panic _ _ _ _ _ h) (.inl ⟨rfl, fun wq hq => (x_load1 (by kernel_rfl) Tryd.isAgg9 ((Blk.rb k775.2 (RB.trans er754 hq) (Nat.lt_of_lt_of_eq (Blk.lt k775.2) z753) (fun h => by cases h)).cell' 0 rfl))⟩) ?_
                    refine r_take 4 (.pointer (some ⟨b8, 0, none⟩)) (RB.pre _ _) rfl (by kernel_rfl) (fun _ _ _ h => hQ.panic _ _ _ _ _ h) (.inl ⟨rfl, fun wq hq => (by kernel_rfl)⟩) ?_
                    refine r_take 5 (.slice aw_Parts3 w_.Parts.length cw_Parts4) (RB.pre _ _) rfl (by kernel_rfl) (fun _ _ _ h => hQ.panic _ _ _ _ _ h) (.inl ⟨rfl, fun wq hq => (x_load1 (by kernel_rfl) Tryd.isAgg43 ((Blk.rb k761.2.1 (RB.trans er754 hq) (Nat.lt_of_lt_of_eq (Blk.lt k761.2.1) z753) (fun h => by cases h)).cell' 0 rfl))⟩) ?_
                    obtain ⟨h776, hp⟩ := hp
                    obtain ⟨b777, o778, cs779, ha780, nx781, lt782, ok783, hc784⟩ := Sl.atI hw_Parts760 (0 : Int) h776
                    obtain ⟨rfl, zeWord785, reAt786⟩ := r_rectoref3_Part_open ok783
                    replace hp := hp zeWord785
                    replace hp := hp reAt786
                    refine r_take 6 (.pointer (some ⟨b777, o778 + (0 : Int).toNat * 2, none⟩)) (RB.pre _ _) rfl (by kernel_rfl) (fun _ _ _ h => hQ.panic _ _ _ _ _ h) (.inl ⟨rfl, fun wq hq => (x_ixA (m := w_.Parts.length) (c := cw_Parts4) (k := .i64) (i := (0 : Int)) Tryd.underlying43 Tryd.sizeOf92 (by rw [← ha780]; kernel_rfl) (by kernel_rfl) h776)⟩) ?_
                    refine r_take 7 (.pointer (some ⟨b777, o778 + (0 : Int).toNat * 2, none⟩)) (RB.pre _ _) rfl (by kernel_rfl) (fun _ _ _ h => hQ.panic _ _ _ _ _ h) (.inl ⟨rfl, fun wq hq => (by kernel_rfl)⟩) ?_
                    refine r_take 8 (.string ((lget w_.Parts (0 : Int)).Word)) (RB.pre _ _) rfl (by kernel_rfl) (fun _ _ _ h => hQ.panic _ _ _ _ _ h) (.inl ⟨rfl, fun wq hq => (x_load1 (by kernel_rfl) Tryd.isAgg9 ((CellsAt.rb hc784 (RB.trans er754 hq) (Nat.lt_of_lt_of_eq lt782 z753) (fun h => by cases h)) 0 _ rfl))⟩) ?_
                    by_cases h787 : (d764.Part : ByteArray) = (lget w_.Parts (0 : Int)).Word
                    ·
                      replace hp := hp.1 h787
                      refine r_take 9 (.bool true) (RB.pre _ _) rfl (by kernel_rfl) (fun _ _ _ h => hQ.panic _ _ _ _ _ h) (.inl ⟨rfl, fun wq hq => (x_dt (p := (d764.Part : ByteArray) = (lget w_.Parts (0 : Int)).Word) (x_streq (by kernel_rfl) (by kernel_rfl)) h787)⟩) ?_
                      refine r_take 10 (.bool true) (RB.pre _ _) rfl (by kernel_rfl) (fun _ _ _ h => hQ.panic _ _ _ _ _ h) (.inl ⟨rfl, fun wq hq => (by kernel_rfl)⟩) ?_
                      refine r_take 11 (.pointer (some ⟨b766, 0, none⟩)) (RB.pre _ _) rfl (by kernel_rfl) (fun _ _ _ h => hQ.panic _ _ _ _ _ h) (.inl ⟨(by kernel_rfl), fun wq hq => (x_load1 (by kernel_rfl) Tryd.isAgg82 ((Blk.rb k762.2.1 (RB.trans er754 hq) (Nat.lt_of_lt_of_eq (Blk.lt k762.2.1) z753) (fun h => by cases h)).cell' 0 rfl))⟩) ?_
                      refine r_take 12 (.pointer (some ⟨b766, 0, none⟩)) (RB.pre _ _) rfl (by kernel_rfl) (fun _ _ _ h => hQ.panic _ _ _ _ _ h) (.inl ⟨(by kernel_rfl), fun wq hq => (by kernel_rfl)⟩) ?_
                      refine r_take 13 (.pointer (some ⟨b766, 1, none⟩)) (RB.pre _ _) rfl (by kernel_rfl) (fun _ _ _ h => hQ.panic _ _ _ _ _ h) (.inl ⟨(by kernel_rfl), fun wq hq => (by kernel_rfl)⟩) ?_
                      refine r_take 14 (.int .i64 d764.At) (RB.pre _ _) rfl (by kernel_rfl) (fun _ _ _ h => hQ.panic _ _ _ _ _ h) (.inl ⟨(by kernel_rfl), fun wq hq => (x_load1 (by kernel_rfl) Tryd.isAgg3 ((Blk.rb k775.2 (RB.trans er754 hq) (Nat.lt_of_lt_of_eq (Blk.lt k775.2) z753) (fun h => by cases h)).cell' 1 rfl))⟩) ?_
                      refine r_take 15 (.pointer (some ⟨b8, 0, none⟩)) (RB.pre _ _) rfl (by kernel_rfl) (fun _ _ _ h => hQ.panic _ _ _ _ _ h) (.inl ⟨(by kernel_rfl), fun wq hq => (by kernel_rfl)⟩) ?_
                      refine r_take 16 (.slice aw_Parts3 w_.Parts.length cw_Parts4) (RB.pre _ _) rfl (by kernel_rfl) (fun _ _ _ h => hQ.panic _ _ _ _ _ h) (.inl ⟨(by kernel_rfl), fun wq hq => (x_load1 (by kernel_rfl) Tryd.isAgg43 ((Blk.rb k761.2.1 (RB.trans er754 hq) (Nat.lt_of_lt_of_eq (Blk.lt k761.2.1) z753) (fun h => by cases h)).cell' 0 rfl))⟩) ?_
                      obtain ⟨h788, hp⟩ := hp
                      obtain ⟨b789, o790, cs791, ha792, nx793, lt794, ok795, hc796⟩ := Sl.atI hw_Parts760 (0 : Int) h788
                      obtain ⟨rfl, zeWord797, reAt798⟩ := r_rectoref3_Part_open ok795
                      replace hp := hp zeWord797
                      replace hp := hp reAt798
                      refine r_take 17 (.pointer (some ⟨b789, o790 + (0 : Int).toNat * 2, none⟩)) (RB.pre _ _) rfl (by kernel_rfl) (fun _ _ _ h => hQ.panic _ _ _ _ _ h) (.inl ⟨(by kernel_rfl), fun wq hq => (x_ixA (m := w_.Parts.length) (c := cw_Parts4) (k := .i64) (i := (0 : Int)) Tryd.underlying43 Tryd.sizeOf92 (by rw [← ha792]; kernel_rfl) (by kernel_rfl) h788)⟩) ?_
                      refine r_take 18 (.pointer (some ⟨b789, o790 + (0 : Int).toNat * 2 + 1, none⟩)) (RB.pre _ _) rfl (by kernel_rfl) (fun _ _ _ h => hQ.panic _ _ _ _ _ h) (.inl ⟨(by kernel_rfl), fun wq hq => (by kernel_rfl)⟩) ?_
                      refine r_take 19 (.int .i64 ((lget w_.Parts (0 : Int)).At)) (RB.pre _ _) rfl (by kernel_rfl) (fun _ _ _ h => hQ.panic _ _ _ _ _ h) (.inl ⟨(by kernel_rfl), fun wq hq => (x_load1 (by kernel_rfl) Tryd.isAgg3 ((CellsAt.rb hc796 (RB.trans er754 hq) (Nat.lt_of_lt_of_eq lt794 z753) (fun h => by cases h)) 1 _ rfl))⟩) ?_
                      refine r_take 20 (.bool (decide (d764.At = ((lget w_.Parts (0 : Int)).At)))) (RB.pre _ _) rfl (by kernel_rfl) (fun _ _ _ h => hQ.panic _ _ _ _ _ h) (.inl ⟨(by kernel_rfl), fun wq hq => (by kernel_rfl)⟩) ?_
                      refine r_take 21 (.bool (decide (d764.At = ((lget w_.Parts (0 : Int)).At)))) (RB.pre _ _) rfl (by kernel_rfl) (fun _ _ _ h => hQ.panic _ _ _ _ _ h) (.inl ⟨rfl, fun wq hq => (by kernel_rfl)⟩) ?_
                      refine r_ready [22] (by kernel_rfl) rfl (all_cons ⟨_, _, _, _, _, _, rfl, ?_⟩ all_nil)
                      refine o_pv (.bool (decide (d764.At = ((lget w_.Parts (0 : Int)).At)))) rfl (by kernel_rfl) ?_
                      refine ⟨fun h => absurd h (by decide), ?_⟩
                      refine r_done (by kernel_rfl) ?_
                      refine then_normal (hJ739 _ _ _ ⟨[(4, (.bool (decide (d764.At = ((lget w_.Parts (0 : Int)).At)))))], fit_mk (fun _ _ => rfl) (by kernel_rfl) (vs_cons (by kernel_rfl) vs_nil), ?_⟩)
                      exact ⟨X622, (decide (d764.At = ((lget w_.Parts (0 : Int)).At))), rfl, E756, hXo757, hS758, gv759, hp⟩
                    ·
                      replace hp := hp.2 h787
                      refine r_take 9 (.bool false) (RB.pre _ _) rfl (by kernel_rfl) (fun _ _ _ h => hQ.panic _ _ _ _ _ h) (.inl ⟨rfl, fun wq hq => (x_df (p := (d764.Part : ByteArray) = (lget w_.Parts (0 : Int)).Word) (x_streq (by kernel_rfl) (by kernel_rfl)) h787)⟩) ?_
                      refine r_take 10 (.bool false) (RB.pre _ _) rfl (by kernel_rfl) (fun _ _ _ h => hQ.panic _ _ _ _ _ h) (.inl ⟨rfl, fun wq hq => (by kernel_rfl)⟩) ?_
                      refine r_take 11 undef (RB.pre _ _) rfl (by kernel_rfl) (fun _ _ _ h => hQ.panic _ _ _ _ _ h) (.inr ⟨by kernel_rfl, rfl⟩) ?_
                      refine r_take 12 undef (RB.pre _ _) rfl (by kernel_rfl) (fun _ _ _ h => hQ.panic _ _ _ _ _ h) (.inr ⟨by kernel_rfl, rfl⟩) ?_
                      refine r_take 13 undef (RB.pre _ _) rfl (by kernel_rfl) (fun _ _ _ h => hQ.panic _ _ _ _ _ h) (.inr ⟨by kernel_rfl, rfl⟩) ?_
                      refine r_take 14 undef (RB.pre _ _) rfl (by kernel_rfl) (fun _ _ _ h => hQ.panic _ _ _ _ _ h) (.inr ⟨by kernel_rfl, rfl⟩) ?_
                      refine r_take 15 undef (RB.pre _ _) rfl (by kernel_rfl) (fun _ _ _ h => hQ.panic _ _ _ _ _ h) (.inr ⟨by kernel_rfl, rfl⟩) ?_
                      refine r_take 16 undef (RB.pre _ _) rfl (by kernel_rfl) (fun _ _ _ h => hQ.panic _ _ _ _ _ h) (.inr ⟨by kernel_rfl, rfl⟩) ?_
                      refine r_take 17 undef (RB.pre _ _) rfl (by kernel_rfl) (fun _ _ _ h => hQ.panic _ _ _ _ _ h) (.inr ⟨by kernel_rfl, rfl⟩) ?_
                      refine r_take 18 undef (RB.pre _ _) rfl (by kernel_rfl) (fun _ _ _ h => hQ.panic _ _ _ _ _ h) (.inr ⟨by kernel_rfl, rfl⟩) ?_
                      refine r_take 19 undef (RB.pre _ _) rfl (by kernel_rfl) (fun _ _ _ h => hQ.panic _ _ _ _ _ h) (.inr ⟨by kernel_rfl, rfl⟩) ?_
                      refine r_take 20 undef (RB.pre _ _) rfl (by kernel_rfl) (fun _ _ _ h => hQ.panic _ _ _ _ _ h) (.inr ⟨by kernel_rfl, rfl⟩) ?_
                      refine r_take 21 (.bool false) (RB.pre _ _) rfl (by kernel_rfl) (fun _ _ _ h => hQ.panic _ _ _ _ _ h) (.inl ⟨rfl, fun wq hq => (by kernel_rfl)⟩) ?_
                      refine r_ready [22] (by kernel_rfl) rfl (all_cons ⟨_, _, _, _, _, _, rfl, ?_⟩ all_nil)
                      refine o_pv (.bool false) rfl (by kernel_rfl) ?_
                      refine ⟨fun h => absurd h (by decide), ?_⟩
                      refine r_done (by kernel_rfl) ?_
                      refine then_normal (hJ739 _ _ _ ⟨[(4, (.bool false))], fit_mk (fun _ _ => rfl) (by kernel_rfl) (vs_cons (by kernel_rfl) vs_nil), ?_⟩)
                      exact ⟨X622, false, rfl, E756, hXo757, hS758, gv759, hp⟩
                  ·
                    rintro _ w736 g799 ⟨X737, s733, rfl, E741, hXo742, hS743, gv744, hv740⟩
                    replace hp := hk735 s733 hv740
                    refine then_normal (K678 _ _ _ _ ?_)
                    refine wp_ret ?_
                    refine end_ret hQ (.bool s733) (by kernel_rfl) ?_
                    exact ⟨s733, hp, E741, rfl⟩

end Go.Proofs.YtljbaoehhnljlaaRRRRDoor
