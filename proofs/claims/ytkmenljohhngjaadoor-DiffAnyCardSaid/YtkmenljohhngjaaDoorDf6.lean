/- Walks of functions: what each asks and computes, as a plain predicate, and the contract from it. -/
import Derived.Test.YtkmenljohhngjaaDoorChecked
import Derived.Test.YtkmenljohhngjaaDoorDf5
namespace Go.Proofs.YtkmenljohhngjaaDoor
open Go

theorem elT80 : ElemT Tryd.prog 80 86 3 24 := elemT_mk (i := Tryd.t86) (z := (.agg #[(.int .i64 0), (.int .i64 0), (.int .i64 0)])) (by kernel_rfl) (by kernel_rfl) (by kernel_rfl) (by kernel_rfl) Tryd.underlying80 Tryd.sizeOf86 (by decide) (by decide)
def rectolaw2_Tells_p (err : PErr) (w_ : S_rectoref3_Wrong) (Q : Bool → Prop) : Prop :=
  ((w_.Parts.length ≤ 9223372036854775807) → ((inR .i64 w_.Err) → (((w_.Err = (0 : Int)) → Q err.isNil) ∧ ((¬ (w_.Err = (0 : Int))) → (((err.isNil = true) → Q false) ∧ ((¬ (err.isNil = true)) → (((err.isNo = true) → (∀ n134 : Int, err = PErr.no n134 → ((inR .i64 n134) → (∃ k174 : Bool → Prop, (∀ (s173 : Bool), k174 s173 → (((s173 = true) → Q false) ∧ ((s173 = false) → ((((w_.Parts.length : Int) = (0 : Int)) → Q true) ∧ ((¬ ((w_.Parts.length : Int) = (0 : Int))) → (∃ k280 : Bool → S_cellFault → Prop, (∀ (s276 : Bool) (o277 : S_cellFault), k280 s276 o277 → (((s276 = true) → Q false) ∧ ((s276 = false) → (∃ k393 : Bool → Prop, (∀ (s392 : Bool), k393 s392 → Q s392) ∧ (∃ d423 : S_api_Fault, (o277.v = some d423) ∧ ((d423.Part.size ≤ maxLen) → ((inR .i64 d423.At) → ((inL w_.Parts (0 : Int)) ∧ ((((lget w_.Parts (0 : Int)).Word).size ≤ maxLen) → ((inR .i64 ((lget w_.Parts (0 : Int)).At)) → ((((d423.Part : ByteArray) = (lget w_.Parts (0 : Int)).Word) → ((inL w_.Parts (0 : Int)) ∧ ((((lget w_.Parts (0 : Int)).Word).size ≤ maxLen) → ((inR .i64 ((lget w_.Parts (0 : Int)).At)) → (k393 (decide (d423.At = ((lget w_.Parts (0 : Int)).At)))))))) ∧ ((¬ ((d423.Part : ByteArray) = (lget w_.Parts (0 : Int)).Word)) → (k393 false))))))))))))) ∧ (errors_As_p (PErr.no n134) (S_cellFault.mk none) (fun (target304 : S_cellFault) (r305 : Bool) => (((r305 = true) → (k280 target304.v.isNone target304)) ∧ ((r305 = false) → (k280 true target304))))))))))) ∧ (api_Errno_Error_p n134 (fun (r204 : ByteArray) => ((r204.size ≤ maxLen) → (rectoref3_Words_p w_ (fun (r211 : ByteArray) => ((r211.size ≤ maxLen) → ((((r204 : ByteArray) = r211) → (errors_Is_p (PErr.no n134) w_.Err (fun (r218 : Bool) => (k174 (!r218))))) ∧ ((¬ ((r204 : ByteArray) = r211)) → (k174 true))))))))))))) ∧ ((¬ (err.isNo = true)) → (∀ (part459 : ByteArray) (at460 n461 : Int), err = PErr.fault part459 at460 n461 → ((part459.size ≤ maxLen) → ((inR .i64 at460) → ((inR .i64 n461) → (∃ k507 : Bool → Prop, (∀ (s506 : Bool), k507 s506 → (((s506 = true) → Q false) ∧ ((s506 = false) → ((((w_.Parts.length : Int) = (0 : Int)) → Q true) ∧ ((¬ ((w_.Parts.length : Int) = (0 : Int))) → (∃ k619 : Bool → S_cellFault → Prop, (∀ (s615 : Bool) (o616 : S_cellFault), k619 s615 o616 → (((s615 = true) → Q false) ∧ ((s615 = false) → (∃ k734 : Bool → Prop, (∀ (s733 : Bool), k734 s733 → Q s733) ∧ (∃ d764 : S_api_Fault, (o616.v = some d764) ∧ ((d764.Part.size ≤ maxLen) → ((inR .i64 d764.At) → ((inL w_.Parts (0 : Int)) ∧ ((((lget w_.Parts (0 : Int)).Word).size ≤ maxLen) → ((inR .i64 ((lget w_.Parts (0 : Int)).At)) → ((((d764.Part : ByteArray) = (lget w_.Parts (0 : Int)).Word) → ((inL w_.Parts (0 : Int)) ∧ ((((lget w_.Parts (0 : Int)).Word).size ≤ maxLen) → ((inR .i64 ((lget w_.Parts (0 : Int)).At)) → (k734 (decide (d764.At = ((lget w_.Parts (0 : Int)).At)))))))) ∧ ((¬ ((d764.Part : ByteArray) = (lget w_.Parts (0 : Int)).Word)) → (k734 false))))))))))))) ∧ (errors_As_p (PErr.fault part459 at460 n461) (S_cellFault.mk none) (fun (target644 : S_cellFault) (r645 : Bool) => (((r645 = true) → (k619 target644.v.isNone target644)) ∧ ((r645 = false) → (k619 true target644))))))))))) ∧ (api_Fault_Error_p (S_api_Fault.mk part459 at460 (PErr.no n461)) (fun (r539 : ByteArray) => ((r539.size ≤ maxLen) → (rectoref3_Words_p w_ (fun (r546 : ByteArray) => ((r546.size ≤ maxLen) → ((((r539 : ByteArray) = r546) → (errors_Is_p (PErr.fault part459 at460 n461) w_.Err (fun (r554 : Bool) => (k507 (!r554))))) ∧ ((¬ ((r539 : ByteArray) = r546)) → (k507 true))))))))))))))))))))))
set_option maxRecDepth 20000 in
set_option maxHeartbeats 4000000 in
theorem rectolaw2_Tells_w {X : List Nat} {w : World} {err : PErr} {w_ : S_rectoref3_Wrong} {verr1 : Value} {aw_Parts3 : Option Addr} {cw_Parts4 : Nat} {Q : Bool → Prop} (hX0 : Old X w) (herr2 : (rErr 63 122 124).ok X w ([verr1]) err) (hw_Parts5 : Sl r_rectoref3_Part X w aw_Parts3 cw_Parts4 w_.Parts) (rw_Err6 : inR .i64 w_.Err) (gv0 : GV X w 0 [(.iface 205 (.agg #[typeHandle Tryd.prog 43]))]) (hp : rectolaw2_Tells_p err w_ Q) :
    Calls Tryd.prog 41 #[verr1, (.agg #[(.slice aw_Parts3 w_.Parts.length cw_Parts4), (.int .i64 w_.Err)])] w (Ret fun v w' => ∃ (r0 : Bool), Q r0 ∧ Evo [] w w' ∧ v = (.bool r0)) := by
  have hXo := hX0
  have E0 : Evo [] w w := RB.refl _ _ _
  have hS : Sub X X := Sub.refl _
  unfold rectolaw2_Tells_p at hp
  refine enter_ Tryd.func41 rfl 62 [(0, verr1), (1, (.agg #[(.slice aw_Parts3 w_.Parts.length cw_Parts4), (.int .i64 w_.Err)]))] (by kernel_rfl) (fun Qe hQ => ?_)
  replace hp := hp (Sl.len hw_Parts5)
  replace hp := hp rw_Err6
  refine seq_ (fun _ K7 => ?_)
  refine reg_ ?_
  refine sq (o_newX [(.slice aw_Parts3 w_.Parts.length cw_Parts4), (.int .i64 w_.Err)] 28 (X := X) (B := w.heap.size) E0.size rfl (by kernel_rfl) ?_)
  intro b8 w9 X10 s11 k12 n13
  refine sq (o_pv (.bool false) rfl (by kernel_rfl) ?_)
  refine nil_ ?_
  refine then_normal (K7 _ _ _ _ ?_)
  refine seq_ (fun _ K14 => ?_)
  refine seq_ (fun _ K15 => ?_)
  refine reg_ ?_
  refine sq (o_pv (.pointer (some ⟨b8, 1, none⟩)) rfl (by kernel_rfl) ?_)
  refine sq (o_pv (.int .i64 w_.Err) rfl (x_load1 (by kernel_rfl) Tryd.isAgg3 (k12.2.1.cell' 1 rfl)) ?_)
  refine sq (o_pv (.bool (decide (w_.Err = (0 : Int)))) rfl (by kernel_rfl) ?_)
  refine nil_ ?_
  refine then_normal (K15 _ _ _ _ ?_)
  refine cond_d (w_.Err = (0 : Int)) (by kernel_rfl) (fun h16 => ?_) (fun h16 => ?_)
  ·
    replace hp := hp.1 h16
    refine seq_ (fun _ K17 => ?_)
    refine reg_ ?_
    refine sq (o_pv verr1 rfl (by kernel_rfl) ?_)
    refine sq (o_pv (.bool err.isNil) rfl (x_err_eq err herr2 Tryd.underlying43 (by kernel_rfl)) ?_)
    refine sq (o_pv (.bool err.isNil) rfl (by kernel_rfl) ?_)
    refine nil_ ?_
    refine then_normal (K17 _ _ _ _ ?_)
    refine wp_ret ?_
    refine then_ret ?_
    have E18 := (Evo.then0 E0 (Step.evo s11))
    refine end_ret hQ (.bool err.isNil) (by kernel_rfl) ?_
    exact ⟨err.isNil, hp, E18, rfl⟩
  ·
    replace hp := hp.2 h16
    refine wp_skip ?_
    refine then_normal (K14 _ _ _ _ ?_)
    refine seq_ (fun _ K19 => ?_)
    refine seq_ (fun _ K20 => ?_)
    have herr95 := (Rep.step (rErr 63 122 124) herr2 s11)
    by_cases h96 : err.isNil = true
    ·
      replace hp := hp.1 h96
      have hc98 := isNil_eq h96
      rw [hc98] at herr95
      obtain rfl := rErr_inv_nil herr95
      have hw_Parts116 := (Sl.step hw_Parts5 s11)
      have gv117 := (GV.step gv0 s11)
      have hXo118 := (Old.step hXo s11)
      have E119 := (Evo.then0 E0 (Step.evo s11))
      have hS120 := (Sub.trans hS (Step.up s11))
      refine reg_drawn (RB w9.heap.size []) 17 (by kernel_rfl) (fun w121 hd122 => ?_)
      have e123 := Evo.of_drew hd122
      have z124 : w121.heap.size = w9.heap.size := by rw [hd122]
      clear hd122
      have s126 := Step.of0 X10 e123
      have er125 := RB.refl w9.heap.size [] w121
      have hw_Parts127 := (Sl.step hw_Parts116 s126)
      have gv128 := (GV.step gv117 s126)
      have hXo129 := (Old.step hXo118 s126)
      have E130 := (Evo.then0 E119 (Step.evo s126))
      have hS131 := (Sub.trans hS120 (Step.up s126))
      have k132 := (OB.step0 k12 s126)
      refine r_take 0 .nilIface (RB.pre _ _) rfl (by kernel_rfl) (fun _ _ _ h => hQ.panic _ _ _ _ _ h) (.inl ⟨rfl, fun wq hq => (by kernel_rfl)⟩) ?_
      refine r_take 1 (.bool true) (RB.pre _ _) rfl (by kernel_rfl) (fun _ _ _ h => hQ.panic _ _ _ _ _ h) (.inl ⟨rfl, fun wq hq => (x_nilnil_eq Tryd.underlying43 (by kernel_rfl) rfl)⟩) ?_
      refine r_take 2 (.bool true) (RB.pre _ _) rfl (by kernel_rfl) (fun _ _ _ h => hQ.panic _ _ _ _ _ h) (.inl ⟨rfl, fun wq hq => (by kernel_rfl)⟩) ?_
      refine r_take 3 undef (RB.pre _ _) rfl (by kernel_rfl) (fun _ _ _ h => hQ.panic _ _ _ _ _ h) (.inr ⟨by kernel_rfl, rfl⟩) ?_
      refine r_take 4 undef (RB.pre _ _) rfl (by kernel_rfl) (fun _ _ _ h => hQ.panic _ _ _ _ _ h) (.inr ⟨by kernel_rfl, rfl⟩) ?_
      refine r_take 5 undef (RB.pre _ _) rfl (by kernel_rfl) (fun _ _ _ h => hQ.panic _ _ _ _ _ h) (.inr ⟨by kernel_rfl, rfl⟩) ?_
      refine r_take 6 undef (RB.pre _ _) rfl (by kernel_rfl) (fun _ _ _ h => hQ.panic _ _ _ _ _ h) (.inr ⟨by kernel_rfl, rfl⟩) ?_
      refine r_take 7 undef (RB.pre _ _) rfl (by kernel_rfl) (fun _ _ _ h => hQ.panic _ _ _ _ _ h) (.inr ⟨by kernel_rfl, rfl⟩) ?_
      refine r_take 8 (.bool true) (RB.pre _ _) rfl (by kernel_rfl) (fun _ _ _ h => hQ.panic _ _ _ _ _ h) (.inl ⟨rfl, fun wq hq => (by kernel_rfl)⟩) ?_
      refine r_take 9 (.bool true) (RB.pre _ _) rfl (by kernel_rfl) (fun _ _ _ h => hQ.panic _ _ _ _ _ h) (.inl ⟨rfl, fun wq hq => (by kernel_rfl)⟩) ?_
      refine r_take 10 undef (RB.pre _ _) rfl (by kernel_rfl) (fun _ _ _ h => hQ.panic _ _ _ _ _ h) (.inr ⟨by kernel_rfl, rfl⟩) ?_
      refine r_take 11 undef (RB.pre _ _) rfl (by kernel_rfl) (fun _ _ _ h => hQ.panic _ _ _ _ _ h) (.inr ⟨by kernel_rfl, rfl⟩) ?_
      refine r_take 12 undef (RB.pre _ _) rfl (by kernel_rfl) (fun _ _ _ h => hQ.panic _ _ _ _ _ h) (.inr ⟨by kernel_rfl, rfl⟩) ?_
      refine r_take 13 undef (RB.pre _ _) rfl (by kernel_rfl) (fun _ _ _ h => hQ.panic _ _ _ _ _ h) (.inr ⟨by kernel_rfl, rfl⟩) ?_
      refine r_take 14 undef (RB.pre _ _) rfl (by kernel_rfl) (fun _ _ _ h => hQ.panic _ _ _ _ _ h) (.inr ⟨by kernel_rfl, rfl⟩) ?_
      refine r_take 15 undef (RB.pre _ _) rfl (by kernel_rfl) (fun _ _ _ h => hQ.panic _ _ _ _ _ h) (.inr ⟨by kernel_rfl, rfl⟩) ?_
      refine r_take 16 (.bool true) (RB.pre _ _) rfl (by kernel_rfl) (fun _ _ _ h => hQ.panic _ _ _ _ _ h) (.inl ⟨rfl, fun wq hq => (by kernel_rfl)⟩) ?_
      refine r_done (by kernel_rfl) ?_
      refine then_normal (K20 _ _ _ _ ?_)
      refine cond_t (by kernel_rfl) ?_
      refine seq_ (fun _ K133 => ?_)
      refine reg_ ?_
      refine sq (o_pv (.bool false) rfl (by kernel_rfl) ?_)
      refine nil_ ?_
      refine then_normal (K133 _ _ _ _ ?_)
      refine wp_ret ?_
      refine then_ret ?_
      refine end_ret hQ (.bool false) (by kernel_rfl) ?_
      exact ⟨false, hp, E130, rfl⟩
    ·
      replace hp := hp.2 h96
      by_cases h97 : err.isNo = true
      ·
        replace hp := hp.1 h97
        obtain ⟨n134, hc135⟩ := isNo_eq h97
        replace hp := hp n134 hc135
        rw [hc135] at herr95
        obtain ⟨rfl, r136⟩ := rErr_inv_no herr95
        replace hp := hp r136
        have hw_Parts181 := (Sl.step hw_Parts5 s11)
        have gv182 := (GV.step gv0 s11)
        have hXo183 := (Old.step hXo s11)
        have E184 := (Evo.then0 E0 (Step.evo s11))
        have hS185 := (Sub.trans hS (Step.up s11))
        obtain ⟨k174, hk175, hp⟩ := hp
        refine ground_ ?_
        refine join_ 268433408 (fun lq w176 => ∃ (X177 : List Nat) (s173 : Bool), (lq = [(27, (.bool s173))]) ∧ (Evo [] w w176) ∧ (Old X177 w176) ∧ (Sub X X177) ∧ (GV X177 w176 0 [(.iface 205 (.agg #[typeHandle Tryd.prog 43]))]) ∧ (Sl r_rectoref3_Part X177 w176 aw_Parts3 cw_Parts4 w_.Parts) ∧ (OB ([]) w.heap.size X177 w176 b8 [(.slice aw_Parts3 w_.Parts.length cw_Parts4), (.int .i64 w_.Err)] 28) ∧ (k174 s173)) (fun Kj178 hJ179 => ?_) ?_
        ·
          refine reg_drawn (RB w9.heap.size []) 17 (by kernel_rfl) (fun w192 hd193 => ?_)
          have e194 := Evo.of_drew hd193
          have z195 : w192.heap.size = w9.heap.size := by rw [hd193]
          clear hd193
          have s197 := Step.of0 X10 e194
          have er196 := RB.refl w9.heap.size [] w192
          have hw_Parts198 := (Sl.step hw_Parts181 s197)
          have gv199 := (GV.step gv182 s197)
          have hXo200 := (Old.step hXo183 s197)
          have E201 := (Evo.then0 E184 (Step.evo s197))
          have hS202 := (Sub.trans hS185 (Step.up s197))
          have k203 := (OB.step0 k12 s197)
          refine r_take 0 (.iface 63 (.int .i64 n134)) (RB.pre _ _) rfl (by kernel_rfl) (fun _ _ _ h => hQ.panic _ _ _ _ _ h) (.inl ⟨rfl, fun wq hq => (by kernel_rfl)⟩) ?_
          refine r_take 1 (.bool false) (RB.pre _ _) rfl (by kernel_rfl) (fun _ _ _ h => hQ.panic _ _ _ _ _ h) (.inl ⟨rfl, fun wq hq => (x_inil_eq (tp := 63) (v := (.int .i64 n134)) Tryd.underlying43 (by kernel_rfl) (by kernel_rfl))⟩) ?_
          refine r_take 2 (.bool false) (RB.pre _ _) rfl (by kernel_rfl) (fun _ _ _ h => hQ.panic _ _ _ _ _ h) (.inl ⟨rfl, fun wq hq => (by kernel_rfl)⟩) ?_
          refine r_take 3 (.iface 63 (.int .i64 n134)) (RB.pre _ _) rfl (by kernel_rfl) (fun _ _ _ h => hQ.panic _ _ _ _ _ h) (.inl ⟨(by kernel_rfl), fun wq hq => (by kernel_rfl)⟩) ?_
          refine r_take 5 (.agg #[(.slice aw_Parts3 w_.Parts.length cw_Parts4), (.int .i64 w_.Err)]) (RB.pre _ _) rfl (by kernel_rfl) (fun _ _ _ h => hQ.panic _ _ _ _ _ h) (.inl ⟨(by kernel_rfl), fun wq hq => (x_loadN [(.slice aw_Parts3 w_.Parts.length cw_Parts4), (.int .i64 w_.Err)] (by kernel_rfl) Tryd.isAgg28 Tryd.sizeOf28 ((Blk.rb k203.2.1 (RB.trans er196 hq) (Nat.lt_of_lt_of_eq (Blk.lt k203.2.1) z195) (fun h => by cases h)).cells' 0 rfl))⟩) ?_
          refine r_ready [4] (by kernel_rfl) rfl (all_cons ⟨_, _, _, _, _, _, rfl, ?_⟩ all_nil)
          refine o_call 175 #[(.int .i64 n134)] (by kernel_rfl) (x_invoke (t := 63) (v := (.int .i64 n134)) (r := (.int .i64 n134)) (by kernel_rfl) (fun _ => by kernel_rfl) Tryd.call175 (by kernel_rfl)) (api_Errno_Error_w (X := []) (e := n134) (Old.nil _) r136 hp) ?_
          rintro _ w205 ⟨r204, hp, e206, rfl, zr208⟩
          have rm := RB.mono (F' := []) e206 (Nat.le_trans (Nat.le_of_eq z195.symm) (RB.size er196)) (fun _ h => by cases h)
          have er209 := RB.trans er196 rm
          refine ⟨fun _ => rm, ?_⟩
          have s207 := Step.of0 X10 e206
          replace hp := hp zr208
          refine r_ready [6] (by kernel_rfl) rfl (all_cons ⟨_, _, _, _, _, _, rfl, ?_⟩ all_nil)
          have hw_Parts210 := (Sl.step hw_Parts198 s207)
          refine o_call 82 #[(.agg #[(.slice aw_Parts3 w_.Parts.length cw_Parts4), (.int .i64 w_.Err)])] (by kernel_rfl) (x_call Tryd.call82 (by kernel_rfl)) (rectoref3_Words_w (X := []) (w_ := w_) (Old.nil _) (Sl.less hw_Parts210 (Sub.nil _)) rw_Err6 hp) ?_
          rintro _ w212 ⟨r211, hp, e213, rfl, zr215⟩
          have rm := RB.mono (F' := []) e213 (Nat.le_trans (Nat.le_of_eq z195.symm) (RB.size er209)) (fun _ h => by cases h)
          have er216 := RB.trans er209 rm
          refine ⟨fun _ => rm, ?_⟩
          have s214 := Step.of0 X10 e213
          replace hp := hp zr215
          by_cases h217 : (r204 : ByteArray) = r211
          ·
            replace hp := hp.1 h217
            refine r_take 7 (.bool false) (RB.pre _ _) rfl (by kernel_rfl) (fun _ _ _ h => hQ.panic _ _ _ _ _ h) (.inl ⟨(by kernel_rfl), fun wq hq => (x_ndf (p := (r204 : ByteArray) = r211) (x_strne (by kernel_rfl) (by kernel_rfl)) h217)⟩) ?_
            refine r_take 8 (.bool false) (RB.pre _ _) rfl (by kernel_rfl) (fun _ _ _ h => hQ.panic _ _ _ _ _ h) (.inl ⟨rfl, fun wq hq => (by kernel_rfl)⟩) ?_
            refine r_take 9 (.bool false) (RB.pre _ _) rfl (by kernel_rfl) (fun _ _ _ h => hQ.panic _ _ _ _ _ h) (.inl ⟨rfl, fun wq hq => (by kernel_rfl)⟩) ?_
            refine r_take 10 (.iface 63 (.int .i64 n134)) (RB.pre _ _) rfl (by kernel_rfl) (fun _ _ _ h => hQ.panic _ _ _ _ _ h) (.inl ⟨(by kernel_rfl), fun wq hq => (by kernel_rfl)⟩) ?_
            refine r_take 11 (.pointer (some ⟨b8, 1, none⟩)) (RB.pre _ _) rfl (by kernel_rfl) (fun _ _ _ h => hQ.panic _ _ _ _ _ h) (.inl ⟨(by kernel_rfl), fun wq hq => (by kernel_rfl)⟩) ?_
            refine r_take 12 (.int .i64 w_.Err) (RB.pre _ _) rfl (by kernel_rfl) (fun _ _ _ h => hQ.panic _ _ _ _ _ h) (.inl ⟨(by kernel_rfl), fun wq hq => (x_load1 (by kernel_rfl) Tryd.isAgg3 ((Blk.rb k203.2.1 (RB.trans er216 hq) (Nat.lt_of_lt_of_eq (Blk.lt k203.2.1) z195) (fun h => by cases h)).cell' 1 rfl))⟩) ?_
            refine r_take 13 (.iface 63 (.int .i64 w_.Err)) (RB.pre _ _) rfl (by kernel_rfl) (fun _ _ _ h => hQ.panic _ _ _ _ _ h) (.inl ⟨(by kernel_rfl), fun wq hq => (by kernel_rfl)⟩) ?_
            refine r_ready [14] (by kernel_rfl) rfl (all_cons ⟨_, _, _, _, _, _, rfl, ?_⟩ all_nil)
            refine o_call 83 #[(.iface 63 (.int .i64 n134)), (.iface 63 (.int .i64 w_.Err))] (by kernel_rfl) (x_call Tryd.call83 (by kernel_rfl)) (errors_Is_w (X := []) (err := (PErr.no n134)) (target := w_.Err) (Old.nil _) (rErr_no r136) rw_Err6 hp) ?_
            rintro _ w219 ⟨r218, hp, e220, rfl⟩
            have rm := RB.mono (F' := []) e220 (Nat.le_trans (Nat.le_of_eq z195.symm) (RB.size er216)) (fun _ h => by cases h)
            have er222 := RB.trans er216 rm
            refine ⟨fun _ => rm, ?_⟩
            have s221 := Step.of0 X10 e220
            refine r_take 15 (.bool (!r218)) (RB.pre _ _) rfl (by kernel_rfl) (fun _ _ _ h => hQ.panic _ _ _ _ _ h) (.inl ⟨(by kernel_rfl), fun wq hq => (by kernel_rfl)⟩) ?_
            refine r_take 16 (.bool (!r218)) (RB.pre _ _) rfl (by kernel_rfl) (fun _ _ _ h => hQ.panic _ _ _ _ _ h) (.inl ⟨rfl, fun wq hq => (by kernel_rfl)⟩) ?_
            refine r_done (by kernel_rfl) ?_
            have E223 := (Evo.then0 (Evo.then0 (Evo.then0 E201 e206) e213) e220)
            have hXo224 := (Old.step (Old.step (Old.step hXo200 s207) s214) s221)
            have hS225 := (Sub.trans (Sub.trans (Sub.trans hS202 (Step.up s207)) (Step.up s214)) (Step.up s221))
            have gv226 := (GV.step (GV.step (GV.step gv199 s207) s214) s221)
            have hw_Parts227 := (Sl.step (Sl.step hw_Parts210 s214) s221)
            have k228 := (OB.step0 (OB.step0 (OB.step0 k203 s207) s214) s221)
            refine then_normal (hJ179 _ _ _ ⟨[(27, (.bool (!r218)))], fit_mk (fun _ _ => rfl) (by kernel_rfl) (vs_cons (by kernel_rfl) vs_nil), ?_⟩)
            exact ⟨X10, (!r218), rfl, E223, hXo224, hS225, gv226, hw_Parts227, k228, hp⟩
          ·
            replace hp := hp.2 h217
            refine r_take 7 (.bool true) (RB.pre _ _) rfl (by kernel_rfl) (fun _ _ _ h => hQ.panic _ _ _ _ _ h) (.inl ⟨(by kernel_rfl), fun wq hq => (x_ndt (p := (r204 : ByteArray) = r211) (x_strne (by kernel_rfl) (by kernel_rfl)) h217)⟩) ?_
            refine r_take 8 (.bool true) (RB.pre _ _) rfl (by kernel_rfl) (fun _ _ _ h => hQ.panic _ _ _ _ _ h) (.inl ⟨rfl, fun wq hq => (by kernel_rfl)⟩) ?_
            refine r_take 9 (.bool true) (RB.pre _ _) rfl (by kernel_rfl) (fun _ _ _ h => hQ.panic _ _ _ _ _ h) (.inl ⟨rfl, fun wq hq => (by kernel_rfl)⟩) ?_
            refine r_take 10 undef (RB.pre _ _) rfl (by kernel_rfl) (fun _ _ _ h => hQ.panic _ _ _ _ _ h) (.inr ⟨by kernel_rfl, rfl⟩) ?_
            refine r_take 11 undef (RB.pre _ _) rfl (by kernel_rfl) (fun _ _ _ h => hQ.panic _ _ _ _ _ h) (.inr ⟨by kernel_rfl, rfl⟩) ?_
            refine r_take 12 undef (RB.pre _ _) rfl (by kernel_rfl) (fun _ _ _ h => hQ.panic _ _ _ _ _ h) (.inr ⟨by kernel_rfl, rfl⟩) ?_
            refine r_take 13 undef (RB.pre _ _) rfl (by kernel_rfl) (fun _ _ _ h => hQ.panic _ _ _ _ _ h) (.inr ⟨by kernel_rfl, rfl⟩) ?_
            refine r_take 14 undef (RB.pre _ _) rfl (by kernel_rfl) (fun _ _ _ h => hQ.panic _ _ _ _ _ h) (.inr ⟨by kernel_rfl, rfl⟩) ?_
            refine r_take 15 undef (RB.pre _ _) rfl (by kernel_rfl) (fun _ _ _ h => hQ.panic _ _ _ _ _ h) (.inr ⟨by kernel_rfl, rfl⟩) ?_
            refine r_take 16 (.bool true) (RB.pre _ _) rfl (by kernel_rfl) (fun _ _ _ h => hQ.panic _ _ _ _ _ h) (.inl ⟨rfl, fun wq hq => (by kernel_rfl)⟩) ?_
            refine r_done (by kernel_rfl) ?_
            have E229 := (Evo.then0 (Evo.then0 E201 e206) e213)
            have hXo230 := (Old.step (Old.step hXo200 s207) s214)
            have hS231 := (Sub.trans (Sub.trans hS202 (Step.up s207)) (Step.up s214))
            have gv232 := (GV.step (GV.step gv199 s207) s214)
            have hw_Parts233 := (Sl.step hw_Parts210 s214)
            have k234 := (OB.step0 (OB.step0 k203 s207) s214)
            refine then_normal (hJ179 _ _ _ ⟨[(27, (.bool true))], fit_mk (fun _ _ => rfl) (by kernel_rfl) (vs_cons (by kernel_rfl) vs_nil), ?_⟩)
            exact ⟨X10, true, rfl, E229, hXo230, hS231, gv232, hw_Parts233, k234, hp⟩
        ·
          rintro _ w176 g235 ⟨X177, s173, rfl, E186, hXo187, hS188, gv189, hw_Parts190, k191, hv180⟩
          replace hp := hk175 s173 hv180
          refine then_normal (K20 _ _ _ _ ?_)
          refine cond_b s173 (by kernel_rfl) (fun h236 => ?_) (fun h236 => ?_)
          ·
            replace hp := hp.1 h236
            refine seq_ (fun _ K237 => ?_)
            refine reg_ ?_
            refine sq (o_pv (.bool false) rfl (by kernel_rfl) ?_)
            refine nil_ ?_
            refine then_normal (K237 _ _ _ _ ?_)
            refine wp_ret ?_
            refine then_ret ?_
            refine end_ret hQ (.bool false) (by kernel_rfl) ?_
            exact ⟨false, hp, E186, rfl⟩
          ·
            replace hp := hp.2 h236
            refine wp_skip ?_
            refine then_normal (K19 _ _ _ _ ?_)
            refine seq_ (fun _ K238 => ?_)
            refine seq_ (fun _ K239 => ?_)
            refine reg_ ?_
            refine sq (o_pv (.pointer (some ⟨b8, 0, none⟩)) rfl (by kernel_rfl) ?_)
            refine sq (o_pv (.slice aw_Parts3 w_.Parts.length cw_Parts4) rfl (x_load1 (by kernel_rfl) Tryd.isAgg26 (k191.2.1.cell' 0 rfl)) ?_)
            refine sq (o_pv (.int .i64 (w_.Parts.length : Int)) rfl (by kernel_rfl) ?_)
            refine sq (o_pv (.bool (decide ((w_.Parts.length : Int) = (0 : Int)))) rfl (by kernel_rfl) ?_)
            refine nil_ ?_
            refine then_normal (K239 _ _ _ _ ?_)
            refine cond_d ((w_.Parts.length : Int) = (0 : Int)) (by kernel_rfl) (fun h240 => ?_) (fun h240 => ?_)
            ·
              replace hp := hp.1 h240
              refine seq_ (fun _ K241 => ?_)
              refine reg_ ?_
              refine sq (o_pv (.bool true) rfl (by kernel_rfl) ?_)
              refine nil_ ?_
              refine then_normal (K241 _ _ _ _ ?_)
              refine wp_ret ?_
              refine then_ret ?_
              refine end_ret hQ (.bool true) (by kernel_rfl) ?_
              exact ⟨true, hp, E186, rfl⟩
            ·
              replace hp := hp.2 h240
              refine wp_skip ?_
              refine then_normal (K238 _ _ _ _ ?_)
              refine seq_ (fun _ K242 => ?_)
              refine reg_ ?_
              refine sq (o_newX [(.pointer none)] 122 (X := X177) (B := w.heap.size) E186.size rfl (by kernel_rfl) ?_)
              intro b243 w244 X245 s246 k247 n248
              have p249 := n248 _ (OB.old k191)
              refine nil_ ?_
              refine then_normal (K242 _ _ _ _ ?_)
              refine seq_ (fun _ K250 => ?_)
              refine seq_ (fun _ K251 => ?_)
              have E287 := (Evo.then0 E186 (Step.evo s246))
              have hXo288 := (Old.step hXo187 s246)
              have hS289 := (Sub.trans hS188 (Step.up s246))
              have gv290 := (GV.step gv189 s246)
              have hw_Parts291 := (Sl.step hw_Parts190 s246)
              have k292 := (OB.step0 k191 s246)
              obtain ⟨k280, hk281, hp⟩ := hp
              refine ground_ ?_
              refine join_ 1095216660480 (fun lq w282 => ∃ (X283 : List Nat) (s276 : Bool) (o277 : S_cellFault) (F278 : List Nat), (lq = [(39, (.bool s276))]) ∧ (Evo [] w w282) ∧ (Old X283 w282) ∧ (Sub X X283) ∧ (GV X283 w282 0 [(.iface 205 (.agg #[typeHandle Tryd.prog 43]))]) ∧ (Sl r_rectoref3_Part X283 w282 aw_Parts3 cw_Parts4 w_.Parts) ∧ (OB ([]) w.heap.size X283 w282 b8 [(.slice aw_Parts3 w_.Parts.length cw_Parts4), (.int .i64 w_.Err)] 28) ∧ (MO o_cellFault 122 ([]) w.heap.size X283 w282 F278 b243 o277) ∧ (Ap ([b8]) (F278)) ∧ (k280 s276 o277)) (fun Kj284 hJ285 => ?_) ?_
              ·
                refine reg_ ?_
                refine sq (o_pv (.iface 63 (.int .i64 n134)) rfl (by kernel_rfl) ?_)
                refine sq (o_pv (.iface 151 (.pointer (some ⟨b243, 0, none⟩))) rfl (by kernel_rfl) ?_)
                obtain ⟨F300, m301, hs302⟩ := MO.pack (o_cellFault_mk k247 rPtrO_none)
                have p303 := hs302 _ (Ap.cons p249 (Ap.nil_r _))
                refine sq (o_call 84 #[(.iface 63 (.int .i64 n134)), (.iface 151 (.pointer (some ⟨b243, 0, none⟩)))] rfl (x_call Tryd.call84 (by kernel_rfl)) (errors_As_w (X := X245) (err := (PErr.no n134)) (target := (S_cellFault.mk none)) hXo288 (rErr_no r136) (MO.re m301 (Wr.self _ _ (Sub.refl _))) gv290 hp) ?_)
                rintro _ w306 ⟨target304, r305, hp, X307, F309, s308, rfl, m310⟩
                have m311 := MO.re m310 (Wr.trans m310.wr m301.wr E287.size)
                have p312 := Ap.grow m310.wr p303 (OB.old k292) (Nat.le_refl _)
                cases r305
                ·
                  replace hp := hp.2 rfl
                  refine sq (o_pv (.bool true) rfl (by kernel_rfl) ?_)
                  refine sq (o_pv (.bool true) rfl (by kernel_rfl) ?_)
                  refine sq (o_not (by kernel_rfl) ?_)
                  refine sq (o_not (by kernel_rfl) ?_)
                  refine sq (o_pv (.bool true) rfl (by kernel_rfl) ?_)
                  refine nil_ ?_
                  have E313 := (Evo.thenW E287 (Step.evo s308) m301.wr)
                  have hXo314 := (Old.step hXo288 s308)
                  have hS315 := (Sub.trans hS289 (Step.up s308))
                  have gv316 := (GV.step gv290 s308)
                  have hw_Parts317 := (Sl.step hw_Parts291 s308)
                  have k318 := (OB.step k292 s308 p303)
                  refine then_normal (hJ285 _ _ _ ⟨[(39, (.bool true))], fit_mk (fun _ _ => rfl) (by kernel_rfl) (vs_cons (by kernel_rfl) vs_nil), ?_⟩)
                  exact ⟨X307, true, target304, F309, rfl, E313, hXo314, hS315, gv316, hw_Parts317, k318, m311, p312, hp⟩
                ·
                  replace hp := hp.1 rfl
                  refine sq (o_pv (.bool false) rfl (by kernel_rfl) ?_)
                  refine sq (o_pv (.bool false) rfl (by kernel_rfl) ?_)
                  obtain ⟨vov319, k321, hov320, sb322⟩ := o_cellFault_open m311
                  have p323 := Ap.subr p312 sb322
                  refine sq (o_pv vov319 (by kernel_rfl) (x_load1 (by kernel_rfl) Tryd.isAgg122 (k321.2.1.cell' 0 rfl)) ?_)
                  refine sq (o_pv (.bool target304.v.isNone) (by kernel_rfl) (x_ptro_eq hov320 Tryd.underlying122 (by kernel_rfl) (by kernel_rfl)) ?_)
                  refine sq (o_pv (.bool target304.v.isNone) rfl (by kernel_rfl) ?_)
                  refine nil_ ?_
                  have E324 := (Evo.thenW E287 (Step.evo s308) m301.wr)
                  have hXo325 := (Old.step hXo288 s308)
                  have hS326 := (Sub.trans hS289 (Step.up s308))
                  have gv327 := (GV.step gv290 s308)
                  have hw_Parts328 := (Sl.step hw_Parts291 s308)
                  have k329 := (OB.step k292 s308 p303)
                  obtain ⟨F330, m331, hs332⟩ := MO.pack (o_cellFault_mk k321 hov320)
                  have p333 := hs332 _ (Ap.cons p323 (Ap.nil_r _))
                  refine then_normal (hJ285 _ _ _ ⟨[(39, (.bool target304.v.isNone))], fit_mk (fun _ _ => rfl) (by kernel_rfl) (vs_cons (by kernel_rfl) vs_nil), ?_⟩)
                  exact ⟨X307, target304.v.isNone, target304, F330, rfl, E324, hXo325, hS326, gv327, hw_Parts328, k329, m331, p333, hp⟩
              ·
                rintro _ w282 g334 ⟨X283, s276, o277, F278, rfl, E293, hXo294, hS295, gv296, hw_Parts297, k298, m279, p299, hv286⟩
                replace hp := hk281 s276 o277 hv286
                refine then_normal (K251 _ _ _ _ ?_)
                refine cond_b s276 (by kernel_rfl) (fun h335 => ?_) (fun h335 => ?_)
                ·
                  replace hp := hp.1 h335
                  refine seq_ (fun _ K336 => ?_)
                  refine reg_ ?_
                  refine sq (o_pv (.bool false) rfl (by kernel_rfl) ?_)
                  refine nil_ ?_
                  refine then_normal (K336 _ _ _ _ ?_)
                  refine wp_ret ?_
                  refine then_ret ?_
                  refine end_ret hQ (.bool false) (by kernel_rfl) ?_
                  exact ⟨false, hp, E293, rfl⟩
                ·
                  replace hp := hp.2 h335
                  refine wp_skip ?_
                  refine then_normal (K250 _ _ _ _ ?_)
                  refine seq_ (fun _ K337 => ?_)
                  obtain ⟨k393, hk394, hp⟩ := hp
                  refine ground_ ?_
                  refine join_ 4611684918915760144 (fun lq w395 => ∃ (X396 : List Nat) (s392 : Bool), (lq = [(4, (.bool s392))]) ∧ (Evo [] w w395) ∧ (Old X396 w395) ∧ (Sub X X396) ∧ (GV X396 w395 0 [(.iface 205 (.agg #[typeHandle Tryd.prog 43]))]) ∧ (k393 s392)) (fun Kj397 hJ398 => ?_) ?_
                  ·
                    obtain ⟨vov404, k406, hov405, sb407⟩ := o_cellFault_open m279
                    have p408 := Ap.subr p299 sb407
                    refine reg_drawn (RB w282.heap.size []) 22 (by kernel_rfl) (fun w409 hd410 => ?_)
                    have e411 := Evo.of_drew hd410
                    have z412 : w409.heap.size = w282.heap.size := by rw [hd410]
                    clear hd410
                    have s414 := Step.of0 X283 e411
                    have er413 := RB.refl w282.heap.size [] w409
                    have E415 := (Evo.then0 E293 (Step.evo s414))
                    have hXo416 := (Old.step hXo294 s414)
                    have hS417 := (Sub.trans hS295 (Step.up s414))
                    have gv418 := (GV.step gv296 s414)
                    have hw_Parts419 := (Sl.step hw_Parts297 s414)
                    have k420 := (OB.step0 k298 s414)
                    have k421 := (OB.step0 k406 s414)
                    have hov422 := (Rep.step (rPtrO r_api_Fault 124) hov405 s414)
                    refine r_take 0 vov404 (RB.pre _ _) rfl (by kernel_rfl) (fun _ _ _ h => hQ.panic _ _ _ _ _ h) (.inl ⟨rfl, fun wq hq => (x_load1 (by kernel_rfl) Tryd.isAgg122 ((Blk.rb k421.2.1 (RB.trans er413 hq) (Nat.lt_of_lt_of_eq (Blk.lt k421.2.1) z412) (fun h => by cases h)).cell' 0 rfl))⟩) ?_
                    obtain ⟨d423, h424, hp⟩ := hp
                    rw [h424] at hov422
                    obtain ⟨b425, cs426, hvb425, nb427, k428, ok429⟩ := hov422
                    injection hvb425 with hvb425 _; subst hvb425
                    obtain ⟨vpErr432, rfl, zpPart430, rpAt431, hpErr433⟩ := r_api_Fault_open ok429
                    replace hp := hp zpPart430
                    replace hp := hp rpAt431
                    have k434 := (⟨nb427, k428⟩ : RO _ _ _ _ _)
                    refine r_take 1 (.pointer (some ⟨b425, 0, none⟩)) (RB.pre _ _) rfl (by kernel_rfl) (fun _ _ _ h => hQ.panic _ _ _ _ _ h) (.inl ⟨rfl, fun wq hq => (by kernel_rfl)⟩) ?_
                    refine r_take 2 (.pointer (some ⟨b425, 0, none⟩)) (RB.pre _ _) rfl (by kernel_rfl) (fun _ _ _ h => hQ.panic _ _ _ _ _ h) (.inl ⟨rfl, fun wq hq => (by kernel_rfl)⟩) ?_
                    refine r_take 3 (.string d423.Part) (RB.pre _ _) rfl (by kernel_rfl) (fun _ _ _ h => hQ.panic _ _ _ _ _ h) (.inl ⟨rfl, fun wq hq => (x_load1 (by kernel_rfl) Tryd.isAgg9 ((Blk.rb k434.2 (RB.trans er413 hq) (Nat.lt_of_lt_of_eq (Blk.lt k434.2) z412) (fun h => by cases h)).cell' 0 rfl))⟩) ?_
                    refine r_take 4 (.pointer (some ⟨b8, 0, none⟩)) (RB.pre _ _) rfl (by kernel_rfl) (fun _ _ _ h => hQ.panic _ _ _ _ _ h) (.inl ⟨rfl, fun wq hq => (by kernel_rfl)⟩) ?_
                    refine r_take 5 (.slice aw_Parts3 w_.Parts.length cw_Parts4) (RB.pre _ _) rfl (by kernel_rfl) (fun _ _ _ h => hQ.panic _ _ _ _ _ h) (.inl ⟨rfl, fun wq hq => (x_load1 (by kernel_rfl) Tryd.isAgg26 ((Blk.rb k420.2.1 (RB.trans er413 hq) (Nat.lt_of_lt_of_eq (Blk.lt k420.2.1) z412) (fun h => by cases h)).cell' 0 rfl))⟩) ?_
                    obtain ⟨h435, hp⟩ := hp
                    obtain ⟨b436, o437, cs438, ha439, nx440, lt441, ok442, hc443⟩ := Sl.atI hw_Parts419 (0 : Int) h435
                    obtain ⟨rfl, zeWord444, reAt445⟩ := r_rectoref3_Part_open ok442
                    replace hp := hp zeWord444
                    replace hp := hp reAt445
                    refine r_take 6 (.pointer (some ⟨b436, o437 + (0 : Int).toNat * 2, none⟩)) (RB.pre _ _) rfl (by kernel_rfl) (fun _ _ _ h => hQ.panic _ _ _ _ _ h) (.inl ⟨rfl, fun wq hq => (x_ixA (m := w_.Parts.length) (c := cw_Parts4) (k := .i64) (i := (0 : Int)) Tryd.underlying26 Tryd.sizeOf153 (by rw [← ha439]; kernel_rfl) (by kernel_rfl) h435)⟩) ?_
                    refine r_take 7 (.pointer (some ⟨b436, o437 + (0 : Int).toNat * 2, none⟩)) (RB.pre _ _) rfl (by kernel_rfl) (fun _ _ _ h => hQ.panic _ _ _ _ _ h) (.inl ⟨rfl, fun wq hq => (by kernel_rfl)⟩) ?_
                    refine r_take 8 (.string ((lget w_.Parts (0 : Int)).Word)) (RB.pre _ _) rfl (by kernel_rfl) (fun _ _ _ h => hQ.panic _ _ _ _ _ h) (.inl ⟨rfl, fun wq hq => (x_load1 (by kernel_rfl) Tryd.isAgg9 ((CellsAt.rb hc443 (RB.trans er413 hq) (Nat.lt_of_lt_of_eq lt441 z412) (fun h => by cases h)) 0 _ rfl))⟩) ?_
                    by_cases h446 : (d423.Part : ByteArray) = (lget w_.Parts (0 : Int)).Word
                    ·
                      replace hp := hp.1 h446
                      refine r_take 9 (.bool true) (RB.pre _ _) rfl (by kernel_rfl) (fun _ _ _ h => hQ.panic _ _ _ _ _ h) (.inl ⟨rfl, fun wq hq => (x_dt (p := (d423.Part : ByteArray) = (lget w_.Parts (0 : Int)).Word) (x_streq (by kernel_rfl) (by kernel_rfl)) h446)⟩) ?_
                      refine r_take 10 (.bool true) (RB.pre _ _) rfl (by kernel_rfl) (fun _ _ _ h => hQ.panic _ _ _ _ _ h) (.inl ⟨rfl, fun wq hq => (by kernel_rfl)⟩) ?_
                      refine r_take 11 (.pointer (some ⟨b425, 0, none⟩)) (RB.pre _ _) rfl (by kernel_rfl) (fun _ _ _ h => hQ.panic _ _ _ _ _ h) (.inl ⟨(by kernel_rfl), fun wq hq => (x_load1 (by kernel_rfl) Tryd.isAgg122 ((Blk.rb k421.2.1 (RB.trans er413 hq) (Nat.lt_of_lt_of_eq (Blk.lt k421.2.1) z412) (fun h => by cases h)).cell' 0 rfl))⟩) ?_
                      refine r_take 12 (.pointer (some ⟨b425, 0, none⟩)) (RB.pre _ _) rfl (by kernel_rfl) (fun _ _ _ h => hQ.panic _ _ _ _ _ h) (.inl ⟨(by kernel_rfl), fun wq hq => (by kernel_rfl)⟩) ?_
                      refine r_take 13 (.pointer (some ⟨b425, 1, none⟩)) (RB.pre _ _) rfl (by kernel_rfl) (fun _ _ _ h => hQ.panic _ _ _ _ _ h) (.inl ⟨(by kernel_rfl), fun wq hq => (by kernel_rfl)⟩) ?_
                      refine r_take 14 (.int .i64 d423.At) (RB.pre _ _) rfl (by kernel_rfl) (fun _ _ _ h => hQ.panic _ _ _ _ _ h) (.inl ⟨(by kernel_rfl), fun wq hq => (x_load1 (by kernel_rfl) Tryd.isAgg3 ((Blk.rb k434.2 (RB.trans er413 hq) (Nat.lt_of_lt_of_eq (Blk.lt k434.2) z412) (fun h => by cases h)).cell' 1 rfl))⟩) ?_
                      refine r_take 15 (.pointer (some ⟨b8, 0, none⟩)) (RB.pre _ _) rfl (by kernel_rfl) (fun _ _ _ h => hQ.panic _ _ _ _ _ h) (.inl ⟨(by kernel_rfl), fun wq hq => (by kernel_rfl)⟩) ?_
                      refine r_take 16 (.slice aw_Parts3 w_.Parts.length cw_Parts4) (RB.pre _ _) rfl (by kernel_rfl) (fun _ _ _ h => hQ.panic _ _ _ _ _ h) (.inl ⟨(by kernel_rfl), fun wq hq => (x_load1 (by kernel_rfl) Tryd.isAgg26 ((Blk.rb k420.2.1 (RB.trans er413 hq) (Nat.lt_of_lt_of_eq (Blk.lt k420.2.1) z412) (fun h => by cases h)).cell' 0 rfl))⟩) ?_
                      obtain ⟨h447, hp⟩ := hp
                      obtain ⟨b448, o449, cs450, ha451, nx452, lt453, ok454, hc455⟩ := Sl.atI hw_Parts419 (0 : Int) h447
                      obtain ⟨rfl, zeWord456, reAt457⟩ := r_rectoref3_Part_open ok454
                      replace hp := hp zeWord456
                      replace hp := hp reAt457
                      refine r_take 17 (.pointer (some ⟨b448, o449 + (0 : Int).toNat * 2, none⟩)) (RB.pre _ _) rfl (by kernel_rfl) (fun _ _ _ h => hQ.panic _ _ _ _ _ h) (.inl ⟨(by kernel_rfl), fun wq hq => (x_ixA (m := w_.Parts.length) (c := cw_Parts4) (k := .i64) (i := (0 : Int)) Tryd.underlying26 Tryd.sizeOf153 (by rw [← ha451]; kernel_rfl) (by kernel_rfl) h447)⟩) ?_
                      refine r_take 18 (.pointer (some ⟨b448, o449 + (0 : Int).toNat * 2 + 1, none⟩)) (RB.pre _ _) rfl (by kernel_rfl) (fun _ _ _ h => hQ.panic _ _ _ _ _ h) (.inl ⟨(by kernel_rfl), fun wq hq => (by kernel_rfl)⟩) ?_
                      refine r_take 19 (.int .i64 ((lget w_.Parts (0 : Int)).At)) (RB.pre _ _) rfl (by kernel_rfl) (fun _ _ _ h => hQ.panic _ _ _ _ _ h) (.inl ⟨(by kernel_rfl), fun wq hq => (x_load1 (by kernel_rfl) Tryd.isAgg3 ((CellsAt.rb hc455 (RB.trans er413 hq) (Nat.lt_of_lt_of_eq lt453 z412) (fun h => by cases h)) 1 _ rfl))⟩) ?_
                      refine r_take 20 (.bool (decide (d423.At = ((lget w_.Parts (0 : Int)).At)))) (RB.pre _ _) rfl (by kernel_rfl) (fun _ _ _ h => hQ.panic _ _ _ _ _ h) (.inl ⟨(by kernel_rfl), fun wq hq => (by kernel_rfl)⟩) ?_
                      refine r_take 21 (.bool (decide (d423.At = ((lget w_.Parts (0 : Int)).At)))) (RB.pre _ _) rfl (by kernel_rfl) (fun _ _ _ h => hQ.panic _ _ _ _ _ h) (.inl ⟨rfl, fun wq hq => (by kernel_rfl)⟩) ?_
                      refine r_ready [22] (by kernel_rfl) rfl (all_cons ⟨_, _, _, _, _, _, rfl, ?_⟩ all_nil)
                      refine o_pv (.bool (decide (d423.At = ((lget w_.Parts (0 : Int)).At)))) rfl (by kernel_rfl) ?_
                      refine ⟨fun h => absurd h (by decide), ?_⟩
                      refine r_done (by kernel_rfl) ?_
                      refine then_normal (hJ398 _ _ _ ⟨[(4, (.bool (decide (d423.At = ((lget w_.Parts (0 : Int)).At)))))], fit_mk (fun _ _ => rfl) (by kernel_rfl) (vs_cons (by kernel_rfl) vs_nil), ?_⟩)
                      exact ⟨X283, (decide (d423.At = ((lget w_.Parts (0 : Int)).At))), rfl, E415, hXo416, hS417, gv418, hp⟩
                    ·
                      replace hp := hp.2 h446
                      refine r_take 9 (.bool false) (RB.pre _ _) rfl (by kernel_rfl) (fun _ _ _ h => hQ.panic _ _ _ _ _ h) (.inl ⟨rfl, fun wq hq => (x_df (p := (d423.Part : ByteArray) = (lget w_.Parts (0 : Int)).Word) (x_streq (by kernel_rfl) (by kernel_rfl)) h446)⟩) ?_
                      refine r_take 10 (.bool false) (RB.pre _ _) rfl (by kernel_rfl) (fun _ _ _ h => hQ.panic _ _ _ _ _ h) (.inl ⟨rfl, fun wq hq => (by kernel_rfl)⟩) ?_
                      refine r_take 11 undef (RB.pre _ _) rfl (by kernel_rfl) (fun _ _ _ h => hQ.panic _ _ _ _ _ h) (.inr ⟨by kernel_rfl, rfl⟩) ?_
                      refine r_take 12 undef (RB.pre _ _) rfl (by kernel_rfl) (fun _ _ _ h => hQ.panic _ _ _ _ _ h) (.inr ⟨by kernel_rfl, rfl⟩) ?_
                      refine r_take 13 undef (RB.pre _ _) rfl (by kernel_rfl) (fun _ _ _ h => hQ.panic _ _ _ _ _ h) (.inr ⟨by kernel_rfl, rfl⟩) ?_
                      refine r_take 14 undef (RB.pre _ _) rfl (by kernel_rfl) (fun _ _ _ h => hQ.panic _ _ _ _ _ h) (.inr ⟨by kernel_rfl, rfl⟩) ?_
                      refine r_take 15 undef (RB.pre _ _) rfl (by kernel_rfl) (fun _ _ _ h => hQ.panic _ _ _ _ _ h) (.inr ⟨by kernel_rfl, rfl⟩) ?_
                      refine r_take 16 undef (RB.pre _ _) rfl (by kernel_rfl) (fun _ _ _ h => hQ.panic _ _ _ _ _ h) (.inr ⟨by kernel_rfl, rfl⟩) ?_
                      refine r_take 17 undef (RB.pre _ _) rfl (by kernel_rfl) (fun _ _ _ h => hQ.panic _ _ _ _ _ h) (.inr ⟨by kernel_rfl, rfl⟩) ?_
                      refine r_take 18 undef (RB.pre _ _) rfl (by kernel_rfl) (fun _ _ _ h => hQ.panic _ _ _ _ _ h) (.inr ⟨by kernel_rfl, rfl⟩) ?_
                      refine r_take 19 undef (RB.pre _ _) rfl (by kernel_rfl) (fun _ _ _ h => hQ.panic _ _ _ _ _ h) (.inr ⟨by kernel_rfl, rfl⟩) ?_
                      refine r_take 20 undef (RB.pre _ _) rfl (by kernel_rfl) (fun _ _ _ h => hQ.panic _ _ _ _ _ h) (.inr ⟨by kernel_rfl, rfl⟩) ?_
                      refine r_take 21 (.bool false) (RB.pre _ _) rfl (by kernel_rfl) (fun _ _ _ h => hQ.panic _ _ _ _ _ h) (.inl ⟨rfl, fun wq hq => (by kernel_rfl)⟩) ?_
                      refine r_ready [22] (by kernel_rfl) rfl (all_cons ⟨_, _, _, _, _, _, rfl, ?_⟩ all_nil)
                      refine o_pv (.bool false) rfl (by kernel_rfl) ?_
                      refine ⟨fun h => absurd h (by decide), ?_⟩
                      refine r_done (by kernel_rfl) ?_
                      refine then_normal (hJ398 _ _ _ ⟨[(4, (.bool false))], fit_mk (fun _ _ => rfl) (by kernel_rfl) (vs_cons (by kernel_rfl) vs_nil), ?_⟩)
                      exact ⟨X283, false, rfl, E415, hXo416, hS417, gv418, hp⟩
                  ·
                    rintro _ w395 g458 ⟨X396, s392, rfl, E400, hXo401, hS402, gv403, hv399⟩
                    replace hp := hk394 s392 hv399
                    refine then_normal (K337 _ _ _ _ ?_)
                    refine wp_ret ?_
                    refine end_ret hQ (.bool s392) (by kernel_rfl) ?_
                    exact ⟨s392, hp, E400, rfl⟩
      ·
        replace hp := hp.2 h97
        obtain ⟨part459, at460, n461, hc462⟩ := isFault_eq h96 h97
        replace hp := hp part459 at460 n461 hc462
        rw [hc462] at herr95
        obtain ⟨b463, rfl, k464, z465, r466, r467⟩ := rErr_inv_fault herr95
        replace hp := hp z465
        replace hp := hp r466
        replace hp := hp r467
        have hw_Parts514 := (Sl.step hw_Parts5 s11)
        have gv515 := (GV.step gv0 s11)
        have hXo516 := (Old.step hXo s11)
        have E517 := (Evo.then0 E0 (Step.evo s11))
        have hS518 := (Sub.trans hS (Step.up s11))
        obtain ⟨k507, hk508, hp⟩ := hp
        refine ground_ ?_
        refine join_ 268433408 (fun lq w509 => ∃ (X510 : List Nat) (s506 : Bool), (lq = [(27, (.bool s506))]) ∧ (Evo [] w w509) ∧ (Old X510 w509) ∧ (Sub X X510) ∧ (GV X510 w509 0 [(.iface 205 (.agg #[typeHandle Tryd.prog 43]))]) ∧ (RO X510 w509 b463 [(.string part459), (.int .i64 at460), (.iface 63 (.int .i64 n461))] 124) ∧ (Sl r_rectoref3_Part X510 w509 aw_Parts3 cw_Parts4 w_.Parts) ∧ (OB ([]) w.heap.size X510 w509 b8 [(.slice aw_Parts3 w_.Parts.length cw_Parts4), (.int .i64 w_.Err)] 28) ∧ (k507 s506)) (fun Kj511 hJ512 => ?_) ?_
        ·
          refine reg_drawn (RB w9.heap.size []) 17 (by kernel_rfl) (fun w526 hd527 => ?_)
          have e528 := Evo.of_drew hd527
          have z529 : w526.heap.size = w9.heap.size := by rw [hd527]
          clear hd527
          have s531 := Step.of0 X10 e528
          have er530 := RB.refl w9.heap.size [] w526
          have hw_Parts532 := (Sl.step hw_Parts514 s531)
          have gv533 := (GV.step gv515 s531)
          have hXo534 := (Old.step hXo516 s531)
          have E535 := (Evo.then0 E517 (Step.evo s531))
          have hS536 := (Sub.trans hS518 (Step.up s531))
          have k537 := (OB.step0 k12 s531)
          have k538 := (RO.step k464 s531)
          refine r_take 0 (.iface 122 (.pointer (some ⟨b463, 0, none⟩))) (RB.pre _ _) rfl (by kernel_rfl) (fun _ _ _ h => hQ.panic _ _ _ _ _ h) (.inl ⟨rfl, fun wq hq => (by kernel_rfl)⟩) ?_
          refine r_take 1 (.bool false) (RB.pre _ _) rfl (by kernel_rfl) (fun _ _ _ h => hQ.panic _ _ _ _ _ h) (.inl ⟨rfl, fun wq hq => (x_inil_eq (tp := 122) (v := (.pointer (some ⟨b463, 0, none⟩))) Tryd.underlying43 (by kernel_rfl) (by kernel_rfl))⟩) ?_
          refine r_take 2 (.bool false) (RB.pre _ _) rfl (by kernel_rfl) (fun _ _ _ h => hQ.panic _ _ _ _ _ h) (.inl ⟨rfl, fun wq hq => (by kernel_rfl)⟩) ?_
          refine r_take 3 (.iface 122 (.pointer (some ⟨b463, 0, none⟩))) (RB.pre _ _) rfl (by kernel_rfl) (fun _ _ _ h => hQ.panic _ _ _ _ _ h) (.inl ⟨(by kernel_rfl), fun wq hq => (by kernel_rfl)⟩) ?_
          refine r_take 5 (.agg #[(.slice aw_Parts3 w_.Parts.length cw_Parts4), (.int .i64 w_.Err)]) (RB.pre _ _) rfl (by kernel_rfl) (fun _ _ _ h => hQ.panic _ _ _ _ _ h) (.inl ⟨(by kernel_rfl), fun wq hq => (x_loadN [(.slice aw_Parts3 w_.Parts.length cw_Parts4), (.int .i64 w_.Err)] (by kernel_rfl) Tryd.isAgg28 Tryd.sizeOf28 ((Blk.rb k537.2.1 (RB.trans er530 hq) (Nat.lt_of_lt_of_eq (Blk.lt k537.2.1) z529) (fun h => by cases h)).cells' 0 rfl))⟩) ?_
          refine r_ready [4] (by kernel_rfl) rfl (all_cons ⟨_, _, _, _, _, _, rfl, ?_⟩ all_nil)
          refine o_call 177 #[(.pointer (some ⟨b463, 0, none⟩))] (by kernel_rfl) (x_invoke (t := 122) (v := (.pointer (some ⟨b463, 0, none⟩))) (r := (.pointer (some ⟨b463, 0, none⟩))) (by kernel_rfl) (fun _ => by kernel_rfl) Tryd.call177 (by kernel_rfl)) (api_Fault_Error_w (X := []) (f_ := (S_api_Fault.mk part459 at460 (PErr.no n461))) (Old.nil _) ⟨(fun hm => by cases hm), k538.2⟩ z465 r466 (rErr_no r467) hp) ?_
          rintro _ w540 ⟨r539, hp, e541, rfl, zr543⟩
          have rm := RB.mono (F' := []) e541 (Nat.le_trans (Nat.le_of_eq z529.symm) (RB.size er530)) (fun _ h => by cases h)
          have er544 := RB.trans er530 rm
          refine ⟨fun _ => rm, ?_⟩
          have s542 := Step.of0 X10 e541
          replace hp := hp zr543
          refine r_ready [6] (by kernel_rfl) rfl (all_cons ⟨_, _, _, _, _, _, rfl, ?_⟩ all_nil)
          have hw_Parts545 := (Sl.step hw_Parts532 s542)
          refine o_call 82 #[(.agg #[(.slice aw_Parts3 w_.Parts.length cw_Parts4), (.int .i64 w_.Err)])] (by kernel_rfl) (x_call Tryd.call82 (by kernel_rfl)) (rectoref3_Words_w (X := []) (w_ := w_) (Old.nil _) (Sl.less hw_Parts545 (Sub.nil _)) rw_Err6 hp) ?_
          rintro _ w547 ⟨r546, hp, e548, rfl, zr550⟩
          have rm := RB.mono (F' := []) e548 (Nat.le_trans (Nat.le_of_eq z529.symm) (RB.size er544)) (fun _ h => by cases h)
          have er551 := RB.trans er544 rm
          refine ⟨fun _ => rm, ?_⟩
          have s549 := Step.of0 X10 e548
          replace hp := hp zr550
          by_cases h552 : (r539 : ByteArray) = r546
          ·
            replace hp := hp.1 h552
            refine r_take 7 (.bool false) (RB.pre _ _) rfl (by kernel_rfl) (fun _ _ _ h => hQ.panic _ _ _ _ _ h) (.inl ⟨(by kernel_rfl), fun wq hq => (x_ndf (p := (r539 : ByteArray) = r546) (x_strne (by kernel_rfl) (by kernel_rfl)) h552)⟩) ?_
            refine r_take 8 (.bool false) (RB.pre _ _) rfl (by kernel_rfl) (fun _ _ _ h => hQ.panic _ _ _ _ _ h) (.inl ⟨rfl, fun wq hq => (by kernel_rfl)⟩) ?_
            refine r_take 9 (.bool false) (RB.pre _ _) rfl (by kernel_rfl) (fun _ _ _ h => hQ.panic _ _ _ _ _ h) (.inl ⟨rfl, fun wq hq => (by kernel_rfl)⟩) ?_
            refine r_take 10 (.iface 122 (.pointer (some ⟨b463, 0, none⟩))) (RB.pre _ _) rfl (by kernel_rfl) (fun _ _ _ h => hQ.panic _ _ _ _ _ h) (.inl ⟨(by kernel_rfl), fun wq hq => (by kernel_rfl)⟩) ?_
            refine r_take 11 (.pointer (some ⟨b8, 1, none⟩)) (RB.pre _ _) rfl (by kernel_rfl) (fun _ _ _ h => hQ.panic _ _ _ _ _ h) (.inl ⟨(by kernel_rfl), fun wq hq => (by kernel_rfl)⟩) ?_
            refine r_take 12 (.int .i64 w_.Err) (RB.pre _ _) rfl (by kernel_rfl) (fun _ _ _ h => hQ.panic _ _ _ _ _ h) (.inl ⟨(by kernel_rfl), fun wq hq => (x_load1 (by kernel_rfl) Tryd.isAgg3 ((Blk.rb k537.2.1 (RB.trans er551 hq) (Nat.lt_of_lt_of_eq (Blk.lt k537.2.1) z529) (fun h => by cases h)).cell' 1 rfl))⟩) ?_
            refine r_take 13 (.iface 63 (.int .i64 w_.Err)) (RB.pre _ _) rfl (by kernel_rfl) (fun _ _ _ h => hQ.panic _ _ _ _ _ h) (.inl ⟨(by kernel_rfl), fun wq hq => (by kernel_rfl)⟩) ?_
            refine r_ready [14] (by kernel_rfl) rfl (all_cons ⟨_, _, _, _, _, _, rfl, ?_⟩ all_nil)
            have k553 := (RO.step (RO.step k538 s542) s549)
            refine o_call 83 #[(.iface 122 (.pointer (some ⟨b463, 0, none⟩))), (.iface 63 (.int .i64 w_.Err))] (by kernel_rfl) (x_call Tryd.call83 (by kernel_rfl)) (errors_Is_w (X := []) (err := (PErr.fault part459 at460 n461)) (target := w_.Err) (Old.nil _) (rErr_fault (fun hm => by cases hm) k553.2 z465 r466 r467) rw_Err6 hp) ?_
            rintro _ w555 ⟨r554, hp, e556, rfl⟩
            have rm := RB.mono (F' := []) e556 (Nat.le_trans (Nat.le_of_eq z529.symm) (RB.size er551)) (fun _ h => by cases h)
            have er558 := RB.trans er551 rm
            refine ⟨fun _ => rm, ?_⟩
            have s557 := Step.of0 X10 e556
            refine r_take 15 (.bool (!r554)) (RB.pre _ _) rfl (by kernel_rfl) (fun _ _ _ h => hQ.panic _ _ _ _ _ h) (.inl ⟨(by kernel_rfl), fun wq hq => (by kernel_rfl)⟩) ?_
            refine r_take 16 (.bool (!r554)) (RB.pre _ _) rfl (by kernel_rfl) (fun _ _ _ h => hQ.panic _ _ _ _ _ h) (.inl ⟨rfl, fun wq hq => (by kernel_rfl)⟩) ?_
            refine r_done (by kernel_rfl) ?_
            have E559 := (Evo.then0 (Evo.then0 (Evo.then0 E535 e541) e548) e556)
            have hXo560 := (Old.step (Old.step (Old.step hXo534 s542) s549) s557)
            have hS561 := (Sub.trans (Sub.trans (Sub.trans hS536 (Step.up s542)) (Step.up s549)) (Step.up s557))
            have gv562 := (GV.step (GV.step (GV.step gv533 s542) s549) s557)
            have k563 := (RO.step k553 s557)
            have hw_Parts564 := (Sl.step (Sl.step hw_Parts545 s549) s557)
            have k565 := (OB.step0 (OB.step0 (OB.step0 k537 s542) s549) s557)
            refine then_normal (hJ512 _ _ _ ⟨[(27, (.bool (!r554)))], fit_mk (fun _ _ => rfl) (by kernel_rfl) (vs_cons (by kernel_rfl) vs_nil), ?_⟩)
            exact ⟨X10, (!r554), rfl, E559, hXo560, hS561, gv562, k563, hw_Parts564, k565, hp⟩
          ·
            replace hp := hp.2 h552
            refine r_take 7 (.bool true) (RB.pre _ _) rfl (by kernel_rfl) (fun _ _ _ h => hQ.panic _ _ _ _ _ h) (.inl ⟨(by kernel_rfl), fun wq hq => (x_ndt (p := (r539 : ByteArray) = r546) (x_strne (by kernel_rfl) (by kernel_rfl)) h552)⟩) ?_
            refine r_take 8 (.bool true) (RB.pre _ _) rfl (by kernel_rfl) (fun _ _ _ h => hQ.panic _ _ _ _ _ h) (.inl ⟨rfl, fun wq hq => (by kernel_rfl)⟩) ?_
            refine r_take 9 (.bool true) (RB.pre _ _) rfl (by kernel_rfl) (fun _ _ _ h => hQ.panic _ _ _ _ _ h) (.inl ⟨rfl, fun wq hq => (by kernel_rfl)⟩) ?_
            refine r_take 10 undef (RB.pre _ _) rfl (by kernel_rfl) (fun _ _ _ h => hQ.panic _ _ _ _ _ h) (.inr ⟨by kernel_rfl, rfl⟩) ?_
            refine r_take 11 undef (RB.pre _ _) rfl (by kernel_rfl) (fun _ _ _ h => hQ.panic _ _ _ _ _ h) (.inr ⟨by kernel_rfl, rfl⟩) ?_
            refine r_take 12 undef (RB.pre _ _) rfl (by kernel_rfl) (fun _ _ _ h => hQ.panic _ _ _ _ _ h) (.inr ⟨by kernel_rfl, rfl⟩) ?_
            refine r_take 13 undef (RB.pre _ _) rfl (by kernel_rfl) (fun _ _ _ h => hQ.panic _ _ _ _ _ h) (.inr ⟨by kernel_rfl, rfl⟩) ?_
            refine r_take 14 undef (RB.pre _ _) rfl (by kernel_rfl) (fun _ _ _ h => hQ.panic _ _ _ _ _ h) (.inr ⟨by kernel_rfl, rfl⟩) ?_
            refine r_take 15 undef (RB.pre _ _) rfl (by kernel_rfl) (fun _ _ _ h => hQ.panic _ _ _ _ _ h) (.inr ⟨by kernel_rfl, rfl⟩) ?_
            refine r_take 16 (.bool true) (RB.pre _ _) rfl (by kernel_rfl) (fun _ _ _ h => hQ.panic _ _ _ _ _ h) (.inl ⟨rfl, fun wq hq => (by kernel_rfl)⟩) ?_
            refine r_done (by kernel_rfl) ?_
            have E566 := (Evo.then0 (Evo.then0 E535 e541) e548)
            have hXo567 := (Old.step (Old.step hXo534 s542) s549)
            have hS568 := (Sub.trans (Sub.trans hS536 (Step.up s542)) (Step.up s549))
            have gv569 := (GV.step (GV.step gv533 s542) s549)
            have k570 := (RO.step (RO.step k538 s542) s549)
            have hw_Parts571 := (Sl.step hw_Parts545 s549)
            have k572 := (OB.step0 (OB.step0 k537 s542) s549)
            refine then_normal (hJ512 _ _ _ ⟨[(27, (.bool true))], fit_mk (fun _ _ => rfl) (by kernel_rfl) (vs_cons (by kernel_rfl) vs_nil), ?_⟩)
            exact ⟨X10, true, rfl, E566, hXo567, hS568, gv569, k570, hw_Parts571, k572, hp⟩
        ·
          rintro _ w509 g573 ⟨X510, s506, rfl, E519, hXo520, hS521, gv522, k523, hw_Parts524, k525, hv513⟩
          replace hp := hk508 s506 hv513
          refine then_normal (K20 _ _ _ _ ?_)
          refine cond_b s506 (by kernel_rfl) (fun h574 => ?_) (fun h574 => ?_)
          ·
            replace hp := hp.1 h574
            refine seq_ (fun _ K575 => ?_)
            refine reg_ ?_
            refine sq (o_pv (.bool false) rfl (by kernel_rfl) ?_)
            refine nil_ ?_
            refine then_normal (K575 _ _ _ _ ?_)
            refine wp_ret ?_
            refine then_ret ?_
            refine end_ret hQ (.bool false) (by kernel_rfl) ?_
            exact ⟨false, hp, E519, rfl⟩
          ·
            replace hp := hp.2 h574
            refine wp_skip ?_
            refine then_normal (K19 _ _ _ _ ?_)
            refine seq_ (fun _ K576 => ?_)
            refine seq_ (fun _ K577 => ?_)
            refine reg_ ?_
            refine sq (o_pv (.pointer (some ⟨b8, 0, none⟩)) rfl (by kernel_rfl) ?_)
            refine sq (o_pv (.slice aw_Parts3 w_.Parts.length cw_Parts4) rfl (x_load1 (by kernel_rfl) Tryd.isAgg26 (k525.2.1.cell' 0 rfl)) ?_)
            refine sq (o_pv (.int .i64 (w_.Parts.length : Int)) rfl (by kernel_rfl) ?_)
            refine sq (o_pv (.bool (decide ((w_.Parts.length : Int) = (0 : Int)))) rfl (by kernel_rfl) ?_)
            refine nil_ ?_
            refine then_normal (K577 _ _ _ _ ?_)
            refine cond_d ((w_.Parts.length : Int) = (0 : Int)) (by kernel_rfl) (fun h578 => ?_) (fun h578 => ?_)
            ·
              replace hp := hp.1 h578
              refine seq_ (fun _ K579 => ?_)
              refine reg_ ?_
              refine sq (o_pv (.bool true) rfl (by kernel_rfl) ?_)
              refine nil_ ?_
              refine then_normal (K579 _ _ _ _ ?_)
              refine wp_ret ?_
              refine then_ret ?_
              refine end_ret hQ (.bool true) (by kernel_rfl) ?_
              exact ⟨true, hp, E519, rfl⟩
            ·
              replace hp := hp.2 h578
              refine wp_skip ?_
              refine then_normal (K576 _ _ _ _ ?_)
              refine seq_ (fun _ K580 => ?_)
              refine reg_ ?_
              refine sq (o_newX [(.pointer none)] 122 (X := X510) (B := w.heap.size) E519.size rfl (by kernel_rfl) ?_)
              intro b581 w582 X583 s584 k585 n586
              have p587 := n586 _ (OB.old k525)
              refine nil_ ?_
              refine then_normal (K580 _ _ _ _ ?_)
              refine seq_ (fun _ K588 => ?_)
              refine seq_ (fun _ K589 => ?_)
              have E626 := (Evo.then0 E519 (Step.evo s584))
              have hXo627 := (Old.step hXo520 s584)
              have hS628 := (Sub.trans hS521 (Step.up s584))
              have gv629 := (GV.step gv522 s584)
              have k630 := (RO.step k523 s584)
              have hw_Parts631 := (Sl.step hw_Parts524 s584)
              have k632 := (OB.step0 k525 s584)
              obtain ⟨k619, hk620, hp⟩ := hp
              refine ground_ ?_
              refine join_ 1095216660480 (fun lq w621 => ∃ (X622 : List Nat) (s615 : Bool) (o616 : S_cellFault) (F617 : List Nat), (lq = [(39, (.bool s615))]) ∧ (Evo [] w w621) ∧ (Old X622 w621) ∧ (Sub X X622) ∧ (GV X622 w621 0 [(.iface 205 (.agg #[typeHandle Tryd.prog 43]))]) ∧ (Sl r_rectoref3_Part X622 w621 aw_Parts3 cw_Parts4 w_.Parts) ∧ (OB ([]) w.heap.size X622 w621 b8 [(.slice aw_Parts3 w_.Parts.length cw_Parts4), (.int .i64 w_.Err)] 28) ∧ (MO o_cellFault 122 ([]) w.heap.size X622 w621 F617 b581 o616) ∧ (Ap ([b8]) (F617)) ∧ (k619 s615 o616)) (fun Kj623 hJ624 => ?_) ?_
              ·
                refine reg_ ?_
                refine sq (o_pv (.iface 122 (.pointer (some ⟨b463, 0, none⟩))) rfl (by kernel_rfl) ?_)
                refine sq (o_pv (.iface 151 (.pointer (some ⟨b581, 0, none⟩))) rfl (by kernel_rfl) ?_)
                obtain ⟨F640, m641, hs642⟩ := MO.pack (o_cellFault_mk k585 rPtrO_none)
                have p643 := hs642 _ (Ap.cons p587 (Ap.nil_r _))
                refine sq (o_call 84 #[(.iface 122 (.pointer (some ⟨b463, 0, none⟩))), (.iface 151 (.pointer (some ⟨b581, 0, none⟩)))] rfl (x_call Tryd.call84 (by kernel_rfl)) (errors_As_w (X := X583) (err := (PErr.fault part459 at460 n461)) (target := (S_cellFault.mk none)) hXo627 (rErr_fault k630.1 k630.2 z465 r466 r467) (MO.re m641 (Wr.self _ _ (Sub.refl _))) gv629 hp) ?_)
                rintro _ w646 ⟨target644, r645, hp, X647, F649, s648, rfl, m650⟩
                have m651 := MO.re m650 (Wr.trans m650.wr m641.wr E626.size)
                have p652 := Ap.grow m650.wr p643 (OB.old k632) (Nat.le_refl _)
                cases r645
                ·
                  replace hp := hp.2 rfl
                  refine sq (o_pv (.bool true) rfl (by kernel_rfl) ?_)
                  refine sq (o_pv (.bool true) rfl (by kernel_rfl) ?_)
                  refine sq (o_not (by kernel_rfl) ?_)
                  refine sq (o_not (by kernel_rfl) ?_)
                  refine sq (o_pv (.bool true) rfl (by kernel_rfl) ?_)
                  refine nil_ ?_
                  have E653 := (Evo.thenW E626 (Step.evo s648) m641.wr)
                  have hXo654 := (Old.step hXo627 s648)
                  have hS655 := (Sub.trans hS628 (Step.up s648))
                  have gv656 := (GV.step gv629 s648)
                  have hw_Parts657 := (Sl.step hw_Parts631 s648)
                  have k658 := (OB.step k632 s648 p643)
                  refine then_normal (hJ624 _ _ _ ⟨[(39, (.bool true))], fit_mk (fun _ _ => rfl) (by kernel_rfl) (vs_cons (by kernel_rfl) vs_nil), ?_⟩)
                  exact ⟨X647, true, target644, F649, rfl, E653, hXo654, hS655, gv656, hw_Parts657, k658, m651, p652, hp⟩
                ·
                  replace hp := hp.1 rfl
                  refine sq (o_pv (.bool false) rfl (by kernel_rfl) ?_)
                  refine sq (o_pv (.bool false) rfl (by kernel_rfl) ?_)
                  obtain ⟨vov659, k661, hov660, sb662⟩ := o_cellFault_open m651
                  have p663 := Ap.subr p652 sb662
                  refine sq (o_pv vov659 (by kernel_rfl) (x_load1 (by kernel_rfl) Tryd.isAgg122 (k661.2.1.cell' 0 rfl)) ?_)
                  refine sq (o_pv (.bool target644.v.isNone) (by kernel_rfl) (x_ptro_eq hov660 Tryd.underlying122 (by kernel_rfl) (by kernel_rfl)) ?_)
                  refine sq (o_pv (.bool target644.v.isNone) rfl (by kernel_rfl) ?_)
                  refine nil_ ?_
                  have E664 := (Evo.thenW E626 (Step.evo s648) m641.wr)
                  have hXo665 := (Old.step hXo627 s648)
                  have hS666 := (Sub.trans hS628 (Step.up s648))
                  have gv667 := (GV.step gv629 s648)
                  have k668 := (RO.step k630 s648)
                  have hw_Parts669 := (Sl.step hw_Parts631 s648)
                  have k670 := (OB.step k632 s648 p643)
                  obtain ⟨F671, m672, hs673⟩ := MO.pack (o_cellFault_mk k661 hov660)
                  have p674 := hs673 _ (Ap.cons p663 (Ap.nil_r _))
                  refine then_normal (hJ624 _ _ _ ⟨[(39, (.bool target644.v.isNone))], fit_mk (fun _ _ => rfl) (by kernel_rfl) (vs_cons (by kernel_rfl) vs_nil), ?_⟩)
                  exact ⟨X647, target644.v.isNone, target644, F671, rfl, E664, hXo665, hS666, gv667, hw_Parts669, k670, m672, p674, hp⟩
              ·
                rintro _ w621 g675 ⟨X622, s615, o616, F617, rfl, E633, hXo634, hS635, gv636, hw_Parts637, k638, m618, p639, hv625⟩
                replace hp := hk620 s615 o616 hv625
                refine then_normal (K589 _ _ _ _ ?_)
                refine cond_b s615 (by kernel_rfl) (fun h676 => ?_) (fun h676 => ?_)
                ·
                  replace hp := hp.1 h676
                  refine seq_ (fun _ K677 => ?_)
                  refine reg_ ?_
                  refine sq (o_pv (.bool false) rfl (by kernel_rfl) ?_)
                  refine nil_ ?_
                  refine then_normal (K677 _ _ _ _ ?_)
                  refine wp_ret ?_
                  refine then_ret ?_
                  refine end_ret hQ (.bool false) (by kernel_rfl) ?_
                  exact ⟨false, hp, E633, rfl⟩
                ·
                  replace hp := hp.2 h676
                  refine wp_skip ?_
                  refine then_normal (K588 _ _ _ _ ?_)
                  refine seq_ (fun _ K678 => ?_)
                  obtain ⟨k734, hk735, hp⟩ := hp
                  refine ground_ ?_
                  refine join_ 4611684918915760144 (fun lq w736 => ∃ (X737 : List Nat) (s733 : Bool), (lq = [(4, (.bool s733))]) ∧ (Evo [] w w736) ∧ (Old X737 w736) ∧ (Sub X X737) ∧ (GV X737 w736 0 [(.iface 205 (.agg #[typeHandle Tryd.prog 43]))]) ∧ (k734 s733)) (fun Kj738 hJ739 => ?_) ?_
                  ·
                    obtain ⟨vov745, k747, hov746, sb748⟩ := o_cellFault_open m618
                    have p749 := Ap.subr p639 sb748
                    refine reg_drawn (RB w621.heap.size []) 22 (by kernel_rfl) (fun w750 hd751 => ?_)
                    have e752 := Evo.of_drew hd751
                    have z753 : w750.heap.size = w621.heap.size := by rw [hd751]
                    clear hd751
                    have s755 := Step.of0 X622 e752
                    have er754 := RB.refl w621.heap.size [] w750
                    have E756 := (Evo.then0 E633 (Step.evo s755))
                    have hXo757 := (Old.step hXo634 s755)
                    have hS758 := (Sub.trans hS635 (Step.up s755))
                    have gv759 := (GV.step gv636 s755)
                    have hw_Parts760 := (Sl.step hw_Parts637 s755)
                    have k761 := (OB.step0 k638 s755)
                    have k762 := (OB.step0 k747 s755)
                    have hov763 := (Rep.step (rPtrO r_api_Fault 124) hov746 s755)
                    refine r_take 0 vov745 (RB.pre _ _) rfl (by kernel_rfl) (fun _ _ _ h => hQ.panic _ _ _ _ _ h) (.inl ⟨rfl, fun wq hq => (x_load1 (by kernel_rfl) Tryd.isAgg122 ((Blk.rb k762.2.1 (RB.trans er754 hq) (Nat.lt_of_lt_of_eq (Blk.lt k762.2.1) z753) (fun h => by cases h)).cell' 0 rfl))⟩) ?_
                    obtain ⟨d764, h765, hp⟩ := hp
                    rw [h765] at hov763
                    obtain ⟨b766, cs767, hvb766, nb768, k769, ok770⟩ := hov763
                    injection hvb766 with hvb766 _; subst hvb766
                    obtain ⟨vpErr773, rfl, zpPart771, rpAt772, hpErr774⟩ := r_api_Fault_open ok770
                    replace hp := hp zpPart771
                    replace hp := hp rpAt772
                    have k775 := (⟨nb768, k769⟩ : RO _ _ _ _ _)
                    refine r_take 1 (.pointer (some ⟨b766, 0, none⟩)) (RB.pre _ _) rfl (by kernel_rfl) (fun _ _ _ h => hQ.panic _ _ _ _ _ h) (.inl ⟨rfl, fun wq hq => (by kernel_rfl)⟩) ?_
                    refine r_take 2 (.pointer (some ⟨b766, 0, none⟩)) (RB.pre _ _) rfl (by kernel_rfl) (fun _ _ _ h => hQ.panic _ _ _ _ _ h) (.inl ⟨rfl, fun wq hq => (by kernel_rfl)⟩) ?_
                    refine r_take 3 (.string d764.Part) (RB.pre _ _) rfl (by kernel_rfl) (fun _ _ _ h => hQ.panic _ _ _ _ _ h) (.inl ⟨rfl, fun wq hq => (x_load1 (by kernel_rfl) Tryd.isAgg9 ((Blk.rb k775.2 (RB.trans er754 hq) (Nat.lt_of_lt_of_eq (Blk.lt k775.2) z753) (fun h => by cases h)).cell' 0 rfl))⟩) ?_
                    refine r_take 4 (.pointer (some ⟨b8, 0, none⟩)) (RB.pre _ _) rfl (by kernel_rfl) (fun _ _ _ h => hQ.panic _ _ _ _ _ h) (.inl ⟨rfl, fun wq hq => (by kernel_rfl)⟩) ?_
                    refine r_take 5 (.slice aw_Parts3 w_.Parts.length cw_Parts4) (RB.pre _ _) rfl (by kernel_rfl) (fun _ _ _ h => hQ.panic _ _ _ _ _ h) (.inl ⟨rfl, fun wq hq => (x_load1 (by kernel_rfl) Tryd.isAgg26 ((Blk.rb k761.2.1 (RB.trans er754 hq) (Nat.lt_of_lt_of_eq (Blk.lt k761.2.1) z753) (fun h => by cases h)).cell' 0 rfl))⟩) ?_
                    obtain ⟨h776, hp⟩ := hp
                    obtain ⟨b777, o778, cs779, ha780, nx781, lt782, ok783, hc784⟩ := Sl.atI hw_Parts760 (0 : Int) h776
                    obtain ⟨rfl, zeWord785, reAt786⟩ := r_rectoref3_Part_open ok783
                    replace hp := hp zeWord785
                    replace hp := hp reAt786
                    refine r_take 6 (.pointer (some ⟨b777, o778 + (0 : Int).toNat * 2, none⟩)) (RB.pre _ _) rfl (by kernel_rfl) (fun _ _ _ h => hQ.panic _ _ _ _ _ h) (.inl ⟨rfl, fun wq hq => (x_ixA (m := w_.Parts.length) (c := cw_Parts4) (k := .i64) (i := (0 : Int)) Tryd.underlying26 Tryd.sizeOf153 (by rw [← ha780]; kernel_rfl) (by kernel_rfl) h776)⟩) ?_
                    refine r_take 7 (.pointer (some ⟨b777, o778 + (0 : Int).toNat * 2, none⟩)) (RB.pre _ _) rfl (by kernel_rfl) (fun _ _ _ h => hQ.panic _ _ _ _ _ h) (.inl ⟨rfl, fun wq hq => (by kernel_rfl)⟩) ?_
                    refine r_take 8 (.string ((lget w_.Parts (0 : Int)).Word)) (RB.pre _ _) rfl (by kernel_rfl) (fun _ _ _ h => hQ.panic _ _ _ _ _ h) (.inl ⟨rfl, fun wq hq => (x_load1 (by kernel_rfl) Tryd.isAgg9 ((CellsAt.rb hc784 (RB.trans er754 hq) (Nat.lt_of_lt_of_eq lt782 z753) (fun h => by cases h)) 0 _ rfl))⟩) ?_
                    by_cases h787 : (d764.Part : ByteArray) = (lget w_.Parts (0 : Int)).Word
                    ·
                      replace hp := hp.1 h787
                      refine r_take 9 (.bool true) (RB.pre _ _) rfl (by kernel_rfl) (fun _ _ _ h => hQ.panic _ _ _ _ _ h) (.inl ⟨rfl, fun wq hq => (x_dt (p := (d764.Part : ByteArray) = (lget w_.Parts (0 : Int)).Word) (x_streq (by kernel_rfl) (by kernel_rfl)) h787)⟩) ?_
                      refine r_take 10 (.bool true) (RB.pre _ _) rfl (by kernel_rfl) (fun _ _ _ h => hQ.panic _ _ _ _ _ h) (.inl ⟨rfl, fun wq hq => (by kernel_rfl)⟩) ?_
                      refine r_take 11 (.pointer (some ⟨b766, 0, none⟩)) (RB.pre _ _) rfl (by kernel_rfl) (fun _ _ _ h => hQ.panic _ _ _ _ _ h) (.inl ⟨(by kernel_rfl), fun wq hq => (x_load1 (by kernel_rfl) Tryd.isAgg122 ((Blk.rb k762.2.1 (RB.trans er754 hq) (Nat.lt_of_lt_of_eq (Blk.lt k762.2.1) z753) (fun h => by cases h)).cell' 0 rfl))⟩) ?_
                      refine r_take 12 (.pointer (some ⟨b766, 0, none⟩)) (RB.pre _ _) rfl (by kernel_rfl) (fun _ _ _ h => hQ.panic _ _ _ _ _ h) (.inl ⟨(by kernel_rfl), fun wq hq => (by kernel_rfl)⟩) ?_
                      refine r_take 13 (.pointer (some ⟨b766, 1, none⟩)) (RB.pre _ _) rfl (by kernel_rfl) (fun _ _ _ h => hQ.panic _ _ _ _ _ h) (.inl ⟨(by kernel_rfl), fun wq hq => (by kernel_rfl)⟩) ?_
                      refine r_take 14 (.int .i64 d764.At) (RB.pre _ _) rfl (by kernel_rfl) (fun _ _ _ h => hQ.panic _ _ _ _ _ h) (.inl ⟨(by kernel_rfl), fun wq hq => (x_load1 (by kernel_rfl) Tryd.isAgg3 ((Blk.rb k775.2 (RB.trans er754 hq) (Nat.lt_of_lt_of_eq (Blk.lt k775.2) z753) (fun h => by cases h)).cell' 1 rfl))⟩) ?_
                      refine r_take 15 (.pointer (some ⟨b8, 0, none⟩)) (RB.pre _ _) rfl (by kernel_rfl) (fun _ _ _ h => hQ.panic _ _ _ _ _ h) (.inl ⟨(by kernel_rfl), fun wq hq => (by kernel_rfl)⟩) ?_
                      refine r_take 16 (.slice aw_Parts3 w_.Parts.length cw_Parts4) (RB.pre _ _) rfl (by kernel_rfl) (fun _ _ _ h => hQ.panic _ _ _ _ _ h) (.inl ⟨(by kernel_rfl), fun wq hq => (x_load1 (by kernel_rfl) Tryd.isAgg26 ((Blk.rb k761.2.1 (RB.trans er754 hq) (Nat.lt_of_lt_of_eq (Blk.lt k761.2.1) z753) (fun h => by cases h)).cell' 0 rfl))⟩) ?_
                      obtain ⟨h788, hp⟩ := hp
                      obtain ⟨b789, o790, cs791, ha792, nx793, lt794, ok795, hc796⟩ := Sl.atI hw_Parts760 (0 : Int) h788
                      obtain ⟨rfl, zeWord797, reAt798⟩ := r_rectoref3_Part_open ok795
                      replace hp := hp zeWord797
                      replace hp := hp reAt798
                      refine r_take 17 (.pointer (some ⟨b789, o790 + (0 : Int).toNat * 2, none⟩)) (RB.pre _ _) rfl (by kernel_rfl) (fun _ _ _ h => hQ.panic _ _ _ _ _ h) (.inl ⟨(by kernel_rfl), fun wq hq => (x_ixA (m := w_.Parts.length) (c := cw_Parts4) (k := .i64) (i := (0 : Int)) Tryd.underlying26 Tryd.sizeOf153 (by rw [← ha792]; kernel_rfl) (by kernel_rfl) h788)⟩) ?_
                      refine r_take 18 (.pointer (some ⟨b789, o790 + (0 : Int).toNat * 2 + 1, none⟩)) (RB.pre _ _) rfl (by kernel_rfl) (fun _ _ _ h => hQ.panic _ _ _ _ _ h) (.inl ⟨(by kernel_rfl), fun wq hq => (by kernel_rfl)⟩) ?_
                      refine r_take 19 (.int .i64 ((lget w_.Parts (0 : Int)).At)) (RB.pre _ _) rfl (by kernel_rfl) (fun _ _ _ h => hQ.panic _ _ _ _ _ h) (.inl ⟨(by kernel_rfl), fun wq hq => (x_load1 (by kernel_rfl) Tryd.isAgg3 ((CellsAt.rb hc796 (RB.trans er754 hq) (Nat.lt_of_lt_of_eq lt794 z753) (fun h => by cases h)) 1 _ rfl))⟩) ?_
                      refine r_take 20 (.bool (decide (d764.At = ((lget w_.Parts (0 : Int)).At)))) (RB.pre _ _) rfl (by kernel_rfl) (fun _ _ _ h => hQ.panic _ _ _ _ _ h) (.inl ⟨(by kernel_rfl), fun wq hq => (by kernel_rfl)⟩) ?_
                      refine r_take 21 (.bool (decide (d764.At = ((lget w_.Parts (0 : Int)).At)))) (RB.pre _ _) rfl (by kernel_rfl) (fun _ _ _ h => hQ.panic _ _ _ _ _ h) (.inl ⟨rfl, fun wq hq => (by kernel_rfl)⟩) ?_
                      refine r_ready [22] (by kernel_rfl) rfl (all_cons ⟨_, _, _, _, _, _, rfl, ?_⟩ all_nil)
                      refine o_pv (.bool (decide (d764.At = ((lget w_.Parts (0 : Int)).At)))) rfl (by kernel_rfl) ?_
                      refine ⟨fun h => absurd h (by decide), ?_⟩
                      refine r_done (by kernel_rfl) ?_
                      refine then_normal (hJ739 _ _ _ ⟨[(4, (.bool (decide (d764.At = ((lget w_.Parts (0 : Int)).At)))))], fit_mk (fun _ _ => rfl) (by kernel_rfl) (vs_cons (by kernel_rfl) vs_nil), ?_⟩)
                      exact ⟨X622, (decide (d764.At = ((lget w_.Parts (0 : Int)).At))), rfl, E756, hXo757, hS758, gv759, hp⟩
                    ·
                      replace hp := hp.2 h787
                      refine r_take 9 (.bool false) (RB.pre _ _) rfl (by kernel_rfl) (fun _ _ _ h => hQ.panic _ _ _ _ _ h) (.inl ⟨rfl, fun wq hq => (x_df (p := (d764.Part : ByteArray) = (lget w_.Parts (0 : Int)).Word) (x_streq (by kernel_rfl) (by kernel_rfl)) h787)⟩) ?_
                      refine r_take 10 (.bool false) (RB.pre _ _) rfl (by kernel_rfl) (fun _ _ _ h => hQ.panic _ _ _ _ _ h) (.inl ⟨rfl, fun wq hq => (by kernel_rfl)⟩) ?_
                      refine r_take 11 undef (RB.pre _ _) rfl (by kernel_rfl) (fun _ _ _ h => hQ.panic _ _ _ _ _ h) (.inr ⟨by kernel_rfl, rfl⟩) ?_
                      refine r_take 12 undef (RB.pre _ _) rfl (by kernel_rfl) (fun _ _ _ h => hQ.panic _ _ _ _ _ h) (.inr ⟨by kernel_rfl, rfl⟩) ?_
                      refine r_take 13 undef (RB.pre _ _) rfl (by kernel_rfl) (fun _ _ _ h => hQ.panic _ _ _ _ _ h) (.inr ⟨by kernel_rfl, rfl⟩) ?_
                      refine r_take 14 undef (RB.pre _ _) rfl (by kernel_rfl) (fun _ _ _ h => hQ.panic _ _ _ _ _ h) (.inr ⟨by kernel_rfl, rfl⟩) ?_
                      refine r_take 15 undef (RB.pre _ _) rfl (by kernel_rfl) (fun _ _ _ h => hQ.panic _ _ _ _ _ h) (.inr ⟨by kernel_rfl, rfl⟩) ?_
                      refine r_take 16 undef (RB.pre _ _) rfl (by kernel_rfl) (fun _ _ _ h => hQ.panic _ _ _ _ _ h) (.inr ⟨by kernel_rfl, rfl⟩) ?_
                      refine r_take 17 undef (RB.pre _ _) rfl (by kernel_rfl) (fun _ _ _ h => hQ.panic _ _ _ _ _ h) (.inr ⟨by kernel_rfl, rfl⟩) ?_
                      refine r_take 18 undef (RB.pre _ _) rfl (by kernel_rfl) (fun _ _ _ h => hQ.panic _ _ _ _ _ h) (.inr ⟨by kernel_rfl, rfl⟩) ?_
                      refine r_take 19 undef (RB.pre _ _) rfl (by kernel_rfl) (fun _ _ _ h => hQ.panic _ _ _ _ _ h) (.inr ⟨by kernel_rfl, rfl⟩) ?_
                      refine r_take 20 undef (RB.pre _ _) rfl (by kernel_rfl) (fun _ _ _ h => hQ.panic _ _ _ _ _ h) (.inr ⟨by kernel_rfl, rfl⟩) ?_
                      refine r_take 21 (.bool false) (RB.pre _ _) rfl (by kernel_rfl) (fun _ _ _ h => hQ.panic _ _ _ _ _ h) (.inl ⟨rfl, fun wq hq => (by kernel_rfl)⟩) ?_
                      refine r_ready [22] (by kernel_rfl) rfl (all_cons ⟨_, _, _, _, _, _, rfl, ?_⟩ all_nil)
                      refine o_pv (.bool false) rfl (by kernel_rfl) ?_
                      refine ⟨fun h => absurd h (by decide), ?_⟩
                      refine r_done (by kernel_rfl) ?_
                      refine then_normal (hJ739 _ _ _ ⟨[(4, (.bool false))], fit_mk (fun _ _ => rfl) (by kernel_rfl) (vs_cons (by kernel_rfl) vs_nil), ?_⟩)
                      exact ⟨X622, false, rfl, E756, hXo757, hS758, gv759, hp⟩
                  ·
                    rintro _ w736 g799 ⟨X737, s733, rfl, E741, hXo742, hS743, gv744, hv740⟩
                    replace hp := hk735 s733 hv740
                    refine then_normal (K678 _ _ _ _ ?_)
                    refine wp_ret ?_
                    refine end_ret hQ (.bool s733) (by kernel_rfl) ?_
                    exact ⟨s733, hp, E741, rfl⟩

def rectolaw11_Edits_p (a : (List S_diff_Edit)) (b : (List S_rectoref11_Edit)) (Q : Bool → Prop) : Prop :=
  ((a.length ≤ 9223372036854775807) → ((b.length ≤ 9223372036854775807) → (((¬ ((a.length : Int) = (b.length : Int))) → Q false) ∧ (((a.length : Int) = (b.length : Int)) → (∃ (I152 : Int → Prop) (m153 : Int → Nat), (I152 (0 : Int)) ∧ (∀ (i14 : Int), (I152 i14) → (inR .i64 i14) → (((i14 < (a.length : Int)) → (∃ k229 : Bool → Prop, (∀ (s228 : Bool), k229 s228 → (((s228 = true) → Q false) ∧ ((s228 = false) → ((inR .i64 (i14 + (1 : Int))) ∧ ((I152 (i14 + (1 : Int))) ∧ m153 (i14 + (1 : Int)) < m153 i14))))) ∧ ((inL a i14) ∧ ((inR .i64 ((lget a i14).Op)) → ((((lget a i14).Line).size ≤ maxLen) → ((inL b i14) ∧ ((inR .i64 ((lget b i14).Op)) → ((((lget b i14).Line).size ≤ maxLen) → (((((lget a i14).Op) = ((lget b i14).Op)) → ((inL a i14) ∧ ((inR .i64 ((lget a i14).Op)) → ((((lget a i14).Line).size ≤ maxLen) → ((inL b i14) ∧ ((inR .i64 ((lget b i14).Op)) → ((((lget b i14).Line).size ≤ maxLen) → (k229 (!decide (((lget a i14).Line : ByteArray) = (lget b i14).Line)))))))))) ∧ ((¬ (((lget a i14).Op) = ((lget b i14).Op))) → (k229 true))))))))))) ∧ ((¬ (i14 < (a.length : Int))) → Q true))))))))
set_option maxRecDepth 20000 in
set_option maxHeartbeats 4000000 in
theorem rectolaw11_Edits_w {X : List Nat} {w : World} {a : (List S_diff_Edit)} {b : (List S_rectoref11_Edit)} {aa1 : Option Addr} {ca2 : Nat} {ab4 : Option Addr} {cb5 : Nat} {Q : Bool → Prop} (hX0 : Old X w) (ha3 : Sl r_diff_Edit X w aa1 ca2 a) (hb6 : Sl r_rectoref11_Edit X w ab4 cb5 b) (hp : rectolaw11_Edits_p a b Q) :
    Calls Tryd.prog 42 #[(.slice aa1 a.length ca2), (.slice ab4 b.length cb5)] w (Ret fun v w' => ∃ (r0 : Bool), Q r0 ∧ Evo [] w w' ∧ v = (.bool r0)) := by
  have hXo := hX0
  have E0 : Evo [] w w := RB.refl _ _ _
  have hS : Sub X X := Sub.refl _
  unfold rectolaw11_Edits_p at hp
  refine enter_ Tryd.func42 rfl 41 [(0, (.slice aa1 a.length ca2)), (1, (.slice ab4 b.length cb5))] (by kernel_rfl) (fun Qe hQ => ?_)
  replace hp := hp (Sl.len ha3)
  replace hp := hp (Sl.len hb6)
  refine seq_ (fun _ K7 => ?_)
  refine reg_ ?_
  refine sq (o_pv (.bool false) rfl (by kernel_rfl) ?_)
  refine nil_ ?_
  refine then_normal (K7 _ _ _ _ ?_)
  refine seq_ (fun _ K8 => ?_)
  refine seq_ (fun _ K9 => ?_)
  refine reg_ ?_
  refine sq (o_pv (.slice aa1 a.length ca2) rfl (by kernel_rfl) ?_)
  refine sq (o_pv (.int .i64 (a.length : Int)) rfl (by kernel_rfl) ?_)
  refine sq (o_pv (.slice ab4 b.length cb5) rfl (by kernel_rfl) ?_)
  refine sq (o_pv (.int .i64 (b.length : Int)) rfl (by kernel_rfl) ?_)
  refine sq (o_pv (.bool (!decide ((a.length : Int) = (b.length : Int)))) rfl (by kernel_rfl) ?_)
  refine nil_ ?_
  refine then_normal (K9 _ _ _ _ ?_)
  refine cond_nd ((a.length : Int) = (b.length : Int)) (by kernel_rfl) (fun h10 => ?_) (fun h10 => ?_)
  ·
    replace hp := hp.1 h10
    refine seq_ (fun _ K11 => ?_)
    refine reg_ ?_
    refine sq (o_pv (.bool false) rfl (by kernel_rfl) ?_)
    refine nil_ ?_
    refine then_normal (K11 _ _ _ _ ?_)
    refine wp_ret ?_
    refine then_ret ?_
    refine end_ret hQ (.bool false) (by kernel_rfl) ?_
    exact ⟨false, hp, E0, rfl⟩
  ·
    replace hp := hp.2 h10
    refine wp_skip ?_
    refine then_normal (K8 _ _ _ _ ?_)
    refine seq_ (fun _ K12 => ?_)
    refine seq_ (fun _ K13 => ?_)
    refine reg_ ?_
    refine sq (o_pv (.int .i64 (0 : Int)) rfl (by kernel_rfl) ?_)
    refine nil_ ?_
    refine then_normal (K13 _ _ _ _ ?_)
    refine wp_block ?_
    obtain ⟨I152, m153, hI154, hp⟩ := hp
    refine loop_ 2199023253552 (fun kq lq w156 => ∃ (X157 : List Nat) (i14 : Int), (lq = [(5, (.int .i64 i14))]) ∧ (kq = m153 i14) ∧ (Evo [] w w156) ∧ (Old X157 w156) ∧ (Sub X X157) ∧ (Sl r_diff_Edit X157 w156 aa1 ca2 a) ∧ (Sl r_rectoref11_Edit X157 w156 ab4 cb5 b) ∧ (inR .i64 i14) ∧ (I152 i14)) (m153 (0 : Int)) [(5, (.int .i64 (0 : Int)))] (vs_cons (by kernel_rfl) vs_nil) ⟨X, (0 : Int), rfl, rfl, E0, hXo, hS, ha3, hb6, (by decide : inR .i64 (0 : Int)), hI154⟩ ?_
    rintro _ _ w156 g159 ⟨X157, i14, rfl, rfl, E162, hXo163, hS164, ha165, hb166, ri15, hI155⟩ Kl160 hA161
    replace hp := hp i14 hI155 ri15
    refine seq_ (fun _ K167 => ?_)
    refine seq_ (fun _ K168 => ?_)
    refine reg_ ?_
    refine sq (o_pv (.int .i64 i14) rfl (by kernel_rfl) ?_)
    refine sq (o_pv (.slice aa1 a.length ca2) rfl (by kernel_rfl) ?_)
    refine sq (o_pv (.int .i64 (a.length : Int)) rfl (by kernel_rfl) ?_)
    refine sq (o_pv (.bool (decide (i14 < (a.length : Int)))) rfl (by kernel_rfl) ?_)
    refine nil_ ?_
    refine then_normal (K168 _ _ _ _ ?_)
    refine cond_d (i14 < (a.length : Int)) (by kernel_rfl) (fun h169 => ?_) (fun h169 => ?_)
    ·
      replace hp := hp.1 h169
      refine wp_skip ?_
      refine then_normal (K167 _ _ _ _ ?_)
      refine seq_ (fun _ K170 => ?_)
      refine wp_block ?_
      refine seq_ (fun _ K171 => ?_)
      obtain ⟨k229, hk230, hp⟩ := hp
      refine ground_ ?_
      refine join_ 2199023124480 (fun lq w231 => ∃ (X232 : List Nat) (s228 : Bool), (lq = [(40, (.bool s228))]) ∧ (Evo [] w w231) ∧ (Old X232 w231) ∧ (Sub X X232) ∧ (Sl r_diff_Edit X232 w231 aa1 ca2 a) ∧ (Sl r_rectoref11_Edit X232 w231 ab4 cb5 b) ∧ (k229 s228)) (fun Kj233 hJ234 => ?_) ?_
      ·
        refine reg_drawn (RB w156.heap.size []) 24 (by kernel_rfl) (fun w241 hd242 => ?_)
        have e243 := Evo.of_drew hd242
        have z244 : w241.heap.size = w156.heap.size := by rw [hd242]
        clear hd242
        have s246 := Step.of0 X157 e243
        have er245 := RB.refl w156.heap.size [] w241
        have E247 := (Evo.then0 E162 (Step.evo s246))
        have hXo248 := (Old.step hXo163 s246)
        have hS249 := (Sub.trans hS164 (Step.up s246))
        have ha250 := (Sl.step ha165 s246)
        have hb251 := (Sl.step hb166 s246)
        refine r_take 0 (.slice aa1 a.length ca2) (RB.pre _ _) rfl (by kernel_rfl) (fun _ _ _ h => hQ.panic _ _ _ _ _ h) (.inl ⟨rfl, fun wq hq => (by kernel_rfl)⟩) ?_
        refine r_take 1 (.int .i64 i14) (RB.pre _ _) rfl (by kernel_rfl) (fun _ _ _ h => hQ.panic _ _ _ _ _ h) (.inl ⟨rfl, fun wq hq => (by kernel_rfl)⟩) ?_
        obtain ⟨h252, hp⟩ := hp
        obtain ⟨b253, o254, cs255, ha256, nx257, lt258, ok259, hc260⟩ := Sl.atI ha250 i14 h252
        obtain ⟨rfl, reOp261, zeLine262⟩ := r_diff_Edit_open ok259
        replace hp := hp reOp261
        replace hp := hp zeLine262
        refine r_take 2 (.pointer (some ⟨b253, o254 + i14.toNat * 2, none⟩)) (RB.pre _ _) rfl (by kernel_rfl) (fun _ _ _ h => hQ.panic _ _ _ _ _ h) (.inl ⟨rfl, fun wq hq => (x_ixA (m := a.length) (c := ca2) (k := .i64) (i := i14) Tryd.underlying33 Tryd.sizeOf100 (by rw [← ha256]; kernel_rfl) (by kernel_rfl) h252)⟩) ?_
        refine r_take 3 (.pointer (some ⟨b253, o254 + i14.toNat * 2, none⟩)) (RB.pre _ _) rfl (by kernel_rfl) (fun _ _ _ h => hQ.panic _ _ _ _ _ h) (.inl ⟨rfl, fun wq hq => (by kernel_rfl)⟩) ?_
        refine r_take 4 (.int .i64 ((lget a i14).Op)) (RB.pre _ _) rfl (by kernel_rfl) (fun _ _ _ h => hQ.panic _ _ _ _ _ h) (.inl ⟨rfl, fun wq hq => (x_load1 (by kernel_rfl) Tryd.isAgg3 ((CellsAt.rb hc260 (RB.trans er245 hq) (Nat.lt_of_lt_of_eq lt258 z244) (fun h => by cases h)) 0 _ rfl))⟩) ?_
        refine r_take 5 (.slice ab4 b.length cb5) (RB.pre _ _) rfl (by kernel_rfl) (fun _ _ _ h => hQ.panic _ _ _ _ _ h) (.inl ⟨rfl, fun wq hq => (by kernel_rfl)⟩) ?_
        refine r_take 6 (.int .i64 i14) (RB.pre _ _) rfl (by kernel_rfl) (fun _ _ _ h => hQ.panic _ _ _ _ _ h) (.inl ⟨rfl, fun wq hq => (by kernel_rfl)⟩) ?_
        obtain ⟨h263, hp⟩ := hp
        obtain ⟨b264, o265, cs266, ha267, nx268, lt269, ok270, hc271⟩ := Sl.atI hb251 i14 h263
        obtain ⟨rfl, reOp272, zeLine273⟩ := r_rectoref11_Edit_open ok270
        replace hp := hp reOp272
        replace hp := hp zeLine273
        refine r_take 7 (.pointer (some ⟨b264, o265 + i14.toNat * 2, none⟩)) (RB.pre _ _) rfl (by kernel_rfl) (fun _ _ _ h => hQ.panic _ _ _ _ _ h) (.inl ⟨rfl, fun wq hq => (x_ixA (m := b.length) (c := cb5) (k := .i64) (i := i14) Tryd.underlying25 Tryd.sizeOf105 (by rw [← ha267]; kernel_rfl) (by kernel_rfl) h263)⟩) ?_
        refine r_take 8 (.pointer (some ⟨b264, o265 + i14.toNat * 2, none⟩)) (RB.pre _ _) rfl (by kernel_rfl) (fun _ _ _ h => hQ.panic _ _ _ _ _ h) (.inl ⟨rfl, fun wq hq => (by kernel_rfl)⟩) ?_
        refine r_take 9 (.int .i64 ((lget b i14).Op)) (RB.pre _ _) rfl (by kernel_rfl) (fun _ _ _ h => hQ.panic _ _ _ _ _ h) (.inl ⟨rfl, fun wq hq => (x_load1 (by kernel_rfl) Tryd.isAgg3 ((CellsAt.rb hc271 (RB.trans er245 hq) (Nat.lt_of_lt_of_eq lt269 z244) (fun h => by cases h)) 0 _ rfl))⟩) ?_
        by_cases h274 : ((lget a i14).Op) = ((lget b i14).Op)
        ·
          replace hp := hp.1 h274
          refine r_take 10 (.bool false) (RB.pre _ _) rfl (by kernel_rfl) (fun _ _ _ h => hQ.panic _ _ _ _ _ h) (.inl ⟨rfl, fun wq hq => (x_ndf (p := ((lget a i14).Op) = ((lget b i14).Op)) (by kernel_rfl) h274)⟩) ?_
          refine r_take 11 (.bool false) (RB.pre _ _) rfl (by kernel_rfl) (fun _ _ _ h => hQ.panic _ _ _ _ _ h) (.inl ⟨rfl, fun wq hq => (by kernel_rfl)⟩) ?_
          refine r_take 12 (.slice aa1 a.length ca2) (RB.pre _ _) rfl (by kernel_rfl) (fun _ _ _ h => hQ.panic _ _ _ _ _ h) (.inl ⟨(by kernel_rfl), fun wq hq => (by kernel_rfl)⟩) ?_
          refine r_take 13 (.int .i64 i14) (RB.pre _ _) rfl (by kernel_rfl) (fun _ _ _ h => hQ.panic _ _ _ _ _ h) (.inl ⟨(by kernel_rfl), fun wq hq => (by kernel_rfl)⟩) ?_
          obtain ⟨h275, hp⟩ := hp
          obtain ⟨b276, o277, cs278, ha279, nx280, lt281, ok282, hc283⟩ := Sl.atI ha250 i14 h275
          obtain ⟨rfl, reOp284, zeLine285⟩ := r_diff_Edit_open ok282
          replace hp := hp reOp284
          replace hp := hp zeLine285
          refine r_take 14 (.pointer (some ⟨b276, o277 + i14.toNat * 2, none⟩)) (RB.pre _ _) rfl (by kernel_rfl) (fun _ _ _ h => hQ.panic _ _ _ _ _ h) (.inl ⟨(by kernel_rfl), fun wq hq => (x_ixA (m := a.length) (c := ca2) (k := .i64) (i := i14) Tryd.underlying33 Tryd.sizeOf100 (by rw [← ha279]; kernel_rfl) (by kernel_rfl) h275)⟩) ?_
          refine r_take 15 (.pointer (some ⟨b276, o277 + i14.toNat * 2 + 1, none⟩)) (RB.pre _ _) rfl (by kernel_rfl) (fun _ _ _ h => hQ.panic _ _ _ _ _ h) (.inl ⟨(by kernel_rfl), fun wq hq => (by kernel_rfl)⟩) ?_
          refine r_take 16 (.string ((lget a i14).Line)) (RB.pre _ _) rfl (by kernel_rfl) (fun _ _ _ h => hQ.panic _ _ _ _ _ h) (.inl ⟨(by kernel_rfl), fun wq hq => (x_load1 (by kernel_rfl) Tryd.isAgg9 ((CellsAt.rb hc283 (RB.trans er245 hq) (Nat.lt_of_lt_of_eq lt281 z244) (fun h => by cases h)) 1 _ rfl))⟩) ?_
          refine r_take 17 (.slice ab4 b.length cb5) (RB.pre _ _) rfl (by kernel_rfl) (fun _ _ _ h => hQ.panic _ _ _ _ _ h) (.inl ⟨(by kernel_rfl), fun wq hq => (by kernel_rfl)⟩) ?_
          refine r_take 18 (.int .i64 i14) (RB.pre _ _) rfl (by kernel_rfl) (fun _ _ _ h => hQ.panic _ _ _ _ _ h) (.inl ⟨(by kernel_rfl), fun wq hq => (by kernel_rfl)⟩) ?_
          obtain ⟨h286, hp⟩ := hp
          obtain ⟨b287, o288, cs289, ha290, nx291, lt292, ok293, hc294⟩ := Sl.atI hb251 i14 h286
          obtain ⟨rfl, reOp295, zeLine296⟩ := r_rectoref11_Edit_open ok293
          replace hp := hp reOp295
          replace hp := hp zeLine296
          refine r_take 19 (.pointer (some ⟨b287, o288 + i14.toNat * 2, none⟩)) (RB.pre _ _) rfl (by kernel_rfl) (fun _ _ _ h => hQ.panic _ _ _ _ _ h) (.inl ⟨(by kernel_rfl), fun wq hq => (x_ixA (m := b.length) (c := cb5) (k := .i64) (i := i14) Tryd.underlying25 Tryd.sizeOf105 (by rw [← ha290]; kernel_rfl) (by kernel_rfl) h286)⟩) ?_
          refine r_take 20 (.pointer (some ⟨b287, o288 + i14.toNat * 2 + 1, none⟩)) (RB.pre _ _) rfl (by kernel_rfl) (fun _ _ _ h => hQ.panic _ _ _ _ _ h) (.inl ⟨(by kernel_rfl), fun wq hq => (by kernel_rfl)⟩) ?_
          refine r_take 21 (.string ((lget b i14).Line)) (RB.pre _ _) rfl (by kernel_rfl) (fun _ _ _ h => hQ.panic _ _ _ _ _ h) (.inl ⟨(by kernel_rfl), fun wq hq => (x_load1 (by kernel_rfl) Tryd.isAgg9 ((CellsAt.rb hc294 (RB.trans er245 hq) (Nat.lt_of_lt_of_eq lt292 z244) (fun h => by cases h)) 1 _ rfl))⟩) ?_
          refine r_take 22 (.bool (!decide (((lget a i14).Line : ByteArray) = (lget b i14).Line))) (RB.pre _ _) rfl (by kernel_rfl) (fun _ _ _ h => hQ.panic _ _ _ _ _ h) (.inl ⟨(by kernel_rfl), fun wq hq => (x_strne (by kernel_rfl) (by kernel_rfl))⟩) ?_
          refine r_take 23 (.bool (!decide (((lget a i14).Line : ByteArray) = (lget b i14).Line))) (RB.pre _ _) rfl (by kernel_rfl) (fun _ _ _ h => hQ.panic _ _ _ _ _ h) (.inl ⟨rfl, fun wq hq => (by kernel_rfl)⟩) ?_
          refine r_done (by kernel_rfl) ?_
          refine then_normal (hJ234 _ _ _ ⟨[(40, (.bool (!decide (((lget a i14).Line : ByteArray) = (lget b i14).Line))))], fit_mk (fun _ _ => rfl) (by kernel_rfl) (vs_cons (by kernel_rfl) vs_nil), ?_⟩)
          exact ⟨X157, (!decide (((lget a i14).Line : ByteArray) = (lget b i14).Line)), rfl, E247, hXo248, hS249, ha250, hb251, hp⟩
        ·
          replace hp := hp.2 h274
          refine r_take 10 (.bool true) (RB.pre _ _) rfl (by kernel_rfl) (fun _ _ _ h => hQ.panic _ _ _ _ _ h) (.inl ⟨rfl, fun wq hq => (x_ndt (p := ((lget a i14).Op) = ((lget b i14).Op)) (by kernel_rfl) h274)⟩) ?_
          refine r_take 11 (.bool true) (RB.pre _ _) rfl (by kernel_rfl) (fun _ _ _ h => hQ.panic _ _ _ _ _ h) (.inl ⟨rfl, fun wq hq => (by kernel_rfl)⟩) ?_
          refine r_take 12 undef (RB.pre _ _) rfl (by kernel_rfl) (fun _ _ _ h => hQ.panic _ _ _ _ _ h) (.inr ⟨by kernel_rfl, rfl⟩) ?_
          refine r_take 13 undef (RB.pre _ _) rfl (by kernel_rfl) (fun _ _ _ h => hQ.panic _ _ _ _ _ h) (.inr ⟨by kernel_rfl, rfl⟩) ?_
          refine r_take 14 undef (RB.pre _ _) rfl (by kernel_rfl) (fun _ _ _ h => hQ.panic _ _ _ _ _ h) (.inr ⟨by kernel_rfl, rfl⟩) ?_
          refine r_take 15 undef (RB.pre _ _) rfl (by kernel_rfl) (fun _ _ _ h => hQ.panic _ _ _ _ _ h) (.inr ⟨by kernel_rfl, rfl⟩) ?_
          refine r_take 16 undef (RB.pre _ _) rfl (by kernel_rfl) (fun _ _ _ h => hQ.panic _ _ _ _ _ h) (.inr ⟨by kernel_rfl, rfl⟩) ?_
          refine r_take 17 undef (RB.pre _ _) rfl (by kernel_rfl) (fun _ _ _ h => hQ.panic _ _ _ _ _ h) (.inr ⟨by kernel_rfl, rfl⟩) ?_
          refine r_take 18 undef (RB.pre _ _) rfl (by kernel_rfl) (fun _ _ _ h => hQ.panic _ _ _ _ _ h) (.inr ⟨by kernel_rfl, rfl⟩) ?_
          refine r_take 19 undef (RB.pre _ _) rfl (by kernel_rfl) (fun _ _ _ h => hQ.panic _ _ _ _ _ h) (.inr ⟨by kernel_rfl, rfl⟩) ?_
          refine r_take 20 undef (RB.pre _ _) rfl (by kernel_rfl) (fun _ _ _ h => hQ.panic _ _ _ _ _ h) (.inr ⟨by kernel_rfl, rfl⟩) ?_
          refine r_take 21 undef (RB.pre _ _) rfl (by kernel_rfl) (fun _ _ _ h => hQ.panic _ _ _ _ _ h) (.inr ⟨by kernel_rfl, rfl⟩) ?_
          refine r_take 22 undef (RB.pre _ _) rfl (by kernel_rfl) (fun _ _ _ h => hQ.panic _ _ _ _ _ h) (.inr ⟨by kernel_rfl, rfl⟩) ?_
          refine r_take 23 (.bool true) (RB.pre _ _) rfl (by kernel_rfl) (fun _ _ _ h => hQ.panic _ _ _ _ _ h) (.inl ⟨rfl, fun wq hq => (by kernel_rfl)⟩) ?_
          refine r_done (by kernel_rfl) ?_
          refine then_normal (hJ234 _ _ _ ⟨[(40, (.bool true))], fit_mk (fun _ _ => rfl) (by kernel_rfl) (vs_cons (by kernel_rfl) vs_nil), ?_⟩)
          exact ⟨X157, true, rfl, E247, hXo248, hS249, ha250, hb251, hp⟩
      ·
        rintro _ w231 g297 ⟨X232, s228, rfl, E236, hXo237, hS238, ha239, hb240, hv235⟩
        replace hp := hk230 s228 hv235
        refine then_normal (K171 _ _ _ _ ?_)
        refine cond_b s228 (by kernel_rfl) (fun h298 => ?_) (fun h298 => ?_)
        ·
          replace hp := hp.1 h298
          refine seq_ (fun _ K299 => ?_)
          refine reg_ ?_
          refine sq (o_pv (.bool false) rfl (by kernel_rfl) ?_)
          refine nil_ ?_
          refine then_normal (K299 _ _ _ _ ?_)
          refine wp_ret ?_
          refine blk_ret ?_
          refine then_ret ?_
          refine then_ret ?_
          refine blk_ret ?_
          refine then_ret ?_
          refine end_ret hQ (.bool false) (by kernel_rfl) ?_
          exact ⟨false, hp, E236, rfl⟩
        ·
          replace hp := hp.2 h298
          refine wp_skip ?_
          refine blk_normal ?_
          refine then_normal (K170 _ _ _ _ ?_)
          refine reg_ ?_
          refine sq (o_pv (.int .i64 i14) rfl (by kernel_rfl) ?_)
          obtain ⟨h300, hp⟩ := hp
          refine sq (o_pv (.int .i64 (i14 + (1 : Int))) rfl (x_add2 (k := .i64) (a := i14) (b := (1 : Int)) (i14 + (1 : Int)) (by kernel_rfl) (by kernel_rfl) (wrap_inR h300)) ?_)
          refine sq (o_pv (.int .i64 (i14 + (1 : Int))) rfl (by kernel_rfl) ?_)
          refine nil_ ?_
          refine then_normal (hA161 _ _ _ ⟨_, [(5, (.int .i64 (i14 + (1 : Int))))], hp.2, fit_mk (AgB.nest (AgB.look (AgB.mix _ _ _) (by kernel_rfl)) (by kernel_rfl) (by kernel_rfl)) (by kernel_rfl) (vs_cons (by kernel_rfl) vs_nil), ?_⟩)
          exact ⟨X232, (i14 + (1 : Int)), rfl, rfl, E236, hXo237, hS238, ha239, hb240, h300, hp.1⟩
    ·
      replace hp := hp.2 h169
      refine wp_exit ?_
      refine then_exit ?_
      refine then_exit ?_
      refine blk_exit ?_
      refine then_normal (K12 _ _ _ _ ?_)
      refine seq_ (fun _ K301 => ?_)
      refine reg_ ?_
      refine sq (o_pv (.bool true) rfl (by kernel_rfl) ?_)
      refine nil_ ?_
      refine then_normal (K301 _ _ _ _ ?_)
      refine wp_ret ?_
      refine end_ret hQ (.bool true) (by kernel_rfl) ?_
      exact ⟨true, hp, E162, rfl⟩

def rectoref11_Matches_p (l : (List S_rectoref11_Edit)) (Q : (List S_rectoref11_Match) → Prop) : Prop :=
  ((l.length ≤ 9223372036854775807) → (∃ (I528 : (List S_rectoref11_Match) → Int → Int → Int → Int → Prop) (m529 : (List S_rectoref11_Match) → Int → Int → Int → Int → Nat), (I528 ([] : List S_rectoref11_Match) (0 : Int) (0 : Int) (0 : Int) (0 : Int)) ∧ (∀ (out180 : (List S_rectoref11_Match)) (i185 : Int) (j187 : Int) (last189 : Int) (k191 : Int), (I528 out180 i185 j187 last189 k191) → (out180.length ≤ 9223372036854775807) → (inR .i64 i185) → (inR .i64 j187) → (inR .i64 last189) → (inR .i64 k191) → (((k191 < (l.length : Int)) → ((inL l k191) ∧ ((inR .i64 ((lget l k191).Op)) → ((((lget l k191).Line).size ≤ maxLen) → (∃ k704 : (List S_rectoref11_Match) → Int → Int → Prop, (∀ (out695 : (List S_rectoref11_Match)) (i700 : Int) (j702 : Int), k704 out695 i700 j702 → (out695.length ≤ 9223372036854775807) → (inR .i64 i700) → (inR .i64 j702) → ((inL l k191) ∧ ((inR .i64 ((lget l k191).Op)) → ((((lget l k191).Line).size ≤ maxLen) → ((inR .i64 (k191 + (1 : Int))) ∧ ((I528 out695 i700 j702 ((lget l k191).Op) (k191 + (1 : Int))) ∧ m529 out695 i700 j702 ((lget l k191).Op) (k191 + (1 : Int)) < m529 out180 i185 j187 last189 k191)))))) ∧ (((((lget l k191).Op) = (1 : Int)) → (∃ k773 : (List S_rectoref11_Match) → Prop, (∀ (out768 : (List S_rectoref11_Match)), k773 out768 → (out768.length ≤ 9223372036854775807) → ((inR .i64 (i185 + (1 : Int))) ∧ ((inR .i64 (j187 + (1 : Int))) ∧ (k704 out768 (i185 + (1 : Int)) (j187 + (1 : Int)))))) ∧ (((last189 = (1 : Int)) → ((inR .i64 ((out180.length : Int) - (1 : Int))) ∧ ((inL out180 ((out180.length : Int) - (1 : Int))) ∧ ((inR .i64 ((lget out180 ((out180.length : Int) - (1 : Int))).A)) → ((inR .i64 ((lget out180 ((out180.length : Int) - (1 : Int))).B)) → ((inR .i64 ((lget out180 ((out180.length : Int) - (1 : Int))).N)) → ((inR .i64 (((lget out180 ((out180.length : Int) - (1 : Int))).N) + (1 : Int))) ∧ ((inL out180 ((out180.length : Int) - (1 : Int))) ∧ ((inR .i64 ((lget out180 ((out180.length : Int) - (1 : Int))).A)) → ((inR .i64 ((lget out180 ((out180.length : Int) - (1 : Int))).B)) → ((inR .i64 ((lget out180 ((out180.length : Int) - (1 : Int))).N)) → (∀ l814 : List S_rectoref11_Match, l814 = (lset out180 ((out180.length : Int) - (1 : Int)) (S_rectoref11_Match.mk ((lget out180 ((out180.length : Int) - (1 : Int))).A) ((lget out180 ((out180.length : Int) - (1 : Int))).B) (((lget out180 ((out180.length : Int) - (1 : Int))).N) + (1 : Int)))) → (k773 l814))))))))))))) ∧ ((¬ (last189 = (1 : Int))) → (((out180.length + ([(S_rectoref11_Match.mk i185 j187 (1 : Int))]).length) * 24 ≤ 140737488355328) ∧ (k773 (out180 ++ ([(S_rectoref11_Match.mk i185 j187 (1 : Int))])))))))) ∧ ((¬ (((lget l k191).Op) = (1 : Int))) → (((((lget l k191).Op) = (2 : Int)) → ((inR .i64 (i185 + (1 : Int))) ∧ (k704 out180 (i185 + (1 : Int)) j187))) ∧ ((¬ (((lget l k191).Op) = (2 : Int))) → (((((lget l k191).Op) = (3 : Int)) → ((inR .i64 (j187 + (1 : Int))) ∧ (k704 out180 i185 (j187 + (1 : Int))))) ∧ ((¬ (((lget l k191).Op) = (3 : Int))) → (k704 out180 i185 j187)))))))))))) ∧ ((¬ (k191 < (l.length : Int))) → Q out180)))))
set_option maxRecDepth 20000 in
set_option maxHeartbeats 4000000 in
theorem rectoref11_Matches_w {X : List Nat} {w : World} {l : (List S_rectoref11_Edit)} {al1 : Option Addr} {cl2 : Nat} {Q : (List S_rectoref11_Match) → Prop} (hX0 : Old X w) (hl3 : Sl r_rectoref11_Edit X w al1 cl2 l) (hp : rectoref11_Matches_p l Q) :
    Calls Tryd.prog 43 #[(.slice al1 l.length cl2)] w (Ret fun v w' => ∃ (r0 : (List S_rectoref11_Match)), Q r0 ∧ Evo [] w w' ∧ ∃ (aq01 : Option Addr) (cq02 : Nat), v = (.slice aq01 r0.length cq02) ∧ Sl r_rectoref11_Match X w' aq01 cq02 r0) := by
  have hXo := hX0
  have E0 : Evo [] w w := RB.refl _ _ _
  have hS : Sub X X := Sub.refl _
  unfold rectoref11_Matches_p at hp
  refine enter_ Tryd.func43 rfl 57 [(0, (.slice al1 l.length cl2))] (by kernel_rfl) (fun Qe hQ => ?_)
  replace hp := hp (Sl.len hl3)
  refine seq_ (fun _ K4 => ?_)
  refine reg_ ?_
  refine sq (o_pv (.slice none 0 0) rfl (by kernel_rfl) ?_)
  refine nil_ ?_
  refine then_normal (K4 _ _ _ _ ?_)
  refine seq_ (fun _ K5 => ?_)
  refine reg_ ?_
  refine sq (o_pv (.slice none 0 0) rfl (by kernel_rfl) ?_)
  refine nil_ ?_
  refine then_normal (K5 _ _ _ _ ?_)
  refine seq_ (fun _ K6 => ?_)
  refine reg_ ?_
  refine sq (o_pv (.int .i64 (0 : Int)) rfl (by kernel_rfl) ?_)
  refine nil_ ?_
  refine then_normal (K6 _ _ _ _ ?_)
  refine seq_ (fun _ K7 => ?_)
  refine reg_ ?_
  refine sq (o_pv (.int .i64 (0 : Int)) rfl (by kernel_rfl) ?_)
  refine nil_ ?_
  refine then_normal (K7 _ _ _ _ ?_)
  refine seq_ (fun _ K8 => ?_)
  refine reg_ ?_
  refine sq (o_pv (.int .i64 (0 : Int)) rfl (by kernel_rfl) ?_)
  refine nil_ ?_
  refine then_normal (K8 _ _ _ _ ?_)
  refine seq_ (fun _ K9 => ?_)
  refine seq_ (fun _ K10 => ?_)
  refine reg_ ?_
  refine sq (o_pv (.int .i64 (0 : Int)) rfl (by kernel_rfl) ?_)
  refine nil_ ?_
  refine then_normal (K10 _ _ _ _ ?_)
  refine wp_block ?_
  obtain ⟨I528, m529, hI530, hp⟩ := hp
  refine loop_ 72057594037927928 (fun kq lq w532 => ∃ (X533 : List Nat) (out180 : (List S_rectoref11_Match)) (i185 : Int) (j187 : Int) (last189 : Int) (k191 : Int) (a181 : Option Addr) (n182 : Nat) (c183 : Nat), (lq = [(3, (.slice a181 n182 c183)), (4, (.int .i64 i185)), (5, (.int .i64 j187)), (6, (.int .i64 last189)), (7, (.int .i64 k191))]) ∧ (kq = m529 out180 i185 j187 last189 k191) ∧ (Evo [] w w532) ∧ (Old X533 w532) ∧ (Sub X X533) ∧ (Sl r_rectoref11_Edit X533 w532 al1 cl2 l) ∧ (OS r_rectoref11_Match ([]) w.heap.size X533 w532 86 a181 n182 c183 out180) ∧ (inR .i64 i185) ∧ (inR .i64 j187) ∧ (inR .i64 last189) ∧ (inR .i64 k191) ∧ (I528 out180 i185 j187 last189 k191)) (m529 ([] : List S_rectoref11_Match) (0 : Int) (0 : Int) (0 : Int) (0 : Int)) [(3, (.slice none 0 0)), (4, (.int .i64 (0 : Int))), (5, (.int .i64 (0 : Int))), (6, (.int .i64 (0 : Int))), (7, (.int .i64 (0 : Int)))] (vs_cons (by kernel_rfl) (vs_cons (by kernel_rfl) (vs_cons (by kernel_rfl) (vs_cons (by kernel_rfl) (vs_cons (by kernel_rfl) vs_nil))))) ⟨X, ([] : List S_rectoref11_Match), (0 : Int), (0 : Int), (0 : Int), (0 : Int), none, 0, 0, rfl, rfl, E0, hXo, hS, hl3, (OS.nil _ _ _ _), (by decide : inR .i64 (0 : Int)), (by decide : inR .i64 (0 : Int)), (by decide : inR .i64 (0 : Int)), (by decide : inR .i64 (0 : Int)), hI530⟩ ?_
  rintro _ _ w532 g535 ⟨X533, out180, i185, j187, last189, k191, a181, n182, c183, rfl, rfl, E538, hXo539, hS540, hl541, O184, ri186, rj188, rlast190, rk192, hI531⟩ Kl536 hA537
  replace hp := hp out180 i185 j187 last189 k191 hI531 (OS.len O184) ri186 rj188 rlast190 rk192
  refine seq_ (fun _ K542 => ?_)
  refine seq_ (fun _ K543 => ?_)
  refine reg_ ?_
  refine sq (o_pv (.int .i64 k191) rfl (by kernel_rfl) ?_)
  refine sq (o_pv (.slice al1 l.length cl2) rfl (by kernel_rfl) ?_)
  refine sq (o_pv (.int .i64 (l.length : Int)) rfl (by kernel_rfl) ?_)
  refine sq (o_pv (.bool (decide (k191 < (l.length : Int)))) rfl (by kernel_rfl) ?_)
  refine nil_ ?_
  refine then_normal (K543 _ _ _ _ ?_)
  refine cond_d (k191 < (l.length : Int)) (by kernel_rfl) (fun h544 => ?_) (fun h544 => ?_)
  ·
    replace hp := hp.1 h544
    refine wp_skip ?_
    refine then_normal (K542 _ _ _ _ ?_)
    refine seq_ (fun _ K545 => ?_)
    refine wp_block ?_
    refine seq_ (fun _ K546 => ?_)
    refine seq_ (fun _ K547 => ?_)
    refine reg_ ?_
    refine sq (o_pv (.slice al1 l.length cl2) rfl (by kernel_rfl) ?_)
    refine sq (o_pv (.int .i64 k191) rfl (by kernel_rfl) ?_)
    obtain ⟨h548, hp⟩ := hp
    obtain ⟨b549, o550, cs551, ha552, nx553, lt554, ok555, hc556⟩ := Sl.atI hl541 k191 h548
    obtain ⟨rfl, reOp557, zeLine558⟩ := r_rectoref11_Edit_open ok555
    replace hp := hp reOp557
    replace hp := hp zeLine558
    refine sq (o_pv (.pointer (some ⟨b549, o550 + k191.toNat * 2, none⟩)) rfl (x_ixA (m := l.length) (c := cl2) (k := .i64) (i := k191) Tryd.underlying25 Tryd.sizeOf105 (by rw [← ha552]; kernel_rfl) (by kernel_rfl) h548) ?_)
    refine sq (o_pv (.pointer (some ⟨b549, o550 + k191.toNat * 2, none⟩)) rfl (by kernel_rfl) ?_)
    refine sq (o_pv (.int .i64 ((lget l k191).Op)) rfl (x_load1 (by kernel_rfl) Tryd.isAgg3 (hc556 0 _ rfl)) ?_)
    refine nil_ ?_
    refine then_normal (K547 _ _ _ _ ?_)
    obtain ⟨k704, hk705, hp⟩ := hp
    refine ground_ ?_
    refine join_ 2251799813161016 (fun lq w706 => ∃ (X707 : List Nat) (out695 : (List S_rectoref11_Match)) (i700 : Int) (j702 : Int) (a696 : Option Addr) (n697 : Nat) (c698 : Nat), (lq = [(3, (.slice a696 n697 c698)), (4, (.int .i64 i700)), (5, (.int .i64 j702))]) ∧ (Evo [] w w706) ∧ (Old X707 w706) ∧ (Sub X X707) ∧ (Sl r_rectoref11_Edit X707 w706 al1 cl2 l) ∧ (OS r_rectoref11_Match ([]) w.heap.size X707 w706 86 a696 n697 c698 out695) ∧ (inR .i64 i700) ∧ (inR .i64 j702) ∧ (k704 out695 i700 j702)) (fun Kj708 hJ709 => ?_) ?_
    ·
      refine wp_block ?_
      refine seq_ (fun _ K715 => ?_)
      refine reg_ ?_
      refine sq (o_pv (.bool (decide (((lget l k191).Op) = (1 : Int)))) rfl (by kernel_rfl) ?_)
      refine sq (o_pv (.bool (decide (((lget l k191).Op) = (1 : Int)))) rfl (by kernel_rfl) ?_)
      refine nil_ ?_
      refine then_normal (K715 _ _ _ _ ?_)
      refine cond_d (((lget l k191).Op) = (1 : Int)) (by kernel_rfl) (fun h716 => ?_) (fun h716 => ?_)
      ·
        replace hp := hp.1 h716
        refine seq_ (fun _ K717 => ?_)
        refine seq_ (fun _ K718 => ?_)
        refine reg_ ?_
        refine sq (o_pv (.int .i64 last189) rfl (by kernel_rfl) ?_)
        refine sq (o_pv (.bool (decide (last189 = (1 : Int)))) rfl (by kernel_rfl) ?_)
        refine nil_ ?_
        refine then_normal (K718 _ _ _ _ ?_)
        obtain ⟨k773, hk774, hp⟩ := hp
        refine ground_ ?_
        refine join_ 549747425288 (fun lq w775 => ∃ (X776 : List Nat) (out768 : (List S_rectoref11_Match)) (a769 : Option Addr) (n770 : Nat) (c771 : Nat), (lq = [(3, (.slice a769 n770 c771))]) ∧ (Evo [] w w775) ∧ (Old X776 w775) ∧ (Sub X X776) ∧ (Sl r_rectoref11_Edit X776 w775 al1 cl2 l) ∧ (OS r_rectoref11_Match ([]) w.heap.size X776 w775 86 a769 n770 c771 out768) ∧ (k773 out768)) (fun Kj777 hJ778 => ?_) ?_
        ·
          refine cond_d (last189 = (1 : Int)) (by kernel_rfl) (fun h784 => ?_) (fun h784 => ?_)
          ·
            replace hp := hp.1 h784
            refine reg_ ?_
            refine sq (o_pv (.slice a181 n182 c183) rfl (by kernel_rfl) ?_)
            refine sq (o_pv (.slice a181 n182 c183) rfl (by kernel_rfl) ?_)
            refine sq (o_pv (.int .i64 (out180.length : Int)) rfl (by rw [← show n182 = out180.length from O184.1]; kernel_rfl) ?_)
            obtain ⟨h785, hp⟩ := hp
            refine sq (o_pv (.int .i64 ((out180.length : Int) - (1 : Int))) rfl (x_sub2 (k := .i64) (a := (out180.length : Int)) (b := (1 : Int)) ((out180.length : Int) - (1 : Int)) (by kernel_rfl) (by kernel_rfl) (wrap_inR h785)) ?_)
            obtain ⟨h786, hp⟩ := hp
            obtain ⟨b787, o788, cs789, ha790, nx791, lt792, ok793, hc794⟩ := Sl.atI (OS.rd O184) ((out180.length : Int) - (1 : Int)) h786
            obtain ⟨rfl, reA795, reB796, reN797⟩ := r_rectoref11_Match_open ok793
            replace hp := hp reA795
            replace hp := hp reB796
            replace hp := hp reN797
            refine sq (o_pv (.pointer (some ⟨b787, o788 + ((out180.length : Int) - (1 : Int)).toNat * 3, none⟩)) rfl (x_ixA (m := n182) (c := c183) (k := .i64) (i := (out180.length : Int) - (1 : Int)) Tryd.underlying80 Tryd.sizeOf86 (by rw [← ha790]; kernel_rfl) (by kernel_rfl) ⟨h786.1, by rw [O184.1]; exact h786.2⟩) ?_)
            refine sq (o_pv (.pointer (some ⟨b787, o788 + ((out180.length : Int) - (1 : Int)).toNat * 3 + 2, none⟩)) rfl (by kernel_rfl) ?_)
            refine sq (o_pv (.int .i64 ((lget out180 ((out180.length : Int) - (1 : Int))).N)) rfl (x_load1 (by kernel_rfl) Tryd.isAgg3 (hc794 2 _ rfl)) ?_)
            obtain ⟨h798, hp⟩ := hp
            refine sq (o_pv (.int .i64 (((lget out180 ((out180.length : Int) - (1 : Int))).N) + (1 : Int))) rfl (x_add2 (k := .i64) (a := (lget out180 ((out180.length : Int) - (1 : Int))).N) (b := (1 : Int)) (((lget out180 ((out180.length : Int) - (1 : Int))).N) + (1 : Int)) (by kernel_rfl) (by kernel_rfl) (wrap_inR h798)) ?_)
            obtain ⟨h799, hp⟩ := hp
            obtain ⟨b800, o801, cs802, ha803, nx804, lt805, ok806, hc807⟩ := Sl.atI (OS.rd O184) ((out180.length : Int) - (1 : Int)) h799
            obtain ⟨rfl, reA808, reB809, reN810⟩ := r_rectoref11_Match_open ok806
            replace hp := hp reA808
            replace hp := hp reB809
            replace hp := hp reN810
            refine sq (o_pv (.pointer (some ⟨b800, o801 + ((out180.length : Int) - (1 : Int)).toNat * 3, none⟩)) rfl (x_ixA (m := n182) (c := c183) (k := .i64) (i := (out180.length : Int) - (1 : Int)) Tryd.underlying80 Tryd.sizeOf86 (by rw [← ha803]; kernel_rfl) (by kernel_rfl) ⟨h799.1, by rw [O184.1]; exact h799.2⟩) ?_)
            refine sq (o_pv (.pointer (some ⟨b800, o801 + ((out180.length : Int) - (1 : Int)).toNat * 3 + 2, none⟩)) rfl (by kernel_rfl) ?_)
            refine sq (o_stP (R := r_rectoref11_Match) (o := o801) (v := (.int .i64 (((lget out180 ((out180.length : Int) - (1 : Int))).N) + (1 : Int)))) (cs := [(.int .i64 ((lget out180 ((out180.length : Int) - (1 : Int))).A)), (.int .i64 ((lget out180 ((out180.length : Int) - (1 : Int))).B)), (.int .i64 ((lget out180 ((out180.length : Int) - (1 : Int))).N))]) ((out180.length : Int) - (1 : Int)) 2 [(.int .i64 ((lget out180 ((out180.length : Int) - (1 : Int))).A)), (.int .i64 ((lget out180 ((out180.length : Int) - (1 : Int))).B)), (.int .i64 (((lget out180 ((out180.length : Int) - (1 : Int))).N) + (1 : Int)))] (S_rectoref11_Match.mk ((lget out180 ((out180.length : Int) - (1 : Int))).A) ((lget out180 ((out180.length : Int) - (1 : Int))).B) (((lget out180 ((out180.length : Int) - (1 : Int))).N) + (1 : Int))) rfl O184 ha803 h799 hc807 rfl (by kernel_rfl) (by kernel_rfl) Tryd.sizeOf3 rfl rfl rfl (fun _ => (r_rectoref11_Match_mk reA808 reB809 h798)) ?_)
            intro w811 s812 O813
            obtain ⟨l814, ql814⟩ : ∃ y, y = (lset out180 ((out180.length : Int) - (1 : Int)) (S_rectoref11_Match.mk ((lget out180 ((out180.length : Int) - (1 : Int))).A) ((lget out180 ((out180.length : Int) - (1 : Int))).B) (((lget out180 ((out180.length : Int) - (1 : Int))).N) + (1 : Int)))) := ⟨_, rfl⟩
            replace hp := hp l814 ql814
            rw [← ql814] at O813
            refine nil_ ?_
            have E815 := (Evo.thenW E538 (Step.evo s812) O184.2.2)
            have hXo816 := (Old.step hXo539 s812)
            have hS817 := (Sub.trans hS540 (Step.up s812))
            have hl818 := (Sl.step hl541 s812)
            refine then_normal (hJ778 _ _ _ ⟨[(3, (.slice a181 n182 c183))], fit_mk (fun _ _ => rfl) (by kernel_rfl) (vs_cons (by kernel_rfl) vs_nil), ?_⟩)
            exact ⟨X533, l814, a181, n182, c183, rfl, E815, hXo816, hS817, hl818, O813, hp⟩
          ·
            replace hp := hp.2 h784
            refine reg_ ?_
            refine sq (o_pv (.slice a181 n182 c183) rfl (by kernel_rfl) ?_)
            refine sq (o_pv (.int .i64 i185) rfl (by kernel_rfl) ?_)
            refine sq (o_pv (.int .i64 j187) rfl (by kernel_rfl) ?_)
            refine sq (o_pv (.agg #[(.int .i64 i185), (.int .i64 j187), (.int .i64 (1 : Int))]) rfl (by kernel_rfl) ?_)
            refine sq (o_rowX (R := r_rectoref11_Match) [(.int .i64 i185), (.int .i64 j187), (.int .i64 (1 : Int))] [(S_rectoref11_Match.mk i185 j187 (1 : Int))] 86 1 (X := X533) (B := w.heap.size) E538.size rfl (by kernel_rfl) (Flat.cons (cs := [(.int .i64 i185), (.int .i64 j187), (.int .i64 (1 : Int))]) (r_rectoref11_Match_mk ri186 rj188 (by decide : inR .i64 (1 : Int))) Flat.nil) rfl (by decide) ?_)
            intro b819 w820 X821 s822 O823 n824
            have p825 := n824 _ (OS.old O184)
            obtain ⟨h826, hp⟩ := hp
            have O827 := (OS.step0 O184 s822)
            have E828 := (Evo.then0 E538 (Step.evo s822))
            refine sq (o_appX (R := r_rectoref11_Match) (X := X821) (B := w.heap.size) (L := out180) (M := [(S_rectoref11_Match.mk i185 j187 (1 : Int))]) rfl elT80 rfl E828.size O827 (OS.src O823) O823.1 (by kernel_rfl) (by kernel_rfl) h826 ?_)
            intro a829 n830 c831 w832 X833 s834 O835 gr836
            refine sq (o_pv (.slice a829 n830 c831) rfl (by kernel_rfl) ?_)
            refine nil_ ?_
            have E837 := (Evo.thenW E828 (Step.evo s834) O827.2.2)
            have hXo838 := (Old.step (Old.step hXo539 s822) s834)
            have hS839 := (Sub.trans (Sub.trans hS540 (Step.up s822)) (Step.up s834))
            have hl840 := (Sl.step (Sl.step hl541 s822) s834)
            refine then_normal (hJ778 _ _ _ ⟨[(3, (.slice a829 n830 c831))], fit_mk (fun _ _ => rfl) (by kernel_rfl) (vs_cons (by kernel_rfl) vs_nil), ?_⟩)
            exact ⟨X833, (out180 ++ ([(S_rectoref11_Match.mk i185 j187 (1 : Int))])), a829, n830, c831, rfl, E837, hXo838, hS839, hl840, O835, hp⟩
        ·
          rintro _ w775 g841 ⟨X776, out768, a769, n770, c771, rfl, E780, hXo781, hS782, hl783, O772, hv779⟩
          replace hp := hk774 out768 hv779 (OS.len O772)
          refine then_normal (K717 _ _ _ _ ?_)
          refine seq_ (fun _ K842 => ?_)
          refine reg_ ?_
          refine sq (o_pv (.int .i64 i185) rfl (by kernel_rfl) ?_)
          obtain ⟨h843, hp⟩ := hp
          refine sq (o_pv (.int .i64 (i185 + (1 : Int))) rfl (x_add2 (k := .i64) (a := i185) (b := (1 : Int)) (i185 + (1 : Int)) (by kernel_rfl) (by kernel_rfl) (wrap_inR h843)) ?_)
          refine sq (o_pv (.int .i64 (i185 + (1 : Int))) rfl (by kernel_rfl) ?_)
          refine nil_ ?_
          refine then_normal (K842 _ _ _ _ ?_)
          refine reg_ ?_
          refine sq (o_pv (.int .i64 j187) rfl (by kernel_rfl) ?_)
          obtain ⟨h844, hp⟩ := hp
          refine sq (o_pv (.int .i64 (j187 + (1 : Int))) rfl (x_add2 (k := .i64) (a := j187) (b := (1 : Int)) (j187 + (1 : Int)) (by kernel_rfl) (by kernel_rfl) (wrap_inR h844)) ?_)
          refine sq (o_pv (.int .i64 (j187 + (1 : Int))) rfl (by kernel_rfl) ?_)
          refine nil_ ?_
          refine blk_normal ?_
          refine then_normal (hJ709 _ _ _ ⟨[(3, (.slice a769 n770 c771)), (4, (.int .i64 (i185 + (1 : Int)))), (5, (.int .i64 (j187 + (1 : Int))))], fit_mk (AgB.nest (AgB.look (fun _ _ => rfl) (by kernel_rfl)) (by kernel_rfl) (by kernel_rfl)) (by kernel_rfl) (vs_cons (by kernel_rfl) (vs_cons (by kernel_rfl) (vs_cons (by kernel_rfl) vs_nil))), ?_⟩)
          exact ⟨X776, out768, (i185 + (1 : Int)), (j187 + (1 : Int)), a769, n770, c771, rfl, E780, hXo781, hS782, hl783, O772, h843, h844, hp⟩
      ·
        replace hp := hp.2 h716
        refine seq_ (fun _ K845 => ?_)
        refine reg_ ?_
        refine sq (o_pv (.bool (decide (((lget l k191).Op) = (2 : Int)))) rfl (by kernel_rfl) ?_)
        refine sq (o_pv (.bool (decide (((lget l k191).Op) = (2 : Int)))) rfl (by kernel_rfl) ?_)
        refine nil_ ?_
        refine then_normal (K845 _ _ _ _ ?_)
        refine cond_d (((lget l k191).Op) = (2 : Int)) (by kernel_rfl) (fun h846 => ?_) (fun h846 => ?_)
        ·
          replace hp := hp.1 h846
          refine reg_ ?_
          refine sq (o_pv (.int .i64 i185) rfl (by kernel_rfl) ?_)
          obtain ⟨h847, hp⟩ := hp
          refine sq (o_pv (.int .i64 (i185 + (1 : Int))) rfl (x_add2 (k := .i64) (a := i185) (b := (1 : Int)) (i185 + (1 : Int)) (by kernel_rfl) (by kernel_rfl) (wrap_inR h847)) ?_)
          refine sq (o_pv (.int .i64 (i185 + (1 : Int))) rfl (by kernel_rfl) ?_)
          refine nil_ ?_
          refine blk_normal ?_
          refine then_normal (hJ709 _ _ _ ⟨[(3, (.slice a181 n182 c183)), (4, (.int .i64 (i185 + (1 : Int)))), (5, (.int .i64 j187))], fit_mk (fun _ _ => rfl) (by kernel_rfl) (vs_cons (by kernel_rfl) (vs_cons (by kernel_rfl) (vs_cons (by kernel_rfl) vs_nil))), ?_⟩)
          exact ⟨X533, out180, (i185 + (1 : Int)), j187, a181, n182, c183, rfl, E538, hXo539, hS540, hl541, O184, h847, rj188, hp⟩
        ·
          replace hp := hp.2 h846
          refine seq_ (fun _ K848 => ?_)
          refine reg_ ?_
          refine sq (o_pv (.bool (decide (((lget l k191).Op) = (3 : Int)))) rfl (by kernel_rfl) ?_)
          refine sq (o_pv (.bool (decide (((lget l k191).Op) = (3 : Int)))) rfl (by kernel_rfl) ?_)
          refine nil_ ?_
          refine then_normal (K848 _ _ _ _ ?_)
          refine cond_d (((lget l k191).Op) = (3 : Int)) (by kernel_rfl) (fun h849 => ?_) (fun h849 => ?_)
          ·
            replace hp := hp.1 h849
            refine reg_ ?_
            refine sq (o_pv (.int .i64 j187) rfl (by kernel_rfl) ?_)
            obtain ⟨h850, hp⟩ := hp
            refine sq (o_pv (.int .i64 (j187 + (1 : Int))) rfl (x_add2 (k := .i64) (a := j187) (b := (1 : Int)) (j187 + (1 : Int)) (by kernel_rfl) (by kernel_rfl) (wrap_inR h850)) ?_)
            refine sq (o_pv (.int .i64 (j187 + (1 : Int))) rfl (by kernel_rfl) ?_)
            refine nil_ ?_
            refine blk_normal ?_
            refine then_normal (hJ709 _ _ _ ⟨[(3, (.slice a181 n182 c183)), (4, (.int .i64 i185)), (5, (.int .i64 (j187 + (1 : Int))))], fit_mk (fun _ _ => rfl) (by kernel_rfl) (vs_cons (by kernel_rfl) (vs_cons (by kernel_rfl) (vs_cons (by kernel_rfl) vs_nil))), ?_⟩)
            exact ⟨X533, out180, i185, (j187 + (1 : Int)), a181, n182, c183, rfl, E538, hXo539, hS540, hl541, O184, ri186, h850, hp⟩
          ·
            replace hp := hp.2 h849
            refine wp_skip ?_
            refine blk_normal ?_
            refine then_normal (hJ709 _ _ _ ⟨[(3, (.slice a181 n182 c183)), (4, (.int .i64 i185)), (5, (.int .i64 j187))], fit_mk (fun _ _ => rfl) (by kernel_rfl) (vs_cons (by kernel_rfl) (vs_cons (by kernel_rfl) (vs_cons (by kernel_rfl) vs_nil))), ?_⟩)
            exact ⟨X533, out180, i185, j187, a181, n182, c183, rfl, E538, hXo539, hS540, hl541, O184, ri186, rj188, hp⟩
    ·
      rintro _ w706 g851 ⟨X707, out695, i700, j702, a696, n697, c698, rfl, E711, hXo712, hS713, hl714, O699, ri701, rj703, hv710⟩
      replace hp := hk705 out695 i700 j702 hv710 (OS.len O699) ri701 rj703
      refine then_normal (K546 _ _ _ _ ?_)
      refine reg_ ?_
      refine sq (o_pv (.slice al1 l.length cl2) rfl (by kernel_rfl) ?_)
      refine sq (o_pv (.int .i64 k191) rfl (by kernel_rfl) ?_)
      obtain ⟨h852, hp⟩ := hp
      obtain ⟨b853, o854, cs855, ha856, nx857, lt858, ok859, hc860⟩ := Sl.atI hl714 k191 h852
      obtain ⟨rfl, reOp861, zeLine862⟩ := r_rectoref11_Edit_open ok859
      replace hp := hp reOp861
      replace hp := hp zeLine862
      refine sq (o_pv (.pointer (some ⟨b853, o854 + k191.toNat * 2, none⟩)) rfl (x_ixA (m := l.length) (c := cl2) (k := .i64) (i := k191) Tryd.underlying25 Tryd.sizeOf105 (by rw [← ha856]; kernel_rfl) (by kernel_rfl) h852) ?_)
      refine sq (o_pv (.pointer (some ⟨b853, o854 + k191.toNat * 2, none⟩)) rfl (by kernel_rfl) ?_)
      refine sq (o_pv (.int .i64 ((lget l k191).Op)) rfl (x_load1 (by kernel_rfl) Tryd.isAgg3 (hc860 0 _ rfl)) ?_)
      refine sq (o_pv (.int .i64 ((lget l k191).Op)) rfl (by kernel_rfl) ?_)
      refine nil_ ?_
      refine blk_normal ?_
      refine then_normal (K545 _ _ _ _ ?_)
      refine reg_ ?_
      refine sq (o_pv (.int .i64 k191) rfl (by kernel_rfl) ?_)
      obtain ⟨h863, hp⟩ := hp
      refine sq (o_pv (.int .i64 (k191 + (1 : Int))) rfl (x_add2 (k := .i64) (a := k191) (b := (1 : Int)) (k191 + (1 : Int)) (by kernel_rfl) (by kernel_rfl) (wrap_inR h863)) ?_)
      refine sq (o_pv (.int .i64 (k191 + (1 : Int))) rfl (by kernel_rfl) ?_)
      refine nil_ ?_
      refine then_normal (hA537 _ _ _ ⟨_, [(3, (.slice a696 n697 c698)), (4, (.int .i64 i700)), (5, (.int .i64 j702)), (6, (.int .i64 ((lget l k191).Op))), (7, (.int .i64 (k191 + (1 : Int))))], hp.2, fit_mk (AgB.nest (AgB.look (AgB.mix _ _ _) (by kernel_rfl)) (by kernel_rfl) (by kernel_rfl)) (by kernel_rfl) (vs_cons (by kernel_rfl) (vs_cons (by kernel_rfl) (vs_cons (by kernel_rfl) (vs_cons (by kernel_rfl) (vs_cons (by kernel_rfl) vs_nil))))), ?_⟩)
      exact ⟨X707, out695, i700, j702, ((lget l k191).Op), (k191 + (1 : Int)), a696, n697, c698, rfl, rfl, E711, hXo712, hS713, hl714, O699, ri701, rj703, reOp861, h863, hp.1⟩
  ·
    replace hp := hp.2 h544
    refine wp_exit ?_
    refine then_exit ?_
    refine then_exit ?_
    refine blk_exit ?_
    refine then_normal (K9 _ _ _ _ ?_)
    refine seq_ (fun _ K864 => ?_)
    refine reg_ ?_
    refine sq (o_pv (.slice a181 n182 c183) rfl (by kernel_rfl) ?_)
    refine sq (o_pv (.slice a181 n182 c183) rfl (by kernel_rfl) ?_)
    refine nil_ ?_
    refine then_normal (K864 _ _ _ _ ?_)
    refine wp_ret ?_
    refine end_ret hQ (.slice a181 n182 c183) (by kernel_rfl) ?_
    exact ⟨out180, hp, E538, a181, c183, (by (rw [show n182 = out180.length from O184.1]); first | done | rfl), (OS.out O184 hS540 hX0)⟩

def rectoref11_Common_p (a : (List ByteArray)) (b : (List ByteArray)) (Q : Int → Prop) : Prop :=
  ((a.length ≤ 9223372036854775807) → ((b.length ≤ 9223372036854775807) → (rectoref11_common_p a b (fun (r9 : (List (List Int))) => ((r9.length ≤ 9223372036854775807) → ((inL r9 (0 : Int)) ∧ (((lget r9 (0 : Int)).length ≤ 9223372036854775807) → ((inL (lget r9 (0 : Int)) (0 : Int)) ∧ ((inR .i64 (lget (lget r9 (0 : Int)) (0 : Int))) → Q (lget (lget r9 (0 : Int)) (0 : Int)))))))))))
set_option maxRecDepth 20000 in
set_option maxHeartbeats 4000000 in
theorem rectoref11_Common_w {X : List Nat} {w : World} {a : (List ByteArray)} {b : (List ByteArray)} {aa1 : Option Addr} {ca2 : Nat} {ab4 : Option Addr} {cb5 : Nat} {Q : Int → Prop} (hX0 : Old X w) (ha3 : Sl rStr X w aa1 ca2 a) (hb6 : Sl rStr X w ab4 cb5 b) (hp : rectoref11_Common_p a b Q) :
    Calls Tryd.prog 44 #[(.slice aa1 a.length ca2), (.slice ab4 b.length cb5)] w (Ret fun v w' => ∃ (r0 : Int), Q r0 ∧ Evo [] w w' ∧ v = (.int .i64 r0) ∧ inR .i64 r0) := by
  have hXo := hX0
  have E0 : Evo [] w w := RB.refl _ _ _
  have hS : Sub X X := Sub.refl _
  unfold rectoref11_Common_p at hp
  refine enter_ Tryd.func44 rfl 12 [(0, (.slice aa1 a.length ca2)), (1, (.slice ab4 b.length cb5))] (by kernel_rfl) (fun Qe hQ => ?_)
  replace hp := hp (Sl.len ha3)
  replace hp := hp (Sl.len hb6)
  refine seq_ (fun _ K7 => ?_)
  refine reg_ ?_
  refine sq (o_pv (.int .i64 (0 : Int)) rfl (by kernel_rfl) ?_)
  refine nil_ ?_
  refine then_normal (K7 _ _ _ _ ?_)
  refine seq_ (fun _ K8 => ?_)
  refine reg_ ?_
  refine sq (o_pv (.slice aa1 a.length ca2) rfl (by kernel_rfl) ?_)
  refine sq (o_pv (.slice ab4 b.length cb5) rfl (by kernel_rfl) ?_)
  refine sq (o_call 52 #[(.slice aa1 a.length ca2), (.slice ab4 b.length cb5)] rfl (x_call Tryd.call52 (by kernel_rfl)) (rectoref11_common_w (X := X) (a := a) (b := b) hXo ha3 hb6 hp) ?_)
  rintro _ w10 ⟨r9, hp, e11, ar13, cr14, rfl, hr15⟩
  have s12 := Step.of0 X e11
  replace hp := hp (Sl.len hr15)
  obtain ⟨h16, hp⟩ := hp
  obtain ⟨b17, o18, cs19, ha20, nx21, lt22, ok23, hc24⟩ := Sl.atI hr15 (0 : Int) h16
  obtain ⟨ae25, ce26, rfl, he27⟩ := ok23
  replace hp := hp (Sl.len he27)
  refine sq (o_pv (.pointer (some ⟨b17, o18 + (0 : Int).toNat * 1, none⟩)) rfl (x_ixA (m := r9.length) (c := cr14) (k := .i64) (i := (0 : Int)) Tryd.underlying103 Tryd.sizeOf106 (by rw [← ha20]; kernel_rfl) (by kernel_rfl) h16) ?_)
  refine sq (o_pv (.slice ae25 ((lget r9 (0 : Int)).length) ce26) rfl (x_load1 (by kernel_rfl) Tryd.isAgg106 (hc24 0 _ rfl)) ?_)
  obtain ⟨h28, hp⟩ := hp
  obtain ⟨b29, o30, cs31, ha32, nx33, lt34, ok35, hc36⟩ := Sl.atI he27 (0 : Int) h28
  obtain ⟨rfl, re37⟩ := ok35
  replace hp := hp re37
  refine sq (o_pv (.pointer (some ⟨b29, o30 + (0 : Int).toNat * 1, none⟩)) rfl (x_ixA (m := (lget r9 (0 : Int)).length) (c := ce26) (k := .i64) (i := (0 : Int)) Tryd.underlying106 Tryd.sizeOf3 (by rw [← ha32]; kernel_rfl) (by kernel_rfl) h28) ?_)
  refine sq (o_pv (.int .i64 (lget (lget r9 (0 : Int)) (0 : Int))) rfl (x_load1 (by kernel_rfl) Tryd.isAgg3 (hc36 0 _ rfl)) ?_)
  refine sq (o_pv (.int .i64 (lget (lget r9 (0 : Int)) (0 : Int))) rfl (by kernel_rfl) ?_)
  refine nil_ ?_
  refine then_normal (K8 _ _ _ _ ?_)
  refine wp_ret ?_
  have E38 := (Evo.then0 E0 e11)
  refine end_ret hQ (.int .i64 (lget (lget r9 (0 : Int)) (0 : Int))) (by kernel_rfl) ?_
  exact ⟨(lget (lget r9 (0 : Int)) (0 : Int)), hp, E38, rfl, re37⟩

end Go.Proofs.YtkmenljohhngjaaDoor
