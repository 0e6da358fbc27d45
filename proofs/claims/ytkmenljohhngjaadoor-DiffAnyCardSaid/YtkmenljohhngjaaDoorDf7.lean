/- Walks of functions: what each asks and computes, as a plain predicate, and the contract from it. -/
import Derived.Test.YtkmenljohhngjaaDoorChecked
import Derived.Test.YtkmenljohhngjaaDoorDf6
namespace Go.Proofs.YtkmenljohhngjaaDoor
open Go


def rectolaw11_DiffAny_p (a : (List ByteArray)) (b : (List ByteArray)) (Q : Bool → Prop) : Prop :=
  ((a.length ≤ 9223372036854775807) → ((b.length ≤ 9223372036854775807) → (rectolaw11_known_p  (fun (r10 : Bool) => ((((!r10) = true) → Q false) ∧ (((!r10) = false) → (rectolaw11_Few_p a b (fun (r21 : Bool) => ((((!r21) = true) → Q true) ∧ (((!r21) = false) → (diff_Lines_p a b (fun (r32 : (List S_diff_Edit)) (r33 : PErr) => ((r32.length ≤ 9223372036854775807) → (rectoref11_Lines_p a b (fun (r46 : (List S_rectoref11_Edit)) (r47 : S_rectoref3_Wrong) => ((r46.length ≤ 9223372036854775807) → ((r47.Parts.length ≤ 9223372036854775807) → ((inR .i64 r47.Err) → (diff_Matches_p a b (fun (r73 : (List S_diff_Match)) (r74 : PErr) => ((r73.length ≤ 9223372036854775807) → (diff_Common_p a b (fun (r87 : Int) (r88 : PErr) => ((inR .i64 r87) → (∃ k128 : Bool → Prop, (∀ (s127 : Bool), k128 s127 → (((s127 = true) → Q false) ∧ ((s127 = false) → (((¬ (r47.Err = (0 : Int))) → Q (decide (((r73.length : Int) = (0 : Int)) ∧ (r87 = (0 : Int))))) ∧ ((r47.Err = (0 : Int)) → (rectoref11_Matches_p r46 (fun (r243 : (List S_rectoref11_Match)) => ((r243.length ≤ 9223372036854775807) → (∃ k271 : Bool → Prop, (∀ (s270 : Bool), k271 s270 → (((s270 = true) → Q false) ∧ ((s270 = false) → (∃ (I527 : Int → Prop) (m528 : Int → Nat), (I527 (0 : Int)) ∧ (∀ (i328 : Int), (I527 i328) → (inR .i64 i328) → (((i328 < (r73.length : Int)) → (∃ k635 : Bool → Prop, (∀ (s634 : Bool), k635 s634 → (((s634 = true) → Q false) ∧ ((s634 = false) → ((inR .i64 (i328 + (1 : Int))) ∧ ((I527 (i328 + (1 : Int))) ∧ m528 (i328 + (1 : Int)) < m528 i328))))) ∧ ((inL r73 i328) ∧ ((inR .i64 ((lget r73 i328).A)) → ((inR .i64 ((lget r73 i328).B)) → ((inR .i64 ((lget r73 i328).N)) → ((inL r243 i328) ∧ ((inR .i64 ((lget r243 i328).A)) → ((inR .i64 ((lget r243 i328).B)) → ((inR .i64 ((lget r243 i328).N)) → (((((lget r73 i328).A) = ((lget r243 i328).A)) → ((inL r73 i328) ∧ ((inR .i64 ((lget r73 i328).A)) → ((inR .i64 ((lget r73 i328).B)) → ((inR .i64 ((lget r73 i328).N)) → ((inL r243 i328) ∧ ((inR .i64 ((lget r243 i328).A)) → ((inR .i64 ((lget r243 i328).B)) → ((inR .i64 ((lget r243 i328).N)) → (((((lget r73 i328).B) = ((lget r243 i328).B)) → ((inL r73 i328) ∧ ((inR .i64 ((lget r73 i328).A)) → ((inR .i64 ((lget r73 i328).B)) → ((inR .i64 ((lget r73 i328).N)) → ((inL r243 i328) ∧ ((inR .i64 ((lget r243 i328).A)) → ((inR .i64 ((lget r243 i328).B)) → ((inR .i64 ((lget r243 i328).N)) → (k635 (!decide (((lget r73 i328).N) = ((lget r243 i328).N))))))))))))) ∧ ((¬ (((lget r73 i328).B) = ((lget r243 i328).B))) → (k635 true)))))))))))) ∧ ((¬ (((lget r73 i328).A) = ((lget r243 i328).A))) → (k635 true))))))))))))) ∧ ((¬ (i328 < (r73.length : Int))) → Q true))))))) ∧ ((((r73.length : Int) = (r243.length : Int)) → (rectoref11_Common_p a b (fun (r296 : Int) => ((inR .i64 r296) → (((r87 = r296) → (diff_Cost_p r32 (fun (r303 : Int) => ((inR .i64 r303) → ((inR .i64 ((a.length : Int) + (b.length : Int))) ∧ ((inR .i64 ((2 : Int) * r87)) ∧ ((inR .i64 (((a.length : Int) + (b.length : Int)) - ((2 : Int) * r87))) ∧ (k271 (!decide (r303 = (((a.length : Int) + (b.length : Int)) - ((2 : Int) * r87)))))))))))) ∧ ((¬ (r87 = r296)) → (k271 true))))))) ∧ ((¬ ((r73.length : Int) = (r243.length : Int))) → (k271 true)))))))))))) ∧ (rectolaw2_Tells_p r33 r47 (fun (r159 : Bool) => (((r159 = true) → (rectolaw2_Tells_p r74 r47 (fun (r178 : Bool) => (((r178 = true) → (rectolaw2_Tells_p r88 r47 (fun (r197 : Bool) => (((r197 = true) → (rectolaw11_Edits_p r32 r46 (fun (r214 : Bool) => (k128 (!r214))))) ∧ ((r197 = false) → (k128 true)))))) ∧ ((r178 = false) → (k128 true)))))) ∧ ((r159 = false) → (k128 true))))))))))))))))))))))))))))))
set_option maxRecDepth 20000 in
set_option maxHeartbeats 4000000 in
theorem rectolaw11_DiffAny_w {X : List Nat} {w : World} {a : (List ByteArray)} {b : (List ByteArray)} {aa1 : Option Addr} {ca2 : Nat} {ab4 : Option Addr} {cb5 : Nat} {Q : Bool → Prop} (hX0 : Old X w) (ha3 : Sl rStr X w aa1 ca2 a) (hb6 : Sl rStr X w ab4 cb5 b) (gv0 : GV X w 0 [(.iface 205 (.agg #[typeHandle Tryd.prog 43]))]) (hp : rectolaw11_DiffAny_p a b Q) :
    Calls Tryd.prog 8 #[(.slice aa1 a.length ca2), (.slice ab4 b.length cb5)] w (Ret fun v w' => ∃ (r0 : Bool), Q r0 ∧ Evo [] w w' ∧ v = (.bool r0)) := by
  have hXo := hX0
  have E0 : Evo [] w w := RB.refl _ _ _
  have hS : Sub X X := Sub.refl _
  unfold rectolaw11_DiffAny_p at hp
  refine enter_ Tryd.func8 rfl 147 [(0, (.slice aa1 a.length ca2)), (1, (.slice ab4 b.length cb5))] (by kernel_rfl) (fun Qe hQ => ?_)
  replace hp := hp (Sl.len ha3)
  replace hp := hp (Sl.len hb6)
  refine seq_ (fun _ K7 => ?_)
  refine reg_ ?_
  refine sq (o_pv (.bool false) rfl (by kernel_rfl) ?_)
  refine nil_ ?_
  refine then_normal (K7 _ _ _ _ ?_)
  refine seq_ (fun _ K8 => ?_)
  refine seq_ (fun _ K9 => ?_)
  refine reg_ ?_
  refine sq (o_call 36 #[] rfl (x_call Tryd.call36 (by kernel_rfl)) (rectolaw11_known_w (X := [])  (Old.nil _) hp) ?_)
  rintro _ w11 ⟨r10, hp, e12, rfl⟩
  have s13 := Step.of0 X e12
  refine sq (o_pv (.bool (!r10)) rfl (by kernel_rfl) ?_)
  refine nil_ ?_
  refine then_normal (K9 _ _ _ _ ?_)
  refine cond_b (!r10) (by kernel_rfl) (fun h14 => ?_) (fun h14 => ?_)
  ·
    replace hp := hp.1 h14
    refine seq_ (fun _ K15 => ?_)
    refine reg_ ?_
    refine sq (o_pv (.bool false) rfl (by kernel_rfl) ?_)
    refine nil_ ?_
    refine then_normal (K15 _ _ _ _ ?_)
    refine wp_ret ?_
    refine then_ret ?_
    have E16 := (Evo.then0 E0 e12)
    refine end_ret hQ (.bool false) (by kernel_rfl) ?_
    exact ⟨false, hp, E16, rfl⟩
  ·
    replace hp := hp.2 h14
    refine wp_skip ?_
    refine then_normal (K8 _ _ _ _ ?_)
    refine seq_ (fun _ K17 => ?_)
    refine seq_ (fun _ K18 => ?_)
    refine reg_ ?_
    refine sq (o_pv (.slice aa1 a.length ca2) rfl (by kernel_rfl) ?_)
    refine sq (o_pv (.slice ab4 b.length cb5) rfl (by kernel_rfl) ?_)
    have ha19 := (Sl.step ha3 s13)
    have hb20 := (Sl.step hb6 s13)
    refine sq (o_call 37 #[(.slice aa1 a.length ca2), (.slice ab4 b.length cb5)] rfl (x_call Tryd.call37 (by kernel_rfl)) (rectolaw11_Few_w (X := []) (a := a) (b := b) (Old.nil _) (Sl.less ha19 (Sub.nil _)) (Sl.less hb20 (Sub.nil _)) hp) ?_)
    rintro _ w22 ⟨r21, hp, e23, rfl⟩
    have s24 := Step.of0 X e23
    refine sq (o_pv (.bool (!r21)) rfl (by kernel_rfl) ?_)
    refine nil_ ?_
    refine then_normal (K18 _ _ _ _ ?_)
    refine cond_b (!r21) (by kernel_rfl) (fun h25 => ?_) (fun h25 => ?_)
    ·
      replace hp := hp.1 h25
      refine seq_ (fun _ K26 => ?_)
      refine reg_ ?_
      refine sq (o_pv (.bool true) rfl (by kernel_rfl) ?_)
      refine nil_ ?_
      refine then_normal (K26 _ _ _ _ ?_)
      refine wp_ret ?_
      refine then_ret ?_
      have E27 := (Evo.then0 (Evo.then0 E0 e12) e23)
      refine end_ret hQ (.bool true) (by kernel_rfl) ?_
      exact ⟨true, hp, E27, rfl⟩
    ·
      replace hp := hp.2 h25
      refine wp_skip ?_
      refine then_normal (K17 _ _ _ _ ?_)
      refine seq_ (fun _ K28 => ?_)
      refine reg_ ?_
      refine sq (o_pv (.slice aa1 a.length ca2) rfl (by kernel_rfl) ?_)
      refine sq (o_pv (.slice ab4 b.length cb5) rfl (by kernel_rfl) ?_)
      have ha29 := (Sl.step ha19 s24)
      have hb30 := (Sl.step hb20 s24)
      have hXo31 := (Old.step (Old.step hXo s13) s24)
      refine sq (o_call 38 #[(.slice aa1 a.length ca2), (.slice ab4 b.length cb5)] rfl (x_call Tryd.call38 (by kernel_rfl)) (diff_Lines_w (X := X) (a := a) (b := b) hXo31 ha29 hb30 hp) ?_)
      rintro _ w34 ⟨r32, r33, hp, e35, ar37, cr38, vr40, rfl, hr39, hr41⟩
      have s36 := Step.of0 X e35
      replace hp := hp (Sl.len hr39)
      refine sq (o_pv (.tuple #[(.slice ar37 r32.length cr38), vr40]) rfl (by kernel_rfl) ?_)
      refine sq (o_pv (.slice ar37 r32.length cr38) rfl (by kernel_rfl) ?_)
      refine sq (o_pv vr40 rfl (by kernel_rfl) ?_)
      refine sq (o_pv (.slice ar37 r32.length cr38) rfl (by kernel_rfl) ?_)
      refine sq (o_pv vr40 rfl (by kernel_rfl) ?_)
      refine nil_ ?_
      refine then_normal (K28 _ _ _ _ ?_)
      refine seq_ (fun _ K42 => ?_)
      refine reg_ ?_
      refine sq (o_pv (.slice aa1 a.length ca2) rfl (by kernel_rfl) ?_)
      refine sq (o_pv (.slice ab4 b.length cb5) rfl (by kernel_rfl) ?_)
      have ha43 := (Sl.step ha29 s36)
      have hb44 := (Sl.step hb30 s36)
      have hXo45 := (Old.step hXo31 s36)
      refine sq (o_call 13 #[(.slice aa1 a.length ca2), (.slice ab4 b.length cb5)] rfl (x_call Tryd.call13 (by kernel_rfl)) (rectoref11_Lines_w (X := X) (a := a) (b := b) hXo45 ha43 hb44 hp) ?_)
      rintro _ w48 ⟨r46, r47, hp, e49, ar51, cr52, arParts54, crParts55, rfl, hr53, hrParts56, rrErr57⟩
      have s50 := Step.of0 X e49
      replace hp := hp (Sl.len hr53)
      replace hp := hp (Sl.len hrParts56)
      replace hp := hp rrErr57
      refine sq (o_pv (.tuple #[(.slice ar51 r46.length cr52), (.agg #[(.slice arParts54 r47.Parts.length crParts55), (.int .i64 r47.Err)])]) rfl (by kernel_rfl) ?_)
      refine sq (o_pv (.slice ar51 r46.length cr52) rfl (by kernel_rfl) ?_)
      refine sq (o_pv (.agg #[(.slice arParts54 r47.Parts.length crParts55), (.int .i64 r47.Err)]) rfl (by kernel_rfl) ?_)
      have E64 := (Evo.then0 (Evo.then0 (Evo.then0 (Evo.then0 E0 e12) e23) e35) e49)
      refine sq (o_newX [(.slice none 0 0), (.int .i64 (0 : Int))] 28 (X := X) (B := w.heap.size) E64.size rfl (by kernel_rfl) ?_)
      intro b58 w59 X60 s61 k62 n63
      refine sq (o_pv (.slice ar51 r46.length cr52) rfl (by kernel_rfl) ?_)
      have E65 := (Evo.then0 E64 (Step.evo s61))
      refine sq (o_stB (o := 0) (v := (.agg #[(.slice arParts54 r47.Parts.length crParts55), (.int .i64 r47.Err)])) [(.slice arParts54 r47.Parts.length crParts55), (.int .i64 r47.Err)] rfl k62 (by kernel_rfl) (by kernel_rfl) Tryd.sizeOf28 rfl rfl rfl ?_)
      intro w66 s67 k68
      refine nil_ ?_
      refine then_normal (K42 _ _ _ _ ?_)
      refine seq_ (fun _ K69 => ?_)
      refine reg_ ?_
      refine sq (o_pv (.slice aa1 a.length ca2) rfl (by kernel_rfl) ?_)
      refine sq (o_pv (.slice ab4 b.length cb5) rfl (by kernel_rfl) ?_)
      have ha70 := (Sl.step (Sl.step (Sl.step ha43 s50) s61) s67)
      have hb71 := (Sl.step (Sl.step (Sl.step hb44 s50) s61) s67)
      have hXo72 := (Old.step (Old.step (Old.step hXo45 s50) s61) s67)
      refine sq (o_call 39 #[(.slice aa1 a.length ca2), (.slice ab4 b.length cb5)] rfl (x_call Tryd.call39 (by kernel_rfl)) (diff_Matches_w (X := X60) (a := a) (b := b) hXo72 ha70 hb71 hp) ?_)
      rintro _ w75 ⟨r73, r74, hp, e76, ar78, cr79, vr81, rfl, hr80, hr82⟩
      have s77 := Step.of0 X60 e76
      replace hp := hp (Sl.len hr80)
      refine sq (o_pv (.tuple #[(.slice ar78 r73.length cr79), vr81]) rfl (by kernel_rfl) ?_)
      refine sq (o_pv (.slice ar78 r73.length cr79) rfl (by kernel_rfl) ?_)
      refine sq (o_pv vr81 rfl (by kernel_rfl) ?_)
      refine sq (o_pv (.slice ar78 r73.length cr79) rfl (by kernel_rfl) ?_)
      refine sq (o_pv vr81 rfl (by kernel_rfl) ?_)
      refine nil_ ?_
      refine then_normal (K69 _ _ _ _ ?_)
      refine seq_ (fun _ K83 => ?_)
      refine reg_ ?_
      refine sq (o_pv (.slice aa1 a.length ca2) rfl (by kernel_rfl) ?_)
      refine sq (o_pv (.slice ab4 b.length cb5) rfl (by kernel_rfl) ?_)
      have ha84 := (Sl.step ha70 s77)
      have hb85 := (Sl.step hb71 s77)
      have hXo86 := (Old.step hXo72 s77)
      refine sq (o_call 40 #[(.slice aa1 a.length ca2), (.slice ab4 b.length cb5)] rfl (x_call Tryd.call40 (by kernel_rfl)) (diff_Common_w (X := X60) (a := a) (b := b) hXo86 ha84 hb85 hp) ?_)
      rintro _ w89 ⟨r87, r88, hp, e90, vr93, rfl, rr92, hr94⟩
      have s91 := Step.of0 X60 e90
      replace hp := hp rr92
      refine sq (o_pv (.tuple #[(.int .i64 r87), vr93]) rfl (by kernel_rfl) ?_)
      refine sq (o_pv (.int .i64 r87) rfl (by kernel_rfl) ?_)
      refine sq (o_pv vr93 rfl (by kernel_rfl) ?_)
      refine sq (o_pv (.int .i64 r87) rfl (by kernel_rfl) ?_)
      refine sq (o_pv vr93 rfl (by kernel_rfl) ?_)
      refine nil_ ?_
      refine then_normal (K83 _ _ _ _ ?_)
      refine seq_ (fun _ K95 => ?_)
      refine seq_ (fun _ K96 => ?_)
      have ha135 := (Sl.step ha84 s91)
      have hb136 := (Sl.step hb85 s91)
      have gv137 := (GV.step (GV.step (GV.step (GV.step (GV.step (GV.step (GV.step (GV.step gv0 s13) s24) s36) s50) s61) s67) s77) s91)
      have hXo138 := (Old.step hXo86 s91)
      have E139 := (Evo.then0 (Evo.then0 (Evo.thenW E65 (Step.evo s67) k62.2.2) e76) e90)
      have hS140 := (Sub.trans (Sub.trans (Sub.trans (Sub.trans (Sub.trans (Sub.trans (Sub.trans (Sub.trans hS (Step.up s13)) (Step.up s24)) (Step.up s36)) (Step.up s50)) (Step.up s61)) (Step.up s67)) (Step.up s77)) (Step.up s91))
      have hr141 := (Sl.step (Sl.step (Sl.step (Sl.step (Sl.step hr39 s50) s61) s67) s77) s91)
      have hr142 := (Rep.step (rErr 63 122 124) (Rep.step (rErr 63 122 124) (Rep.step (rErr 63 122 124) (Rep.step (rErr 63 122 124) (Rep.step (rErr 63 122 124) hr41 s50) s61) s67) s77) s91)
      have hr143 := (Sl.step (Sl.step (Sl.step (Sl.step hr53 s61) s67) s77) s91)
      have hrParts144 := (Sl.step (Sl.step (Sl.step (Sl.step hrParts56 s61) s67) s77) s91)
      have k145 := (OB.step0 (OB.step0 k68 s77) s91)
      have hr146 := (Sl.step hr80 s91)
      have hr147 := (Rep.step (rErr 63 122 124) hr82 s91)
      obtain ⟨k128, hk129, hp⟩ := hp
      refine ground_ ?_
      refine join_ 147573917405304324096 (fun lq w130 => ∃ (X131 : List Nat) (s127 : Bool), (lq = [(66, (.bool s127))]) ∧ (Evo [] w w130) ∧ (Old X131 w130) ∧ (Sub X X131) ∧ (GV X131 w130 0 [(.iface 205 (.agg #[typeHandle Tryd.prog 43]))]) ∧ (Sl rStr X131 w130 aa1 ca2 a) ∧ (Sl rStr X131 w130 ab4 cb5 b) ∧ (Sl r_diff_Edit X131 w130 ar37 cr38 r32) ∧ (Sl r_rectoref11_Edit X131 w130 ar51 cr52 r46) ∧ (Sl r_diff_Match X131 w130 ar78 cr79 r73) ∧ (Sl r_rectoref3_Part X131 w130 arParts54 crParts55 r47.Parts) ∧ (OB ([]) w.heap.size X131 w130 b58 [(.slice arParts54 r47.Parts.length crParts55), (.int .i64 r47.Err)] 28) ∧ (k128 s127)) (fun Kj132 hJ133 => ?_) ?_
      ·
        refine reg_ ?_
        refine sq (o_pv vr40 rfl (by kernel_rfl) ?_)
        refine sq (o_pv (.agg #[(.slice arParts54 r47.Parts.length crParts55), (.int .i64 r47.Err)]) rfl (x_loadN [(.slice arParts54 r47.Parts.length crParts55), (.int .i64 r47.Err)] (by kernel_rfl) Tryd.isAgg28 Tryd.sizeOf28 (k145.2.1.cells' 0 rfl)) ?_)
        refine sq (o_call 41 #[vr40, (.agg #[(.slice arParts54 r47.Parts.length crParts55), (.int .i64 r47.Err)])] rfl (x_call Tryd.call41 (by kernel_rfl)) (rectolaw2_Tells_w (X := []) (err := r33) (w_ := r47) (Old.nil _) (Rep.less (rErr 63 122 124) hr142 (Sub.nil _)) (Sl.less hrParts144 (Sub.nil _)) rrErr57 (GV.less gv137 (Sub.nil _)) hp) ?_)
        rintro _ w160 ⟨r159, hp, e161, rfl⟩
        have s162 := Step.of0 X60 e161
        cases r159
        ·
          replace hp := hp.2 rfl
          refine sq (o_pv (.bool true) rfl (by kernel_rfl) ?_)
          refine sq (o_pv (.bool true) rfl (by kernel_rfl) ?_)
          refine sq (o_not (by kernel_rfl) ?_)
          refine sq (o_not (by kernel_rfl) ?_)
          refine sq (o_not (by kernel_rfl) ?_)
          refine sq (o_not (by kernel_rfl) ?_)
          refine sq (o_pv (.bool true) rfl (by kernel_rfl) ?_)
          refine sq (o_pv (.bool true) rfl (by kernel_rfl) ?_)
          refine sq (o_not (by kernel_rfl) ?_)
          refine sq (o_not (by kernel_rfl) ?_)
          refine sq (o_not (by kernel_rfl) ?_)
          refine sq (o_not (by kernel_rfl) ?_)
          refine sq (o_pv (.bool true) rfl (by kernel_rfl) ?_)
          refine sq (o_pv (.bool true) rfl (by kernel_rfl) ?_)
          refine sq (o_not (by kernel_rfl) ?_)
          refine sq (o_not (by kernel_rfl) ?_)
          refine sq (o_not (by kernel_rfl) ?_)
          refine sq (o_not (by kernel_rfl) ?_)
          refine sq (o_pv (.bool true) rfl (by kernel_rfl) ?_)
          refine nil_ ?_
          have E163 := (Evo.then0 E139 e161)
          have hXo164 := (Old.step hXo138 s162)
          have hS165 := (Sub.trans hS140 (Step.up s162))
          have gv166 := (GV.step gv137 s162)
          have ha167 := (Sl.step ha135 s162)
          have hb168 := (Sl.step hb136 s162)
          have hr169 := (Sl.step hr141 s162)
          have hr170 := (Sl.step hr143 s162)
          have hr171 := (Sl.step hr146 s162)
          have hrParts172 := (Sl.step hrParts144 s162)
          have k173 := (OB.step0 k145 s162)
          refine then_normal (hJ133 _ _ _ ⟨[(66, (.bool true))], fit_mk (fun _ _ => rfl) (by kernel_rfl) (vs_cons (by kernel_rfl) vs_nil), ?_⟩)
          exact ⟨X60, true, rfl, E163, hXo164, hS165, gv166, ha167, hb168, hr169, hr170, hr171, hrParts172, k173, hp⟩
        ·
          replace hp := hp.1 rfl
          refine sq (o_pv (.bool false) rfl (by kernel_rfl) ?_)
          refine sq (o_pv (.bool false) rfl (by kernel_rfl) ?_)
          refine sq (o_pv vr81 (by kernel_rfl) (by kernel_rfl) ?_)
          have k174 := (OB.step0 k145 s162)
          refine sq (o_pv (.agg #[(.slice arParts54 r47.Parts.length crParts55), (.int .i64 r47.Err)]) (by kernel_rfl) (x_loadN [(.slice arParts54 r47.Parts.length crParts55), (.int .i64 r47.Err)] (by kernel_rfl) Tryd.isAgg28 Tryd.sizeOf28 (k174.2.1.cells' 0 rfl)) ?_)
          have hr175 := (Rep.step (rErr 63 122 124) hr147 s162)
          have hrParts176 := (Sl.step hrParts144 s162)
          have gv177 := (GV.step gv137 s162)
          refine sq (o_call 41 #[vr81, (.agg #[(.slice arParts54 r47.Parts.length crParts55), (.int .i64 r47.Err)])] (by kernel_rfl) (x_call Tryd.call41 (by kernel_rfl)) (rectolaw2_Tells_w (X := []) (err := r74) (w_ := r47) (Old.nil _) (Rep.less (rErr 63 122 124) hr175 (Sub.nil _)) (Sl.less hrParts176 (Sub.nil _)) rrErr57 (GV.less gv177 (Sub.nil _)) hp) ?_)
          rintro _ w179 ⟨r178, hp, e180, rfl⟩
          have s181 := Step.of0 X60 e180
          cases r178
          ·
            replace hp := hp.2 rfl
            refine sq (o_pv (.bool true) (by kernel_rfl) (by kernel_rfl) ?_)
            refine sq (o_pv (.bool true) rfl (by kernel_rfl) ?_)
            refine sq (o_pv (.bool true) rfl (by kernel_rfl) ?_)
            refine sq (o_not (by kernel_rfl) ?_)
            refine sq (o_not (by kernel_rfl) ?_)
            refine sq (o_not (by kernel_rfl) ?_)
            refine sq (o_not (by kernel_rfl) ?_)
            refine sq (o_pv (.bool true) rfl (by kernel_rfl) ?_)
            refine sq (o_pv (.bool true) rfl (by kernel_rfl) ?_)
            refine sq (o_not (by kernel_rfl) ?_)
            refine sq (o_not (by kernel_rfl) ?_)
            refine sq (o_not (by kernel_rfl) ?_)
            refine sq (o_not (by kernel_rfl) ?_)
            refine sq (o_pv (.bool true) rfl (by kernel_rfl) ?_)
            refine nil_ ?_
            have E182 := (Evo.then0 (Evo.then0 E139 e161) e180)
            have hXo183 := (Old.step (Old.step hXo138 s162) s181)
            have hS184 := (Sub.trans (Sub.trans hS140 (Step.up s162)) (Step.up s181))
            have gv185 := (GV.step gv177 s181)
            have ha186 := (Sl.step (Sl.step ha135 s162) s181)
            have hb187 := (Sl.step (Sl.step hb136 s162) s181)
            have hr188 := (Sl.step (Sl.step hr141 s162) s181)
            have hr189 := (Sl.step (Sl.step hr143 s162) s181)
            have hr190 := (Sl.step (Sl.step hr146 s162) s181)
            have hrParts191 := (Sl.step hrParts176 s181)
            have k192 := (OB.step0 k174 s181)
            refine then_normal (hJ133 _ _ _ ⟨[(66, (.bool true))], fit_mk (fun _ _ => rfl) (by kernel_rfl) (vs_cons (by kernel_rfl) vs_nil), ?_⟩)
            exact ⟨X60, true, rfl, E182, hXo183, hS184, gv185, ha186, hb187, hr188, hr189, hr190, hrParts191, k192, hp⟩
          ·
            replace hp := hp.1 rfl
            refine sq (o_pv (.bool false) (by kernel_rfl) (by kernel_rfl) ?_)
            refine sq (o_pv (.bool false) rfl (by kernel_rfl) ?_)
            refine sq (o_pv (.bool false) rfl (by kernel_rfl) ?_)
            refine sq (o_pv vr93 (by kernel_rfl) (by kernel_rfl) ?_)
            have k193 := (OB.step0 k174 s181)
            refine sq (o_pv (.agg #[(.slice arParts54 r47.Parts.length crParts55), (.int .i64 r47.Err)]) (by kernel_rfl) (x_loadN [(.slice arParts54 r47.Parts.length crParts55), (.int .i64 r47.Err)] (by kernel_rfl) Tryd.isAgg28 Tryd.sizeOf28 (k193.2.1.cells' 0 rfl)) ?_)
            have hr194 := (Rep.step (rErr 63 122 124) (Rep.step (rErr 63 122 124) hr94 s162) s181)
            have hrParts195 := (Sl.step hrParts176 s181)
            have gv196 := (GV.step gv177 s181)
            refine sq (o_call 41 #[vr93, (.agg #[(.slice arParts54 r47.Parts.length crParts55), (.int .i64 r47.Err)])] (by kernel_rfl) (x_call Tryd.call41 (by kernel_rfl)) (rectolaw2_Tells_w (X := []) (err := r88) (w_ := r47) (Old.nil _) (Rep.less (rErr 63 122 124) hr194 (Sub.nil _)) (Sl.less hrParts195 (Sub.nil _)) rrErr57 (GV.less gv196 (Sub.nil _)) hp) ?_)
            rintro _ w198 ⟨r197, hp, e199, rfl⟩
            have s200 := Step.of0 X60 e199
            cases r197
            ·
              replace hp := hp.2 rfl
              refine sq (o_pv (.bool true) (by kernel_rfl) (by kernel_rfl) ?_)
              refine sq (o_pv (.bool true) rfl (by kernel_rfl) ?_)
              refine sq (o_pv (.bool true) rfl (by kernel_rfl) ?_)
              refine sq (o_not (by kernel_rfl) ?_)
              refine sq (o_not (by kernel_rfl) ?_)
              refine sq (o_not (by kernel_rfl) ?_)
              refine sq (o_not (by kernel_rfl) ?_)
              refine sq (o_pv (.bool true) rfl (by kernel_rfl) ?_)
              refine nil_ ?_
              have E201 := (Evo.then0 (Evo.then0 (Evo.then0 E139 e161) e180) e199)
              have hXo202 := (Old.step (Old.step (Old.step hXo138 s162) s181) s200)
              have hS203 := (Sub.trans (Sub.trans (Sub.trans hS140 (Step.up s162)) (Step.up s181)) (Step.up s200))
              have gv204 := (GV.step gv196 s200)
              have ha205 := (Sl.step (Sl.step (Sl.step ha135 s162) s181) s200)
              have hb206 := (Sl.step (Sl.step (Sl.step hb136 s162) s181) s200)
              have hr207 := (Sl.step (Sl.step (Sl.step hr141 s162) s181) s200)
              have hr208 := (Sl.step (Sl.step (Sl.step hr143 s162) s181) s200)
              have hr209 := (Sl.step (Sl.step (Sl.step hr146 s162) s181) s200)
              have hrParts210 := (Sl.step hrParts195 s200)
              have k211 := (OB.step0 k193 s200)
              refine then_normal (hJ133 _ _ _ ⟨[(66, (.bool true))], fit_mk (fun _ _ => rfl) (by kernel_rfl) (vs_cons (by kernel_rfl) vs_nil), ?_⟩)
              exact ⟨X60, true, rfl, E201, hXo202, hS203, gv204, ha205, hb206, hr207, hr208, hr209, hrParts210, k211, hp⟩
            ·
              replace hp := hp.1 rfl
              refine sq (o_pv (.bool false) (by kernel_rfl) (by kernel_rfl) ?_)
              refine sq (o_pv (.bool false) rfl (by kernel_rfl) ?_)
              refine sq (o_pv (.bool false) rfl (by kernel_rfl) ?_)
              refine sq (o_pv (.slice ar37 r32.length cr38) (by kernel_rfl) (by kernel_rfl) ?_)
              refine sq (o_pv (.slice ar51 r46.length cr52) (by kernel_rfl) (by kernel_rfl) ?_)
              have hr212 := (Sl.step (Sl.step (Sl.step hr141 s162) s181) s200)
              have hr213 := (Sl.step (Sl.step (Sl.step hr143 s162) s181) s200)
              refine sq (o_call 42 #[(.slice ar37 r32.length cr38), (.slice ar51 r46.length cr52)] (by kernel_rfl) (x_call Tryd.call42 (by kernel_rfl)) (rectolaw11_Edits_w (X := []) (a := r32) (b := r46) (Old.nil _) (Sl.less hr212 (Sub.nil _)) (Sl.less hr213 (Sub.nil _)) hp) ?_)
              rintro _ w215 ⟨r214, hp, e216, rfl⟩
              have s217 := Step.of0 X60 e216
              refine sq (o_pv (.bool (!r214)) (by kernel_rfl) (by kernel_rfl) ?_)
              refine sq (o_pv (.bool (!r214)) rfl (by kernel_rfl) ?_)
              refine nil_ ?_
              have E218 := (Evo.then0 (Evo.then0 (Evo.then0 (Evo.then0 E139 e161) e180) e199) e216)
              have hXo219 := (Old.step (Old.step (Old.step (Old.step hXo138 s162) s181) s200) s217)
              have hS220 := (Sub.trans (Sub.trans (Sub.trans (Sub.trans hS140 (Step.up s162)) (Step.up s181)) (Step.up s200)) (Step.up s217))
              have gv221 := (GV.step (GV.step gv196 s200) s217)
              have ha222 := (Sl.step (Sl.step (Sl.step (Sl.step ha135 s162) s181) s200) s217)
              have hb223 := (Sl.step (Sl.step (Sl.step (Sl.step hb136 s162) s181) s200) s217)
              have hr224 := (Sl.step hr212 s217)
              have hr225 := (Sl.step hr213 s217)
              have hr226 := (Sl.step (Sl.step (Sl.step (Sl.step hr146 s162) s181) s200) s217)
              have hrParts227 := (Sl.step (Sl.step hrParts195 s200) s217)
              have k228 := (OB.step0 (OB.step0 k193 s200) s217)
              refine then_normal (hJ133 _ _ _ ⟨[(66, (.bool (!r214)))], fit_mk (fun _ _ => rfl) (by kernel_rfl) (vs_cons (by kernel_rfl) vs_nil), ?_⟩)
              exact ⟨X60, (!r214), rfl, E218, hXo219, hS220, gv221, ha222, hb223, hr224, hr225, hr226, hrParts227, k228, hp⟩
      ·
        rintro _ w130 g229 ⟨X131, s127, rfl, E148, hXo149, hS150, gv151, ha152, hb153, hr154, hr155, hr156, hrParts157, k158, hv134⟩
        replace hp := hk129 s127 hv134
        refine then_normal (K96 _ _ _ _ ?_)
        refine cond_b s127 (by kernel_rfl) (fun h230 => ?_) (fun h230 => ?_)
        ·
          replace hp := hp.1 h230
          refine seq_ (fun _ K231 => ?_)
          refine reg_ ?_
          refine sq (o_pv (.bool false) rfl (by kernel_rfl) ?_)
          refine nil_ ?_
          refine then_normal (K231 _ _ _ _ ?_)
          refine wp_ret ?_
          refine then_ret ?_
          refine end_ret hQ (.bool false) (by kernel_rfl) ?_
          exact ⟨false, hp, E148, rfl⟩
        ·
          replace hp := hp.2 h230
          refine wp_skip ?_
          refine then_normal (K95 _ _ _ _ ?_)
          refine seq_ (fun _ K232 => ?_)
          refine seq_ (fun _ K233 => ?_)
          refine reg_ ?_
          refine sq (o_pv (.pointer (some ⟨b58, 1, none⟩)) rfl (by kernel_rfl) ?_)
          refine sq (o_pv (.int .i64 r47.Err) rfl (x_load1 (by kernel_rfl) Tryd.isAgg3 (k158.2.1.cell' 1 rfl)) ?_)
          refine sq (o_pv (.bool (!decide (r47.Err = (0 : Int)))) rfl (by kernel_rfl) ?_)
          refine nil_ ?_
          refine then_normal (K233 _ _ _ _ ?_)
          refine cond_nd (r47.Err = (0 : Int)) (by kernel_rfl) (fun h234 => ?_) (fun h234 => ?_)
          ·
            replace hp := hp.1 h234
            refine seq_ (fun _ K235 => ?_)
            refine ground_ ?_
            refine join_ 149935135831111235534864 (fun lq w239 => lq = [(4, (.bool (decide (((r73.length : Int) = (0 : Int)) ∧ (r87 = (0 : Int))))))] ∧ w130 = w239) (fun Kj237 hJ238 => ?_) ?_
            ·
              refine reg_ ?_
              refine sq (o_pv (.slice ar78 r73.length cr79) rfl (by kernel_rfl) ?_)
              refine sq (o_pv (.int .i64 (r73.length : Int)) rfl (by kernel_rfl) ?_)
              by_cases h241 : (r73.length : Int) = (0 : Int)
              ·
                refine sq (o_pv (.bool true) rfl (x_dt (p := (r73.length : Int) = (0 : Int)) (by kernel_rfl) h241) ?_)
                refine sq (o_pv (.bool true) rfl (by kernel_rfl) ?_)
                refine sq (o_pv (.int .i64 r87) (by kernel_rfl) (by kernel_rfl) ?_)
                refine sq (o_pv (.bool (decide (r87 = (0 : Int)))) (by kernel_rfl) (by kernel_rfl) ?_)
                refine sq (o_pv (.bool (decide (r87 = (0 : Int)))) rfl (by kernel_rfl) ?_)
                refine sq (o_pv (.bool (decide (r87 = (0 : Int)))) rfl (by kernel_rfl) ?_)
                refine nil_ ?_
                refine then_normal (hJ238 _ _ _ ⟨[(4, (.bool (decide (((r73.length : Int) = (0 : Int)) ∧ (r87 = (0 : Int))))))], fit_mk (fun _ _ => rfl) (by kernel_rfl) (vs_cons (Eq.trans (b := (.bool (decide (r87 = (0 : Int))))) (by kernel_rfl) (dec_d ((and_iff_right h241).trans Iff.rfl)).symm) vs_nil), rfl, rfl⟩)
              ·
                refine sq (o_pv (.bool false) rfl (x_df (p := (r73.length : Int) = (0 : Int)) (by kernel_rfl) h241) ?_)
                refine sq (o_pv (.bool false) rfl (by kernel_rfl) ?_)
                refine sq (o_not (by kernel_rfl) ?_)
                refine sq (o_not (by kernel_rfl) ?_)
                refine sq (o_pv (.bool false) rfl (by kernel_rfl) ?_)
                refine sq (o_pv (.bool false) rfl (by kernel_rfl) ?_)
                refine nil_ ?_
                refine then_normal (hJ238 _ _ _ ⟨[(4, (.bool (decide (((r73.length : Int) = (0 : Int)) ∧ (r87 = (0 : Int))))))], fit_mk (fun _ _ => rfl) (by kernel_rfl) (vs_cons (Eq.trans (b := (.bool false)) (by kernel_rfl) (dec_f (iff_false_intro (fun h => h241 h.1))).symm) vs_nil), rfl, rfl⟩)
            ·
              rintro _ w239 g240 ⟨rfl, hw⟩
              subst hw
              refine then_normal (K235 _ _ _ _ ?_)
              refine wp_ret ?_
              refine then_ret ?_
              refine end_ret hQ (.bool (decide (((r73.length : Int) = (0 : Int)) ∧ (r87 = (0 : Int))))) (by kernel_rfl) ?_
              exact ⟨(decide (((r73.length : Int) = (0 : Int)) ∧ (r87 = (0 : Int)))), hp, E148, rfl⟩
          ·
            replace hp := hp.2 h234
            refine wp_skip ?_
            refine then_normal (K232 _ _ _ _ ?_)
            refine seq_ (fun _ K242 => ?_)
            refine reg_ ?_
            refine sq (o_pv (.slice ar51 r46.length cr52) rfl (by kernel_rfl) ?_)
            refine sq (o_call 43 #[(.slice ar51 r46.length cr52)] rfl (x_call Tryd.call43 (by kernel_rfl)) (rectoref11_Matches_w (X := X131) (l := r46) hXo149 hr155 hp) ?_)
            rintro _ w244 ⟨r243, hp, e245, ar247, cr248, rfl, hr249⟩
            have s246 := Step.of0 X131 e245
            replace hp := hp (Sl.len hr249)
            refine sq (o_pv (.slice ar247 r243.length cr248) rfl (by kernel_rfl) ?_)
            refine nil_ ?_
            refine then_normal (K242 _ _ _ _ ?_)
            refine seq_ (fun _ K250 => ?_)
            refine seq_ (fun _ K251 => ?_)
            have E278 := (Evo.then0 E148 e245)
            have hXo279 := (Old.step hXo149 s246)
            have hS280 := (Sub.trans hS150 (Step.up s246))
            have gv281 := (GV.step gv151 s246)
            have ha282 := (Sl.step ha152 s246)
            have hb283 := (Sl.step hb153 s246)
            have hr284 := (Sl.step hr154 s246)
            have hr285 := (Sl.step hr155 s246)
            have hr286 := (Sl.step hr156 s246)
            have hrParts287 := (Sl.step hrParts157 s246)
            have k288 := (OB.step0 k158 s246)
            obtain ⟨k271, hk272, hp⟩ := hp
            refine ground_ ?_
            refine join_ 20282408999188760616632663932928 (fun lq w273 => ∃ (X274 : List Nat) (s270 : Bool), (lq = [(103, (.bool s270))]) ∧ (Evo [] w w273) ∧ (Old X274 w273) ∧ (Sub X X274) ∧ (GV X274 w273 0 [(.iface 205 (.agg #[typeHandle Tryd.prog 43]))]) ∧ (Sl r_diff_Match X274 w273 ar78 cr79 r73) ∧ (Sl r_rectoref11_Match X274 w273 ar247 cr248 r243) ∧ (k271 s270)) (fun Kj275 hJ276 => ?_) ?_
            ·
              refine reg_ ?_
              refine sq (o_pv (.slice ar78 r73.length cr79) rfl (by kernel_rfl) ?_)
              refine sq (o_pv (.int .i64 (r73.length : Int)) rfl (by kernel_rfl) ?_)
              refine sq (o_pv (.slice ar247 r243.length cr248) rfl (by kernel_rfl) ?_)
              refine sq (o_pv (.int .i64 (r243.length : Int)) rfl (by kernel_rfl) ?_)
              by_cases h295 : (r73.length : Int) = (r243.length : Int)
              ·
                replace hp := hp.1 h295
                refine sq (o_pv (.bool false) rfl (x_ndf (p := (r73.length : Int) = (r243.length : Int)) (by kernel_rfl) h295) ?_)
                refine sq (o_pv (.bool false) rfl (by kernel_rfl) ?_)
                refine sq (o_pv (.int .i64 r87) (by kernel_rfl) (by kernel_rfl) ?_)
                refine sq (o_pv (.slice aa1 a.length ca2) (by kernel_rfl) (by kernel_rfl) ?_)
                refine sq (o_pv (.slice ab4 b.length cb5) (by kernel_rfl) (by kernel_rfl) ?_)
                refine sq (o_call 44 #[(.slice aa1 a.length ca2), (.slice ab4 b.length cb5)] (by kernel_rfl) (x_call Tryd.call44 (by kernel_rfl)) (rectoref11_Common_w (X := []) (a := a) (b := b) (Old.nil _) (Sl.less ha282 (Sub.nil _)) (Sl.less hb283 (Sub.nil _)) hp) ?_)
                rintro _ w297 ⟨r296, hp, e298, rfl, rr300⟩
                have s299 := Step.of0 X131 e298
                replace hp := hp rr300
                by_cases h301 : r87 = r296
                ·
                  replace hp := hp.1 h301
                  refine sq (o_pv (.bool false) (by kernel_rfl) (x_ndf (p := r87 = r296) (by kernel_rfl) h301) ?_)
                  refine sq (o_pv (.bool false) rfl (by kernel_rfl) ?_)
                  refine sq (o_pv (.bool false) rfl (by kernel_rfl) ?_)
                  refine sq (o_pv (.slice ar37 r32.length cr38) (by kernel_rfl) (by kernel_rfl) ?_)
                  have hr302 := (Sl.step hr284 s299)
                  refine sq (o_call 45 #[(.slice ar37 r32.length cr38)] (by kernel_rfl) (x_call Tryd.call45 (by kernel_rfl)) (diff_Cost_w (X := []) (l := r32) (Old.nil _) (Sl.less hr302 (Sub.nil _)) hp) ?_)
                  rintro _ w304 ⟨r303, hp, e305, rfl, rr307⟩
                  have s306 := Step.of0 X131 e305
                  replace hp := hp rr307
                  refine sq (o_pv (.slice aa1 a.length ca2) (by kernel_rfl) (by kernel_rfl) ?_)
                  refine sq (o_pv (.int .i64 (a.length : Int)) (by kernel_rfl) (by kernel_rfl) ?_)
                  refine sq (o_pv (.slice ab4 b.length cb5) (by kernel_rfl) (by kernel_rfl) ?_)
                  refine sq (o_pv (.int .i64 (b.length : Int)) (by kernel_rfl) (by kernel_rfl) ?_)
                  obtain ⟨h308, hp⟩ := hp
                  refine sq (o_pv (.int .i64 ((a.length : Int) + (b.length : Int))) (by kernel_rfl) (x_add2 (k := .i64) (a := (a.length : Int)) (b := (b.length : Int)) ((a.length : Int) + (b.length : Int)) (by kernel_rfl) (by kernel_rfl) (wrap_inR h308)) ?_)
                  refine sq (o_pv (.int .i64 r87) (by kernel_rfl) (by kernel_rfl) ?_)
                  obtain ⟨h309, hp⟩ := hp
                  refine sq (o_pv (.int .i64 ((2 : Int) * r87)) (by kernel_rfl) (x_mul2 (k := .i64) (a := (2 : Int)) (b := r87) ((2 : Int) * r87) (by kernel_rfl) (by kernel_rfl) (wrap_inR h309)) ?_)
                  obtain ⟨h310, hp⟩ := hp
                  refine sq (o_pv (.int .i64 (((a.length : Int) + (b.length : Int)) - ((2 : Int) * r87))) (by kernel_rfl) (x_sub2 (k := .i64) (a := (a.length : Int) + (b.length : Int)) (b := (2 : Int) * r87) (((a.length : Int) + (b.length : Int)) - ((2 : Int) * r87)) (by kernel_rfl) (by kernel_rfl) (wrap_inR h310)) ?_)
                  refine sq (o_pv (.bool (!decide (r303 = (((a.length : Int) + (b.length : Int)) - ((2 : Int) * r87))))) (by kernel_rfl) (by kernel_rfl) ?_)
                  refine sq (o_pv (.bool (!decide (r303 = (((a.length : Int) + (b.length : Int)) - ((2 : Int) * r87))))) rfl (by kernel_rfl) ?_)
                  refine nil_ ?_
                  have E311 := (Evo.then0 (Evo.then0 E278 e298) e305)
                  have hXo312 := (Old.step (Old.step hXo279 s299) s306)
                  have hS313 := (Sub.trans (Sub.trans hS280 (Step.up s299)) (Step.up s306))
                  have gv314 := (GV.step (GV.step gv281 s299) s306)
                  have hr315 := (Sl.step (Sl.step hr286 s299) s306)
                  have hr316 := (Sl.step (Sl.step hr249 s299) s306)
                  refine then_normal (hJ276 _ _ _ ⟨[(103, (.bool (!decide (r303 = (((a.length : Int) + (b.length : Int)) - ((2 : Int) * r87))))))], fit_mk (fun _ _ => rfl) (by kernel_rfl) (vs_cons (by kernel_rfl) vs_nil), ?_⟩)
                  exact ⟨X131, (!decide (r303 = (((a.length : Int) + (b.length : Int)) - ((2 : Int) * r87)))), rfl, E311, hXo312, hS313, gv314, hr315, hr316, hp⟩
                ·
                  replace hp := hp.2 h301
                  refine sq (o_pv (.bool true) (by kernel_rfl) (x_ndt (p := r87 = r296) (by kernel_rfl) h301) ?_)
                  refine sq (o_pv (.bool true) rfl (by kernel_rfl) ?_)
                  refine sq (o_pv (.bool true) rfl (by kernel_rfl) ?_)
                  refine sq (o_not (by kernel_rfl) ?_)
                  refine sq (o_not (by kernel_rfl) ?_)
                  refine sq (o_not (by kernel_rfl) ?_)
                  refine sq (o_not (by kernel_rfl) ?_)
                  refine sq (o_not (by kernel_rfl) ?_)
                  refine sq (o_not (by kernel_rfl) ?_)
                  refine sq (o_not (by kernel_rfl) ?_)
                  refine sq (o_not (by kernel_rfl) ?_)
                  refine sq (o_not (by kernel_rfl) ?_)
                  refine sq (o_not (by kernel_rfl) ?_)
                  refine sq (o_not (by kernel_rfl) ?_)
                  refine sq (o_pv (.bool true) rfl (by kernel_rfl) ?_)
                  refine nil_ ?_
                  have E317 := (Evo.then0 E278 e298)
                  have hXo318 := (Old.step hXo279 s299)
                  have hS319 := (Sub.trans hS280 (Step.up s299))
                  have gv320 := (GV.step gv281 s299)
                  have hr321 := (Sl.step hr286 s299)
                  have hr322 := (Sl.step hr249 s299)
                  refine then_normal (hJ276 _ _ _ ⟨[(103, (.bool true))], fit_mk (fun _ _ => rfl) (by kernel_rfl) (vs_cons (by kernel_rfl) vs_nil), ?_⟩)
                  exact ⟨X131, true, rfl, E317, hXo318, hS319, gv320, hr321, hr322, hp⟩
              ·
                replace hp := hp.2 h295
                refine sq (o_pv (.bool true) rfl (x_ndt (p := (r73.length : Int) = (r243.length : Int)) (by kernel_rfl) h295) ?_)
                refine sq (o_pv (.bool true) rfl (by kernel_rfl) ?_)
                refine sq (o_not (by kernel_rfl) ?_)
                refine sq (o_not (by kernel_rfl) ?_)
                refine sq (o_not (by kernel_rfl) ?_)
                refine sq (o_not (by kernel_rfl) ?_)
                refine sq (o_not (by kernel_rfl) ?_)
                refine sq (o_pv (.bool true) rfl (by kernel_rfl) ?_)
                refine sq (o_pv (.bool true) rfl (by kernel_rfl) ?_)
                refine sq (o_not (by kernel_rfl) ?_)
                refine sq (o_not (by kernel_rfl) ?_)
                refine sq (o_not (by kernel_rfl) ?_)
                refine sq (o_not (by kernel_rfl) ?_)
                refine sq (o_not (by kernel_rfl) ?_)
                refine sq (o_not (by kernel_rfl) ?_)
                refine sq (o_not (by kernel_rfl) ?_)
                refine sq (o_not (by kernel_rfl) ?_)
                refine sq (o_not (by kernel_rfl) ?_)
                refine sq (o_not (by kernel_rfl) ?_)
                refine sq (o_not (by kernel_rfl) ?_)
                refine sq (o_pv (.bool true) rfl (by kernel_rfl) ?_)
                refine nil_ ?_
                refine then_normal (hJ276 _ _ _ ⟨[(103, (.bool true))], fit_mk (fun _ _ => rfl) (by kernel_rfl) (vs_cons (by kernel_rfl) vs_nil), ?_⟩)
                exact ⟨X131, true, rfl, E278, hXo279, hS280, gv281, hr286, hr249, hp⟩
            ·
              rintro _ w273 g323 ⟨X274, s270, rfl, E289, hXo290, hS291, gv292, hr293, hr294, hv277⟩
              replace hp := hk272 s270 hv277
              refine then_normal (K251 _ _ _ _ ?_)
              refine cond_b s270 (by kernel_rfl) (fun h324 => ?_) (fun h324 => ?_)
              ·
                replace hp := hp.1 h324
                refine seq_ (fun _ K325 => ?_)
                refine reg_ ?_
                refine sq (o_pv (.bool false) rfl (by kernel_rfl) ?_)
                refine nil_ ?_
                refine then_normal (K325 _ _ _ _ ?_)
                refine wp_ret ?_
                refine then_ret ?_
                refine end_ret hQ (.bool false) (by kernel_rfl) ?_
                exact ⟨false, hp, E289, rfl⟩
              ·
                replace hp := hp.2 h324
                refine wp_skip ?_
                refine then_normal (K250 _ _ _ _ ?_)
                refine seq_ (fun _ K326 => ?_)
                refine seq_ (fun _ K327 => ?_)
                refine reg_ ?_
                refine sq (o_pv (.int .i64 (0 : Int)) rfl (by kernel_rfl) ?_)
                refine nil_ ?_
                refine then_normal (K327 _ _ _ _ ?_)
                refine wp_block ?_
                obtain ⟨I527, m528, hI529, hp⟩ := hp
                refine loop_ 178405961588224702722682094510762944796573712 (fun kq lq w531 => ∃ (X532 : List Nat) (i328 : Int), (lq = [(14, (.int .i64 i328))]) ∧ (kq = m528 i328) ∧ (Evo [] w w531) ∧ (Old X532 w531) ∧ (Sub X X532) ∧ (GV X532 w531 0 [(.iface 205 (.agg #[typeHandle Tryd.prog 43]))]) ∧ (Sl r_diff_Match X532 w531 ar78 cr79 r73) ∧ (Sl r_rectoref11_Match X532 w531 ar247 cr248 r243) ∧ (inR .i64 i328) ∧ (I527 i328)) (m528 (0 : Int)) [(14, (.int .i64 (0 : Int)))] (vs_cons (by kernel_rfl) vs_nil) ⟨X274, (0 : Int), rfl, rfl, E289, hXo290, hS291, gv292, hr293, hr294, (by decide : inR .i64 (0 : Int)), hI529⟩ ?_
                rintro _ _ w531 g534 ⟨X532, i328, rfl, rfl, E537, hXo538, hS539, gv540, hr541, hr542, ri329, hI530⟩ Kl535 hA536
                replace hp := hp i328 hI530 ri329
                refine seq_ (fun _ K543 => ?_)
                refine seq_ (fun _ K544 => ?_)
                refine reg_ ?_
                refine sq (o_pv (.int .i64 i328) rfl (by kernel_rfl) ?_)
                refine sq (o_pv (.slice ar78 r73.length cr79) rfl (by kernel_rfl) ?_)
                refine sq (o_pv (.int .i64 (r73.length : Int)) rfl (by kernel_rfl) ?_)
                refine sq (o_pv (.bool (decide (i328 < (r73.length : Int)))) rfl (by kernel_rfl) ?_)
                refine nil_ ?_
                refine then_normal (K544 _ _ _ _ ?_)
                refine cond_d (i328 < (r73.length : Int)) (by kernel_rfl) (fun h545 => ?_) (fun h545 => ?_)
                ·
                  replace hp := hp.1 h545
                  refine wp_skip ?_
                  refine then_normal (K543 _ _ _ _ ?_)
                  refine seq_ (fun _ K546 => ?_)
                  refine wp_block ?_
                  refine seq_ (fun _ K547 => ?_)
                  obtain ⟨k635, hk636, hp⟩ := hp
                  refine ground_ ?_
                  refine join_ 178405961586946910917652039274054267965538304 (fun lq w637 => ∃ (X638 : List Nat) (s634 : Bool), (lq = [(146, (.bool s634))]) ∧ (Evo [] w w637) ∧ (Old X638 w637) ∧ (Sub X X638) ∧ (GV X638 w637 0 [(.iface 205 (.agg #[typeHandle Tryd.prog 43]))]) ∧ (Sl r_diff_Match X638 w637 ar78 cr79 r73) ∧ (Sl r_rectoref11_Match X638 w637 ar247 cr248 r243) ∧ (k635 s634)) (fun Kj639 hJ640 => ?_) ?_
                  ·
                    refine reg_drawn (RB w531.heap.size []) 37 (by kernel_rfl) (fun w648 hd649 => ?_)
                    have e650 := Evo.of_drew hd649
                    have z651 : w648.heap.size = w531.heap.size := by rw [hd649]
                    clear hd649
                    have s653 := Step.of0 X532 e650
                    have er652 := RB.refl w531.heap.size [] w648
                    have E654 := (Evo.then0 E537 (Step.evo s653))
                    have hXo655 := (Old.step hXo538 s653)
                    have hS656 := (Sub.trans hS539 (Step.up s653))
                    have gv657 := (GV.step gv540 s653)
                    have hr658 := (Sl.step hr541 s653)
                    have hr659 := (Sl.step hr542 s653)
                    refine r_take 0 (.slice ar78 r73.length cr79) (RB.pre _ _) rfl (by kernel_rfl) (fun _ _ _ h => hQ.panic _ _ _ _ _ h) (.inl ⟨rfl, fun wq hq => (by kernel_rfl)⟩) ?_
                    refine r_take 1 (.int .i64 i328) (RB.pre _ _) rfl (by kernel_rfl) (fun _ _ _ h => hQ.panic _ _ _ _ _ h) (.inl ⟨rfl, fun wq hq => (by kernel_rfl)⟩) ?_
                    obtain ⟨h660, hp⟩ := hp
                    obtain ⟨b661, o662, cs663, ha664, nx665, lt666, ok667, hc668⟩ := Sl.atI hr658 i328 h660
                    obtain ⟨rfl, reA669, reB670, reN671⟩ := r_diff_Match_open ok667
                    replace hp := hp reA669
                    replace hp := hp reB670
                    replace hp := hp reN671
                    refine r_take 2 (.pointer (some ⟨b661, o662 + i328.toNat * 3, none⟩)) (RB.pre _ _) rfl (by kernel_rfl) (fun _ _ _ h => hQ.panic _ _ _ _ _ h) (.inl ⟨rfl, fun wq hq => (x_ixA (m := r73.length) (c := cr79) (k := .i64) (i := i328) Tryd.underlying73 Tryd.sizeOf85 (by rw [← ha664]; kernel_rfl) (by kernel_rfl) h660)⟩) ?_
                    refine r_take 3 (.pointer (some ⟨b661, o662 + i328.toNat * 3, none⟩)) (RB.pre _ _) rfl (by kernel_rfl) (fun _ _ _ h => hQ.panic _ _ _ _ _ h) (.inl ⟨rfl, fun wq hq => (by kernel_rfl)⟩) ?_
                    refine r_take 4 (.int .i64 ((lget r73 i328).A)) (RB.pre _ _) rfl (by kernel_rfl) (fun _ _ _ h => hQ.panic _ _ _ _ _ h) (.inl ⟨rfl, fun wq hq => (x_load1 (by kernel_rfl) Tryd.isAgg3 ((CellsAt.rb hc668 (RB.trans er652 hq) (Nat.lt_of_lt_of_eq lt666 z651) (fun h => by cases h)) 0 _ rfl))⟩) ?_
                    refine r_take 5 (.slice ar247 r243.length cr248) (RB.pre _ _) rfl (by kernel_rfl) (fun _ _ _ h => hQ.panic _ _ _ _ _ h) (.inl ⟨rfl, fun wq hq => (by kernel_rfl)⟩) ?_
                    refine r_take 6 (.int .i64 i328) (RB.pre _ _) rfl (by kernel_rfl) (fun _ _ _ h => hQ.panic _ _ _ _ _ h) (.inl ⟨rfl, fun wq hq => (by kernel_rfl)⟩) ?_
                    obtain ⟨h672, hp⟩ := hp
                    obtain ⟨b673, o674, cs675, ha676, nx677, lt678, ok679, hc680⟩ := Sl.atI hr659 i328 h672
                    obtain ⟨rfl, reA681, reB682, reN683⟩ := r_rectoref11_Match_open ok679
                    replace hp := hp reA681
                    replace hp := hp reB682
                    replace hp := hp reN683
                    refine r_take 7 (.pointer (some ⟨b673, o674 + i328.toNat * 3, none⟩)) (RB.pre _ _) rfl (by kernel_rfl) (fun _ _ _ h => hQ.panic _ _ _ _ _ h) (.inl ⟨rfl, fun wq hq => (x_ixA (m := r243.length) (c := cr248) (k := .i64) (i := i328) Tryd.underlying80 Tryd.sizeOf86 (by rw [← ha676]; kernel_rfl) (by kernel_rfl) h672)⟩) ?_
                    refine r_take 8 (.pointer (some ⟨b673, o674 + i328.toNat * 3, none⟩)) (RB.pre _ _) rfl (by kernel_rfl) (fun _ _ _ h => hQ.panic _ _ _ _ _ h) (.inl ⟨rfl, fun wq hq => (by kernel_rfl)⟩) ?_
                    refine r_take 9 (.int .i64 ((lget r243 i328).A)) (RB.pre _ _) rfl (by kernel_rfl) (fun _ _ _ h => hQ.panic _ _ _ _ _ h) (.inl ⟨rfl, fun wq hq => (x_load1 (by kernel_rfl) Tryd.isAgg3 ((CellsAt.rb hc680 (RB.trans er652 hq) (Nat.lt_of_lt_of_eq lt678 z651) (fun h => by cases h)) 0 _ rfl))⟩) ?_
                    by_cases h684 : ((lget r73 i328).A) = ((lget r243 i328).A)
                    ·
                      replace hp := hp.1 h684
                      refine r_take 10 (.bool false) (RB.pre _ _) rfl (by kernel_rfl) (fun _ _ _ h => hQ.panic _ _ _ _ _ h) (.inl ⟨rfl, fun wq hq => (x_ndf (p := ((lget r73 i328).A) = ((lget r243 i328).A)) (by kernel_rfl) h684)⟩) ?_
                      refine r_take 11 (.bool false) (RB.pre _ _) rfl (by kernel_rfl) (fun _ _ _ h => hQ.panic _ _ _ _ _ h) (.inl ⟨rfl, fun wq hq => (by kernel_rfl)⟩) ?_
                      refine r_take 12 (.slice ar78 r73.length cr79) (RB.pre _ _) rfl (by kernel_rfl) (fun _ _ _ h => hQ.panic _ _ _ _ _ h) (.inl ⟨(by kernel_rfl), fun wq hq => (by kernel_rfl)⟩) ?_
                      refine r_take 13 (.int .i64 i328) (RB.pre _ _) rfl (by kernel_rfl) (fun _ _ _ h => hQ.panic _ _ _ _ _ h) (.inl ⟨(by kernel_rfl), fun wq hq => (by kernel_rfl)⟩) ?_
                      obtain ⟨h685, hp⟩ := hp
                      obtain ⟨b686, o687, cs688, ha689, nx690, lt691, ok692, hc693⟩ := Sl.atI hr658 i328 h685
                      obtain ⟨rfl, reA694, reB695, reN696⟩ := r_diff_Match_open ok692
                      replace hp := hp reA694
                      replace hp := hp reB695
                      replace hp := hp reN696
                      refine r_take 14 (.pointer (some ⟨b686, o687 + i328.toNat * 3, none⟩)) (RB.pre _ _) rfl (by kernel_rfl) (fun _ _ _ h => hQ.panic _ _ _ _ _ h) (.inl ⟨(by kernel_rfl), fun wq hq => (x_ixA (m := r73.length) (c := cr79) (k := .i64) (i := i328) Tryd.underlying73 Tryd.sizeOf85 (by rw [← ha689]; kernel_rfl) (by kernel_rfl) h685)⟩) ?_
                      refine r_take 15 (.pointer (some ⟨b686, o687 + i328.toNat * 3 + 1, none⟩)) (RB.pre _ _) rfl (by kernel_rfl) (fun _ _ _ h => hQ.panic _ _ _ _ _ h) (.inl ⟨(by kernel_rfl), fun wq hq => (by kernel_rfl)⟩) ?_
                      refine r_take 16 (.int .i64 ((lget r73 i328).B)) (RB.pre _ _) rfl (by kernel_rfl) (fun _ _ _ h => hQ.panic _ _ _ _ _ h) (.inl ⟨(by kernel_rfl), fun wq hq => (x_load1 (by kernel_rfl) Tryd.isAgg3 ((CellsAt.rb hc693 (RB.trans er652 hq) (Nat.lt_of_lt_of_eq lt691 z651) (fun h => by cases h)) 1 _ rfl))⟩) ?_
                      refine r_take 17 (.slice ar247 r243.length cr248) (RB.pre _ _) rfl (by kernel_rfl) (fun _ _ _ h => hQ.panic _ _ _ _ _ h) (.inl ⟨(by kernel_rfl), fun wq hq => (by kernel_rfl)⟩) ?_
                      refine r_take 18 (.int .i64 i328) (RB.pre _ _) rfl (by kernel_rfl) (fun _ _ _ h => hQ.panic _ _ _ _ _ h) (.inl ⟨(by kernel_rfl), fun wq hq => (by kernel_rfl)⟩) ?_
                      obtain ⟨h697, hp⟩ := hp
                      obtain ⟨b698, o699, cs700, ha701, nx702, lt703, ok704, hc705⟩ := Sl.atI hr659 i328 h697
                      obtain ⟨rfl, reA706, reB707, reN708⟩ := r_rectoref11_Match_open ok704
                      replace hp := hp reA706
                      replace hp := hp reB707
                      replace hp := hp reN708
                      refine r_take 19 (.pointer (some ⟨b698, o699 + i328.toNat * 3, none⟩)) (RB.pre _ _) rfl (by kernel_rfl) (fun _ _ _ h => hQ.panic _ _ _ _ _ h) (.inl ⟨(by kernel_rfl), fun wq hq => (x_ixA (m := r243.length) (c := cr248) (k := .i64) (i := i328) Tryd.underlying80 Tryd.sizeOf86 (by rw [← ha701]; kernel_rfl) (by kernel_rfl) h697)⟩) ?_
                      refine r_take 20 (.pointer (some ⟨b698, o699 + i328.toNat * 3 + 1, none⟩)) (RB.pre _ _) rfl (by kernel_rfl) (fun _ _ _ h => hQ.panic _ _ _ _ _ h) (.inl ⟨(by kernel_rfl), fun wq hq => (by kernel_rfl)⟩) ?_
                      refine r_take 21 (.int .i64 ((lget r243 i328).B)) (RB.pre _ _) rfl (by kernel_rfl) (fun _ _ _ h => hQ.panic _ _ _ _ _ h) (.inl ⟨(by kernel_rfl), fun wq hq => (x_load1 (by kernel_rfl) Tryd.isAgg3 ((CellsAt.rb hc705 (RB.trans er652 hq) (Nat.lt_of_lt_of_eq lt703 z651) (fun h => by cases h)) 1 _ rfl))⟩) ?_
                      by_cases h709 : ((lget r73 i328).B) = ((lget r243 i328).B)
                      ·
                        replace hp := hp.1 h709
                        refine r_take 22 (.bool false) (RB.pre _ _) rfl (by kernel_rfl) (fun _ _ _ h => hQ.panic _ _ _ _ _ h) (.inl ⟨(by kernel_rfl), fun wq hq => (x_ndf (p := ((lget r73 i328).B) = ((lget r243 i328).B)) (by kernel_rfl) h709)⟩) ?_
                        refine r_take 23 (.bool false) (RB.pre _ _) rfl (by kernel_rfl) (fun _ _ _ h => hQ.panic _ _ _ _ _ h) (.inl ⟨rfl, fun wq hq => (by kernel_rfl)⟩) ?_
                        refine r_take 24 (.bool false) (RB.pre _ _) rfl (by kernel_rfl) (fun _ _ _ h => hQ.panic _ _ _ _ _ h) (.inl ⟨rfl, fun wq hq => (by kernel_rfl)⟩) ?_
                        refine r_take 25 (.slice ar78 r73.length cr79) (RB.pre _ _) rfl (by kernel_rfl) (fun _ _ _ h => hQ.panic _ _ _ _ _ h) (.inl ⟨(by kernel_rfl), fun wq hq => (by kernel_rfl)⟩) ?_
                        refine r_take 26 (.int .i64 i328) (RB.pre _ _) rfl (by kernel_rfl) (fun _ _ _ h => hQ.panic _ _ _ _ _ h) (.inl ⟨(by kernel_rfl), fun wq hq => (by kernel_rfl)⟩) ?_
                        obtain ⟨h710, hp⟩ := hp
                        obtain ⟨b711, o712, cs713, ha714, nx715, lt716, ok717, hc718⟩ := Sl.atI hr658 i328 h710
                        obtain ⟨rfl, reA719, reB720, reN721⟩ := r_diff_Match_open ok717
                        replace hp := hp reA719
                        replace hp := hp reB720
                        replace hp := hp reN721
                        refine r_take 27 (.pointer (some ⟨b711, o712 + i328.toNat * 3, none⟩)) (RB.pre _ _) rfl (by kernel_rfl) (fun _ _ _ h => hQ.panic _ _ _ _ _ h) (.inl ⟨(by kernel_rfl), fun wq hq => (x_ixA (m := r73.length) (c := cr79) (k := .i64) (i := i328) Tryd.underlying73 Tryd.sizeOf85 (by rw [← ha714]; kernel_rfl) (by kernel_rfl) h710)⟩) ?_
                        refine r_take 28 (.pointer (some ⟨b711, o712 + i328.toNat * 3 + 2, none⟩)) (RB.pre _ _) rfl (by kernel_rfl) (fun _ _ _ h => hQ.panic _ _ _ _ _ h) (.inl ⟨(by kernel_rfl), fun wq hq => (by kernel_rfl)⟩) ?_
                        refine r_take 29 (.int .i64 ((lget r73 i328).N)) (RB.pre _ _) rfl (by kernel_rfl) (fun _ _ _ h => hQ.panic _ _ _ _ _ h) (.inl ⟨(by kernel_rfl), fun wq hq => (x_load1 (by kernel_rfl) Tryd.isAgg3 ((CellsAt.rb hc718 (RB.trans er652 hq) (Nat.lt_of_lt_of_eq lt716 z651) (fun h => by cases h)) 2 _ rfl))⟩) ?_
                        refine r_take 30 (.slice ar247 r243.length cr248) (RB.pre _ _) rfl (by kernel_rfl) (fun _ _ _ h => hQ.panic _ _ _ _ _ h) (.inl ⟨(by kernel_rfl), fun wq hq => (by kernel_rfl)⟩) ?_
                        refine r_take 31 (.int .i64 i328) (RB.pre _ _) rfl (by kernel_rfl) (fun _ _ _ h => hQ.panic _ _ _ _ _ h) (.inl ⟨(by kernel_rfl), fun wq hq => (by kernel_rfl)⟩) ?_
                        obtain ⟨h722, hp⟩ := hp
                        obtain ⟨b723, o724, cs725, ha726, nx727, lt728, ok729, hc730⟩ := Sl.atI hr659 i328 h722
                        obtain ⟨rfl, reA731, reB732, reN733⟩ := r_rectoref11_Match_open ok729
                        replace hp := hp reA731
                        replace hp := hp reB732
                        replace hp := hp reN733
                        refine r_take 32 (.pointer (some ⟨b723, o724 + i328.toNat * 3, none⟩)) (RB.pre _ _) rfl (by kernel_rfl) (fun _ _ _ h => hQ.panic _ _ _ _ _ h) (.inl ⟨(by kernel_rfl), fun wq hq => (x_ixA (m := r243.length) (c := cr248) (k := .i64) (i := i328) Tryd.underlying80 Tryd.sizeOf86 (by rw [← ha726]; kernel_rfl) (by kernel_rfl) h722)⟩) ?_
                        refine r_take 33 (.pointer (some ⟨b723, o724 + i328.toNat * 3 + 2, none⟩)) (RB.pre _ _) rfl (by kernel_rfl) (fun _ _ _ h => hQ.panic _ _ _ _ _ h) (.inl ⟨(by kernel_rfl), fun wq hq => (by kernel_rfl)⟩) ?_
                        refine r_take 34 (.int .i64 ((lget r243 i328).N)) (RB.pre _ _) rfl (by kernel_rfl) (fun _ _ _ h => hQ.panic _ _ _ _ _ h) (.inl ⟨(by kernel_rfl), fun wq hq => (x_load1 (by kernel_rfl) Tryd.isAgg3 ((CellsAt.rb hc730 (RB.trans er652 hq) (Nat.lt_of_lt_of_eq lt728 z651) (fun h => by cases h)) 2 _ rfl))⟩) ?_
                        refine r_take 35 (.bool (!decide (((lget r73 i328).N) = ((lget r243 i328).N)))) (RB.pre _ _) rfl (by kernel_rfl) (fun _ _ _ h => hQ.panic _ _ _ _ _ h) (.inl ⟨(by kernel_rfl), fun wq hq => (by kernel_rfl)⟩) ?_
                        refine r_take 36 (.bool (!decide (((lget r73 i328).N) = ((lget r243 i328).N)))) (RB.pre _ _) rfl (by kernel_rfl) (fun _ _ _ h => hQ.panic _ _ _ _ _ h) (.inl ⟨rfl, fun wq hq => (by kernel_rfl)⟩) ?_
                        refine r_done (by kernel_rfl) ?_
                        refine then_normal (hJ640 _ _ _ ⟨[(146, (.bool (!decide (((lget r73 i328).N) = ((lget r243 i328).N)))))], fit_mk (fun _ _ => rfl) (by kernel_rfl) (vs_cons (by kernel_rfl) vs_nil), ?_⟩)
                        exact ⟨X532, (!decide (((lget r73 i328).N) = ((lget r243 i328).N))), rfl, E654, hXo655, hS656, gv657, hr658, hr659, hp⟩
                      ·
                        replace hp := hp.2 h709
                        refine r_take 22 (.bool true) (RB.pre _ _) rfl (by kernel_rfl) (fun _ _ _ h => hQ.panic _ _ _ _ _ h) (.inl ⟨(by kernel_rfl), fun wq hq => (x_ndt (p := ((lget r73 i328).B) = ((lget r243 i328).B)) (by kernel_rfl) h709)⟩) ?_
                        refine r_take 23 (.bool true) (RB.pre _ _) rfl (by kernel_rfl) (fun _ _ _ h => hQ.panic _ _ _ _ _ h) (.inl ⟨rfl, fun wq hq => (by kernel_rfl)⟩) ?_
                        refine r_take 24 (.bool true) (RB.pre _ _) rfl (by kernel_rfl) (fun _ _ _ h => hQ.panic _ _ _ _ _ h) (.inl ⟨rfl, fun wq hq => (by kernel_rfl)⟩) ?_
                        refine r_take 25 undef (RB.pre _ _) rfl (by kernel_rfl) (fun _ _ _ h => hQ.panic _ _ _ _ _ h) (.inr ⟨by kernel_rfl, rfl⟩) ?_
                        refine r_take 26 undef (RB.pre _ _) rfl (by kernel_rfl) (fun _ _ _ h => hQ.panic _ _ _ _ _ h) (.inr ⟨by kernel_rfl, rfl⟩) ?_
                        refine r_take 27 undef (RB.pre _ _) rfl (by kernel_rfl) (fun _ _ _ h => hQ.panic _ _ _ _ _ h) (.inr ⟨by kernel_rfl, rfl⟩) ?_
                        refine r_take 28 undef (RB.pre _ _) rfl (by kernel_rfl) (fun _ _ _ h => hQ.panic _ _ _ _ _ h) (.inr ⟨by kernel_rfl, rfl⟩) ?_
                        refine r_take 29 undef (RB.pre _ _) rfl (by kernel_rfl) (fun _ _ _ h => hQ.panic _ _ _ _ _ h) (.inr ⟨by kernel_rfl, rfl⟩) ?_
                        refine r_take 30 undef (RB.pre _ _) rfl (by kernel_rfl) (fun _ _ _ h => hQ.panic _ _ _ _ _ h) (.inr ⟨by kernel_rfl, rfl⟩) ?_
                        refine r_take 31 undef (RB.pre _ _) rfl (by kernel_rfl) (fun _ _ _ h => hQ.panic _ _ _ _ _ h) (.inr ⟨by kernel_rfl, rfl⟩) ?_
                        refine r_take 32 undef (RB.pre _ _) rfl (by kernel_rfl) (fun _ _ _ h => hQ.panic _ _ _ _ _ h) (.inr ⟨by kernel_rfl, rfl⟩) ?_
                        refine r_take 33 undef (RB.pre _ _) rfl (by kernel_rfl) (fun _ _ _ h => hQ.panic _ _ _ _ _ h) (.inr ⟨by kernel_rfl, rfl⟩) ?_
                        refine r_take 34 undef (RB.pre _ _) rfl (by kernel_rfl) (fun _ _ _ h => hQ.panic _ _ _ _ _ h) (.inr ⟨by kernel_rfl, rfl⟩) ?_
                        refine r_take 35 undef (RB.pre _ _) rfl (by kernel_rfl) (fun _ _ _ h => hQ.panic _ _ _ _ _ h) (.inr ⟨by kernel_rfl, rfl⟩) ?_
                        refine r_take 36 (.bool true) (RB.pre _ _) rfl (by kernel_rfl) (fun _ _ _ h => hQ.panic _ _ _ _ _ h) (.inl ⟨rfl, fun wq hq => (by kernel_rfl)⟩) ?_
                        refine r_done (by kernel_rfl) ?_
                        refine then_normal (hJ640 _ _ _ ⟨[(146, (.bool true))], fit_mk (fun _ _ => rfl) (by kernel_rfl) (vs_cons (by kernel_rfl) vs_nil), ?_⟩)
                        exact ⟨X532, true, rfl, E654, hXo655, hS656, gv657, hr658, hr659, hp⟩
                    ·
                      replace hp := hp.2 h684
                      refine r_take 10 (.bool true) (RB.pre _ _) rfl (by kernel_rfl) (fun _ _ _ h => hQ.panic _ _ _ _ _ h) (.inl ⟨rfl, fun wq hq => (x_ndt (p := ((lget r73 i328).A) = ((lget r243 i328).A)) (by kernel_rfl) h684)⟩) ?_
                      refine r_take 11 (.bool true) (RB.pre _ _) rfl (by kernel_rfl) (fun _ _ _ h => hQ.panic _ _ _ _ _ h) (.inl ⟨rfl, fun wq hq => (by kernel_rfl)⟩) ?_
                      refine r_take 12 undef (RB.pre _ _) rfl (by kernel_rfl) (fun _ _ _ h => hQ.panic _ _ _ _ _ h) (.inr ⟨by kernel_rfl, rfl⟩) ?_
                      refine r_take 13 undef (RB.pre _ _) rfl (by kernel_rfl) (fun _ _ _ h => hQ.panic _ _ _ _ _ h) (.inr ⟨by kernel_rfl, rfl⟩) ?_
                      refine r_take 14 undef (RB.pre _ _) rfl (by kernel_rfl) (fun _ _ _ h => hQ.panic _ _ _ _ _ h) (.inr ⟨by kernel_rfl, rfl⟩) ?_
                      refine r_take 15 undef (RB.pre _ _) rfl (by kernel_rfl) (fun _ _ _ h => hQ.panic _ _ _ _ _ h) (.inr ⟨by kernel_rfl, rfl⟩) ?_
                      refine r_take 16 undef (RB.pre _ _) rfl (by kernel_rfl) (fun _ _ _ h => hQ.panic _ _ _ _ _ h) (.inr ⟨by kernel_rfl, rfl⟩) ?_
                      refine r_take 17 undef (RB.pre _ _) rfl (by kernel_rfl) (fun _ _ _ h => hQ.panic _ _ _ _ _ h) (.inr ⟨by kernel_rfl, rfl⟩) ?_
                      refine r_take 18 undef (RB.pre _ _) rfl (by kernel_rfl) (fun _ _ _ h => hQ.panic _ _ _ _ _ h) (.inr ⟨by kernel_rfl, rfl⟩) ?_
                      refine r_take 19 undef (RB.pre _ _) rfl (by kernel_rfl) (fun _ _ _ h => hQ.panic _ _ _ _ _ h) (.inr ⟨by kernel_rfl, rfl⟩) ?_
                      refine r_take 20 undef (RB.pre _ _) rfl (by kernel_rfl) (fun _ _ _ h => hQ.panic _ _ _ _ _ h) (.inr ⟨by kernel_rfl, rfl⟩) ?_
                      refine r_take 21 undef (RB.pre _ _) rfl (by kernel_rfl) (fun _ _ _ h => hQ.panic _ _ _ _ _ h) (.inr ⟨by kernel_rfl, rfl⟩) ?_
                      refine r_take 22 undef (RB.pre _ _) rfl (by kernel_rfl) (fun _ _ _ h => hQ.panic _ _ _ _ _ h) (.inr ⟨by kernel_rfl, rfl⟩) ?_
                      refine r_take 23 (.bool true) (RB.pre _ _) rfl (by kernel_rfl) (fun _ _ _ h => hQ.panic _ _ _ _ _ h) (.inl ⟨rfl, fun wq hq => (by kernel_rfl)⟩) ?_
                      refine r_take 24 (.bool true) (RB.pre _ _) rfl (by kernel_rfl) (fun _ _ _ h => hQ.panic _ _ _ _ _ h) (.inl ⟨rfl, fun wq hq => (by kernel_rfl)⟩) ?_
                      refine r_take 25 undef (RB.pre _ _) rfl (by kernel_rfl) (fun _ _ _ h => hQ.panic _ _ _ _ _ h) (.inr ⟨by kernel_rfl, rfl⟩) ?_
                      refine r_take 26 undef (RB.pre _ _) rfl (by kernel_rfl) (fun _ _ _ h => hQ.panic _ _ _ _ _ h) (.inr ⟨by kernel_rfl, rfl⟩) ?_
                      refine r_take 27 undef (RB.pre _ _) rfl (by kernel_rfl) (fun _ _ _ h => hQ.panic _ _ _ _ _ h) (.inr ⟨by kernel_rfl, rfl⟩) ?_
                      refine r_take 28 undef (RB.pre _ _) rfl (by kernel_rfl) (fun _ _ _ h => hQ.panic _ _ _ _ _ h) (.inr ⟨by kernel_rfl, rfl⟩) ?_
                      refine r_take 29 undef (RB.pre _ _) rfl (by kernel_rfl) (fun _ _ _ h => hQ.panic _ _ _ _ _ h) (.inr ⟨by kernel_rfl, rfl⟩) ?_
                      refine r_take 30 undef (RB.pre _ _) rfl (by kernel_rfl) (fun _ _ _ h => hQ.panic _ _ _ _ _ h) (.inr ⟨by kernel_rfl, rfl⟩) ?_
                      refine r_take 31 undef (RB.pre _ _) rfl (by kernel_rfl) (fun _ _ _ h => hQ.panic _ _ _ _ _ h) (.inr ⟨by kernel_rfl, rfl⟩) ?_
                      refine r_take 32 undef (RB.pre _ _) rfl (by kernel_rfl) (fun _ _ _ h => hQ.panic _ _ _ _ _ h) (.inr ⟨by kernel_rfl, rfl⟩) ?_
                      refine r_take 33 undef (RB.pre _ _) rfl (by kernel_rfl) (fun _ _ _ h => hQ.panic _ _ _ _ _ h) (.inr ⟨by kernel_rfl, rfl⟩) ?_
                      refine r_take 34 undef (RB.pre _ _) rfl (by kernel_rfl) (fun _ _ _ h => hQ.panic _ _ _ _ _ h) (.inr ⟨by kernel_rfl, rfl⟩) ?_
                      refine r_take 35 undef (RB.pre _ _) rfl (by kernel_rfl) (fun _ _ _ h => hQ.panic _ _ _ _ _ h) (.inr ⟨by kernel_rfl, rfl⟩) ?_
                      refine r_take 36 (.bool true) (RB.pre _ _) rfl (by kernel_rfl) (fun _ _ _ h => hQ.panic _ _ _ _ _ h) (.inl ⟨rfl, fun wq hq => (by kernel_rfl)⟩) ?_
                      refine r_done (by kernel_rfl) ?_
                      refine then_normal (hJ640 _ _ _ ⟨[(146, (.bool true))], fit_mk (fun _ _ => rfl) (by kernel_rfl) (vs_cons (by kernel_rfl) vs_nil), ?_⟩)
                      exact ⟨X532, true, rfl, E654, hXo655, hS656, gv657, hr658, hr659, hp⟩
                  ·
                    rintro _ w637 g734 ⟨X638, s634, rfl, E642, hXo643, hS644, gv645, hr646, hr647, hv641⟩
                    replace hp := hk636 s634 hv641
                    refine then_normal (K547 _ _ _ _ ?_)
                    refine cond_b s634 (by kernel_rfl) (fun h735 => ?_) (fun h735 => ?_)
                    ·
                      replace hp := hp.1 h735
                      refine seq_ (fun _ K736 => ?_)
                      refine reg_ ?_
                      refine sq (o_pv (.bool false) rfl (by kernel_rfl) ?_)
                      refine nil_ ?_
                      refine then_normal (K736 _ _ _ _ ?_)
                      refine wp_ret ?_
                      refine blk_ret ?_
                      refine then_ret ?_
                      refine then_ret ?_
                      refine blk_ret ?_
                      refine then_ret ?_
                      refine end_ret hQ (.bool false) (by kernel_rfl) ?_
                      exact ⟨false, hp, E642, rfl⟩
                    ·
                      replace hp := hp.2 h735
                      refine wp_skip ?_
                      refine blk_normal ?_
                      refine then_normal (K546 _ _ _ _ ?_)
                      refine reg_ ?_
                      refine sq (o_pv (.int .i64 i328) rfl (by kernel_rfl) ?_)
                      obtain ⟨h737, hp⟩ := hp
                      refine sq (o_pv (.int .i64 (i328 + (1 : Int))) rfl (x_add2 (k := .i64) (a := i328) (b := (1 : Int)) (i328 + (1 : Int)) (by kernel_rfl) (by kernel_rfl) (wrap_inR h737)) ?_)
                      refine sq (o_pv (.int .i64 (i328 + (1 : Int))) rfl (by kernel_rfl) ?_)
                      refine nil_ ?_
                      refine then_normal (hA536 _ _ _ ⟨_, [(14, (.int .i64 (i328 + (1 : Int))))], hp.2, fit_mk (AgB.nest (AgB.look (AgB.mix _ _ _) (by kernel_rfl)) (by kernel_rfl) (by kernel_rfl)) (by kernel_rfl) (vs_cons (by kernel_rfl) vs_nil), ?_⟩)
                      exact ⟨X638, (i328 + (1 : Int)), rfl, rfl, E642, hXo643, hS644, gv645, hr646, hr647, h737, hp.1⟩
                ·
                  replace hp := hp.2 h545
                  refine wp_exit ?_
                  refine then_exit ?_
                  refine then_exit ?_
                  refine blk_exit ?_
                  refine then_normal (K326 _ _ _ _ ?_)
                  refine seq_ (fun _ K738 => ?_)
                  refine reg_ ?_
                  refine sq (o_pv (.bool true) rfl (by kernel_rfl) ?_)
                  refine nil_ ?_
                  refine then_normal (K738 _ _ _ _ ?_)
                  refine wp_ret ?_
                  refine end_ret hQ (.bool true) (by kernel_rfl) ?_
                  exact ⟨true, hp, E537, rfl⟩

end Go.Proofs.YtkmenljohhngjaaDoor
