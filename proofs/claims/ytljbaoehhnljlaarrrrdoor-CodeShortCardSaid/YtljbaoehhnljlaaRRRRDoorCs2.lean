/- Walks of functions: what each asks and computes, as a plain predicate, and the contract from it. -/
import Derived.Test.YtljbaoehhnljlaaRRRRDoorChecked
import Derived.Test.YtljbaoehhnljlaaRRRRDoorCs1
namespace Go.Proofs.YtljbaoehhnljlaaRRRRDoor
open Go


def rectolaw3_known_p (Q : Bool → Prop) : Prop :=
  (codec_Enc_Int_p (S_codec_Enc.mk ([] : List Int)) ([(150 : Int), (-1 : Int)]) (fun (e35 : S_codec_Enc) => (codec_Enc_Text_p e35 ([(ByteArray.mk #[97, 98])]) (fun (e66 : S_codec_Enc) => (codec_Enc_Bytes_p e66 (fun (e79 : S_codec_Enc) (r80 : (List Int)) => ((r80.length ≤ 9223372036854775807) → (codec_Of_p r80 (fun (r95 : S_codec_Dec) => (codec_Dec_Int_p r95 (fun (d114 : S_codec_Dec) (r115 : Int) => ((inR .i64 r115) → (codec_Dec_Int_p d114 (fun (d132 : S_codec_Dec) (r133 : Int) => ((inR .i64 r133) → (codec_Dec_Text_p d132 (fun (d150 : S_codec_Dec) (r151 : ByteArray) => ((r151.size ≤ maxLen) → (∃ k223 : Bool → Prop, (∀ (s222 : Bool), k223 s222 → Q s222) ∧ (codec_Enc_Bytes_p e79 (fun (e240 : S_codec_Enc) (r241 : (List Int)) => ((r241.length ≤ 9223372036854775807) → ((((strOfNums r241 : ByteArray) = (ByteArray.mk #[172, 2, 1, 4, 97, 98])) → (((r115 = (150 : Int)) → (((r133 = (-1 : Int)) → ((((r151 : ByteArray) = (ByteArray.mk #[97, 98])) → (codec_Dec_Left_p d150 (fun (d264 : S_codec_Dec) (r265 : Int) => ((inR .i64 r265) → (((r265 = (0 : Int)) → (codec_Dec_Err_p d264 (fun (d283 : S_codec_Dec) (r284 : PErr) => (k223 r284.isNil)))) ∧ ((¬ (r265 = (0 : Int))) → (k223 false))))))) ∧ ((¬ ((r151 : ByteArray) = (ByteArray.mk #[97, 98]))) → (k223 false)))) ∧ ((¬ (r133 = (-1 : Int))) → (k223 false)))) ∧ ((¬ (r115 = (150 : Int))) → (k223 false)))) ∧ ((¬ ((strOfNums r241 : ByteArray) = (ByteArray.mk #[172, 2, 1, 4, 97, 98]))) → (k223 false)))))))))))))))))))))))))
set_option maxRecDepth 20000 in
set_option maxHeartbeats 4000000 in
theorem rectolaw3_known_w {X : List Nat} {w : World} {Q : Bool → Prop} (hX0 : Old X w) (hp : rectolaw3_known_p Q) :
    Calls Tryd.prog 21 #[] w (Ret fun v w' => ∃ (r0 : Bool), Q r0 ∧ Evo [] w w' ∧ v = (.bool r0)) := by
  have hXo := hX0
  have E0 : Evo [] w w := RB.refl _ _ _
  have hS : Sub X X := Sub.refl _
  unfold rectolaw3_known_p at hp
  refine enter_ Tryd.func21 rfl 51 [] (by kernel_rfl) (fun Qe hQ => ?_)
  refine seq_ (fun _ K1 => ?_)
  refine reg_ ?_
  refine sq (o_pv (.bool false) rfl (by kernel_rfl) ?_)
  refine nil_ ?_
  refine then_normal (K1 _ _ _ _ ?_)
  refine seq_ (fun _ K2 => ?_)
  refine reg_ ?_
  refine sq (o_pv (.agg #[(.slice none 0 0)]) rfl (by kernel_rfl) ?_)
  refine sq (o_newX [(.slice none 0 0)] 68 (X := X) (B := w.heap.size) E0.size rfl (by kernel_rfl) ?_)
  intro b3 w4 X5 s6 k7 n8
  refine sq (o_pv (.pointer (some ⟨b3, 0, none⟩)) rfl (by kernel_rfl) ?_)
  refine nil_ ?_
  refine then_normal (K2 _ _ _ _ ?_)
  refine seq_ (fun _ K9 => ?_)
  refine reg_ ?_
  refine sq (o_pv (.pointer (some ⟨b3, 0, none⟩)) rfl (by kernel_rfl) ?_)
  have E16 := (Evo.then0 E0 (Step.evo s6))
  refine sq (o_rowX (R := (rInt .i64)) [(.int .i64 (150 : Int)), (.int .i64 (-1 : Int))] [(150 : Int), (-1 : Int)] 3 2 (X := X5) (B := w.heap.size) E16.size rfl (by kernel_rfl) (Flat.cons (cs := [(.int .i64 (150 : Int))]) (rInt_mk (by decide)) (Flat.cons (cs := [(.int .i64 (-1 : Int))]) (rInt_mk (by decide)) Flat.nil)) rfl (by decide) ?_)
  intro b10 w11 X12 s13 O14 n15
  have p17 := n15 _ (OB.old k7)
  have hXo18 := (Old.step (Old.step hXo s6) s13)
  have E19 := (Evo.then0 E16 (Step.evo s13))
  have hS20 := (Sub.trans (Sub.trans hS (Step.up s6)) (Step.up s13))
  have k21 := (OB.step0 k7 s13)
  obtain ⟨F22, m23, hs24⟩ := MO.pack (o_codec_Enc_mk k21 (OS.nil2 _ _ _ _ _) (Ap.nil_r _))
  have p25 := hs24 _ (Ap.cons (Ap.symm p17) (Ap.nil_r _))
  have ax30 := OS.apold O14 hX0
  obtain ⟨X26, u27, r28, hm29⟩ := OS.release O14
  have hXo31 := (Old.less hXo18 u27)
  have E32 := E19
  have hS33 := (hm29 _ ax30 hS20)
  have m34 := (MO.less m23 u27 (hm29 _ (Ap.symm p25) (MO.mem m23)))
  refine sq (o_call 30 #[(.pointer (some ⟨b3, 0, none⟩)), (.slice (some ⟨b10, 0, none⟩) ([(150 : Int), (-1 : Int)]).length 2)] rfl (x_call Tryd.call30 (by rw [← show 2 = ([(150 : Int), (-1 : Int)]).length from O14.1]; kernel_rfl)) (codec_Enc_Int_w (X := X26) (e := (S_codec_Enc.mk ([] : List Int))) (l := [(150 : Int), (-1 : Int)]) hXo31 (MO.re m34 (Wr.self _ _ (Sub.refl _))) r28 hp) ?_)
  rintro _ w36 ⟨e35, hp, X37, F39, s38, rfl, m40⟩
  have m41 := MO.re m40 (Wr.trans m40.wr m34.wr E32.size)
  refine nil_ ?_
  refine then_normal (K9 _ _ _ _ ?_)
  refine seq_ (fun _ K42 => ?_)
  refine reg_ ?_
  refine sq (o_pv (.pointer (some ⟨b3, 0, none⟩)) rfl (by kernel_rfl) ?_)
  have E49 := (Evo.thenW E32 (Step.evo s38) m34.wr)
  refine sq (o_rowX (R := rStr) [(.string (ByteArray.mk #[97, 98]))] [(ByteArray.mk #[97, 98])] 9 1 (X := X37) (B := w.heap.size) E49.size rfl (by kernel_rfl) (Flat.cons (cs := [(.string (ByteArray.mk #[97, 98]))]) (rStr_mk (by decide)) Flat.nil) rfl (by decide) ?_)
  intro b43 w44 X45 s46 O47 n48
  have p50 := n48 _ (MO.old m41)
  have hS51 := (Sub.trans (Sub.trans hS33 (Step.up s38)) (Step.up s46))
  have hXo57 := (Old.step (Old.step hXo31 s38) s46)
  have E58 := (Evo.then0 E49 (Step.evo s46))
  have r59 := (Sl.step (Sl.step r28 s38) s46)
  have m60 := (MO.step0 m41 s46)
  have ax56 := OS.apold O47 hX0
  obtain ⟨X52, u53, r54, hm55⟩ := OS.release O47
  have hXo61 := (Old.less hXo57 u53)
  have E62 := E58
  have hS63 := (hm55 _ ax56 hS51)
  have r64 := (Sl.less r59 u53)
  have m65 := (MO.less m60 u53 (hm55 _ p50 (MO.mem m60)))
  refine sq (o_call 48 #[(.pointer (some ⟨b3, 0, none⟩)), (.slice (some ⟨b43, 0, none⟩) ([(ByteArray.mk #[97, 98])]).length 1)] rfl (x_call Tryd.call48 (by rw [← show 1 = ([(ByteArray.mk #[97, 98])]).length from O47.1]; kernel_rfl)) (codec_Enc_Text_w (X := X52) (e := e35) (l := [(ByteArray.mk #[97, 98])]) hXo61 (MO.re m65 (Wr.self _ _ (Sub.refl _))) r54 hp) ?_)
  rintro _ w67 ⟨e66, hp, X68, F70, s69, rfl, m71⟩
  have m72 := MO.re m71 (Wr.trans m71.wr m65.wr E62.size)
  refine nil_ ?_
  refine then_normal (K42 _ _ _ _ ?_)
  refine seq_ (fun _ K73 => ?_)
  refine reg_ ?_
  refine sq (o_pv (.pointer (some ⟨b3, 0, none⟩)) rfl (by kernel_rfl) ?_)
  have hXo74 := (Old.step hXo61 s69)
  have E75 := (Evo.thenW E62 (Step.evo s69) m65.wr)
  have hS76 := (Sub.trans hS63 (Step.up s69))
  have r77 := (Sl.step r64 s69)
  have r78 := (Sl.step r54 s69)
  refine sq (o_call 32 #[(.pointer (some ⟨b3, 0, none⟩))] rfl (x_call Tryd.call32 (by kernel_rfl)) (codec_Enc_Bytes_w (X := X68) (e := e66) hXo74 (MO.re m72 (Wr.self _ _ (Sub.refl _))) hp) ?_)
  rintro _ w81 ⟨e79, r80, hp, X82, F84, ar86, cr87, s83, rfl, m85, hr88⟩
  have m89 := MO.re m85 (Wr.trans m85.wr m72.wr E75.size)
  replace hp := hp (Sl.len hr88)
  have hXo90 := (Old.step hXo74 s83)
  have E91 := (Evo.thenW E75 (Step.evo s83) m72.wr)
  have hS92 := (Sub.trans hS76 (Step.up s83))
  have r93 := (Sl.step r77 s83)
  have r94 := (Sl.step r78 s83)
  refine sq (o_call 22 #[(.slice ar86 r80.length cr87)] rfl (x_call Tryd.call22 (by kernel_rfl)) (codec_Of_w (X := X82) (b := r80) hXo90 hr88 hp) ?_)
  rintro _ w96 ⟨r95, hp, X97, br99, Fr100, s98, rfl, mr101⟩
  have m102 := MO.re mr101 (Wr.trans mr101.wr (Wr.nil [] _) E91.size)
  have p103 := Ap.grow mr101.wr (Ap.nil_r _) (MO.old m89) (Nat.le_refl _)
  refine sq (o_pv (.pointer (some ⟨br99, 0, none⟩)) rfl (by kernel_rfl) ?_)
  refine nil_ ?_
  refine then_normal (K73 _ _ _ _ ?_)
  refine seq_ (fun _ K104 => ?_)
  refine seq_ (fun _ K105 => ?_)
  refine reg_ ?_
  refine sq (o_pv (.pointer (some ⟨br99, 0, none⟩)) rfl (by kernel_rfl) ?_)
  refine sq (o_pv (.bool false) rfl (x_pnil_eq (a := ⟨br99, 0, none⟩) Tryd.underlying57 (by kernel_rfl) (by kernel_rfl)) ?_)
  refine nil_ ?_
  refine then_normal (K105 _ _ _ _ ?_)
  refine cond_f (by kernel_rfl) ?_
  refine wp_skip ?_
  refine then_normal (K104 _ _ _ _ ?_)
  refine seq_ (fun _ K106 => ?_)
  refine reg_ ?_
  refine sq (o_pv (.pointer (some ⟨br99, 0, none⟩)) rfl (by kernel_rfl) ?_)
  have hXo107 := (Old.step hXo90 s98)
  have E108 := (Evo.then0 E91 (Step.evo s98))
  have hS109 := (Sub.trans hS92 (Step.up s98))
  have r110 := (Sl.step r93 s98)
  have r111 := (Sl.step r94 s98)
  have m112 := (MO.step0 m89 s98)
  have hr113 := (Sl.step hr88 s98)
  refine sq (o_call 23 #[(.pointer (some ⟨br99, 0, none⟩))] rfl (x_call Tryd.call23 (by kernel_rfl)) (codec_Dec_Int_w (X := X97) (d := r95) hXo107 (MO.re m102 (Wr.self _ _ (Sub.refl _))) hp) ?_)
  rintro _ w116 ⟨d114, r115, hp, X117, F119, s118, rfl, m120, rr121⟩
  have m122 := MO.re m120 (Wr.trans m120.wr m102.wr E108.size)
  have p123 := Ap.grow m120.wr p103 (MO.old m112) (Nat.le_refl _)
  replace hp := hp rr121
  refine sq (o_pv (.int .i64 r115) rfl (by kernel_rfl) ?_)
  refine nil_ ?_
  refine then_normal (K106 _ _ _ _ ?_)
  refine seq_ (fun _ K124 => ?_)
  refine reg_ ?_
  refine sq (o_pv (.pointer (some ⟨br99, 0, none⟩)) rfl (by kernel_rfl) ?_)
  have hXo125 := (Old.step hXo107 s118)
  have E126 := (Evo.thenW E108 (Step.evo s118) m102.wr)
  have hS127 := (Sub.trans hS109 (Step.up s118))
  have r128 := (Sl.step r110 s118)
  have r129 := (Sl.step r111 s118)
  have m130 := (MO.step m112 s118 p103)
  have hr131 := (Sl.step hr113 s118)
  refine sq (o_call 23 #[(.pointer (some ⟨br99, 0, none⟩))] rfl (x_call Tryd.call23 (by kernel_rfl)) (codec_Dec_Int_w (X := X117) (d := d114) hXo125 (MO.re m122 (Wr.self _ _ (Sub.refl _))) hp) ?_)
  rintro _ w134 ⟨d132, r133, hp, X135, F137, s136, rfl, m138, rr139⟩
  have m140 := MO.re m138 (Wr.trans m138.wr m122.wr E126.size)
  have p141 := Ap.grow m138.wr p123 (MO.old m130) (Nat.le_refl _)
  replace hp := hp rr139
  refine sq (o_pv (.int .i64 r133) rfl (by kernel_rfl) ?_)
  refine nil_ ?_
  refine then_normal (K124 _ _ _ _ ?_)
  refine seq_ (fun _ K142 => ?_)
  refine reg_ ?_
  refine sq (o_pv (.pointer (some ⟨br99, 0, none⟩)) rfl (by kernel_rfl) ?_)
  have hXo143 := (Old.step hXo125 s136)
  have E144 := (Evo.thenW E126 (Step.evo s136) m122.wr)
  have hS145 := (Sub.trans hS127 (Step.up s136))
  have r146 := (Sl.step r128 s136)
  have r147 := (Sl.step r129 s136)
  have m148 := (MO.step m130 s136 p123)
  have hr149 := (Sl.step hr131 s136)
  refine sq (o_call 25 #[(.pointer (some ⟨br99, 0, none⟩))] rfl (x_call Tryd.call25 (by kernel_rfl)) (codec_Dec_Text_w (X := X135) (d := d132) hXo143 (MO.re m140 (Wr.self _ _ (Sub.refl _))) hp) ?_)
  rintro _ w152 ⟨d150, r151, hp, X153, F155, s154, rfl, m156, zr157⟩
  have m158 := MO.re m156 (Wr.trans m156.wr m140.wr E144.size)
  have p159 := Ap.grow m156.wr p141 (MO.old m148) (Nat.le_refl _)
  replace hp := hp zr157
  refine sq (o_pv (.string r151) rfl (by kernel_rfl) ?_)
  refine nil_ ?_
  refine then_normal (K142 _ _ _ _ ?_)
  refine seq_ (fun _ K160 => ?_)
  have hXo230 := (Old.step hXo143 s154)
  have E231 := (Evo.thenW E144 (Step.evo s154) m140.wr)
  have hS232 := (Sub.trans hS145 (Step.up s154))
  have r233 := (Sl.step r146 s154)
  have r234 := (Sl.step r147 s154)
  have m235 := (MO.step m148 s154 p141)
  have hr236 := (Sl.step hr149 s154)
  obtain ⟨k223, hk224, hp⟩ := hp
  refine ground_ ?_
  refine join_ 2251799780130817 (fun lq w225 => ∃ (X226 : List Nat) (s222 : Bool), (lq = [(0, (.bool s222))]) ∧ (Evo [] w w225) ∧ (Old X226 w225) ∧ (Sub X X226) ∧ (k223 s222)) (fun Kj227 hJ228 => ?_) ?_
  ·
    refine reg_ ?_
    refine sq (o_pv (.pointer (some ⟨b3, 0, none⟩)) rfl (by kernel_rfl) ?_)
    refine sq (o_call 32 #[(.pointer (some ⟨b3, 0, none⟩))] rfl (x_call Tryd.call32 (by kernel_rfl)) (codec_Enc_Bytes_w (X := X153) (e := e79) hXo230 (MO.re m235 (Wr.self _ _ (Sub.refl _))) hp) ?_)
    rintro _ w242 ⟨e240, r241, hp, X243, F245, ar247, cr248, s244, rfl, m246, hr249⟩
    have m250 := MO.re m246 (Wr.trans m246.wr m235.wr E231.size)
    have p251 := Ap.grow m246.wr (Ap.symm p159) (MO.old m158) (Nat.le_refl _)
    replace hp := hp (Sl.len hr249)
    have hl252 := Sl.len hr249
    refine sq (o_pv (.string (strOfNums r241)) rfl (x_b2s_sl (a := ar247) (len := r241.length) (c := cr248) r241 Tryd.underlying37 Tryd.underlying5 Tryd.underlying9 (by kernel_rfl) rfl hr249) ?_)
    by_cases h253 : (strOfNums r241 : ByteArray) = (ByteArray.mk #[172, 2, 1, 4, 97, 98])
    ·
      replace hp := hp.1 h253
      refine sq (o_pv (.bool true) rfl (x_dt (p := (strOfNums r241 : ByteArray) = (ByteArray.mk #[172, 2, 1, 4, 97, 98])) (x_streq (by kernel_rfl) (by kernel_rfl)) h253) ?_)
      refine sq (o_pv (.bool true) rfl (by kernel_rfl) ?_)
      refine sq (o_pv (.int .i64 r115) (by kernel_rfl) (by kernel_rfl) ?_)
      by_cases h254 : r115 = (150 : Int)
      ·
        replace hp := hp.1 h254
        refine sq (o_pv (.bool true) (by kernel_rfl) (x_dt (p := r115 = (150 : Int)) (by kernel_rfl) h254) ?_)
        refine sq (o_pv (.bool true) rfl (by kernel_rfl) ?_)
        refine sq (o_pv (.bool true) rfl (by kernel_rfl) ?_)
        refine sq (o_pv (.int .i64 r133) (by kernel_rfl) (by kernel_rfl) ?_)
        by_cases h255 : r133 = (-1 : Int)
        ·
          replace hp := hp.1 h255
          refine sq (o_pv (.bool true) (by kernel_rfl) (x_dt (p := r133 = (-1 : Int)) (by kernel_rfl) h255) ?_)
          refine sq (o_pv (.bool true) rfl (by kernel_rfl) ?_)
          refine sq (o_pv (.bool true) rfl (by kernel_rfl) ?_)
          refine sq (o_pv (.string r151) (by kernel_rfl) (by kernel_rfl) ?_)
          by_cases h256 : (r151 : ByteArray) = (ByteArray.mk #[97, 98])
          ·
            replace hp := hp.1 h256
            refine sq (o_pv (.bool true) (by kernel_rfl) (x_dt (p := (r151 : ByteArray) = (ByteArray.mk #[97, 98])) (x_streq (by kernel_rfl) (by kernel_rfl)) h256) ?_)
            refine sq (o_pv (.bool true) rfl (by kernel_rfl) ?_)
            refine sq (o_pv (.bool true) rfl (by kernel_rfl) ?_)
            refine sq (o_pv (.pointer (some ⟨br99, 0, none⟩)) (by kernel_rfl) (by kernel_rfl) ?_)
            have hXo257 := (Old.step hXo230 s244)
            have E258 := (Evo.thenW E231 (Step.evo s244) m235.wr)
            have hS259 := (Sub.trans hS232 (Step.up s244))
            have r260 := (Sl.step r233 s244)
            have r261 := (Sl.step r234 s244)
            have hr262 := (Sl.step hr236 s244)
            have m263 := (MO.step m158 s244 (Ap.symm p159))
            refine sq (o_call 27 #[(.pointer (some ⟨br99, 0, none⟩))] (by kernel_rfl) (x_call Tryd.call27 (by kernel_rfl)) (codec_Dec_Left_w (X := X243) (d := d150) hXo257 (MO.re m263 (Wr.self _ _ (Sub.refl _))) hp) ?_)
            rintro _ w266 ⟨d264, r265, hp, X267, F269, s268, rfl, m270, rr271⟩
            have m272 := MO.re m270 (Wr.trans m270.wr m263.wr E258.size)
            have p273 := Ap.grow m270.wr (Ap.symm p251) (MO.old m250) (Nat.le_refl _)
            replace hp := hp rr271
            by_cases h274 : r265 = (0 : Int)
            ·
              replace hp := hp.1 h274
              refine sq (o_pv (.bool true) (by kernel_rfl) (x_dt (p := r265 = (0 : Int)) (by kernel_rfl) h274) ?_)
              refine sq (o_pv (.bool true) rfl (by kernel_rfl) ?_)
              refine sq (o_pv (.bool true) rfl (by kernel_rfl) ?_)
              refine sq (o_pv (.pointer (some ⟨br99, 0, none⟩)) (by kernel_rfl) (by kernel_rfl) ?_)
              have hXo275 := (Old.step hXo257 s268)
              have E276 := (Evo.thenW E258 (Step.evo s268) m263.wr)
              have hS277 := (Sub.trans hS259 (Step.up s268))
              have r278 := (Sl.step r260 s268)
              have r279 := (Sl.step r261 s268)
              have hr280 := (Sl.step hr262 s268)
              have m281 := (MO.step m250 s268 (Ap.symm p251))
              have hr282 := (Sl.step hr249 s268)
              refine sq (o_call 29 #[(.pointer (some ⟨br99, 0, none⟩))] (by kernel_rfl) (x_call Tryd.call29 (by kernel_rfl)) (codec_Dec_Err_w (X := X267) (d := d264) hXo275 (MO.re m272 (Wr.self _ _ (Sub.refl _))) hp) ?_)
              rintro vr290 w285 ⟨d283, r284, hp, X286, F288, _, s287, rfl, m289, hr291⟩
              have m292 := MO.re m289 (Wr.trans m289.wr m272.wr E276.size)
              have p293 := Ap.grow m289.wr p273 (MO.old m281) (Nat.le_refl _)
              refine sq (o_pv (.bool r284.isNil) (by kernel_rfl) (x_err_eq r284 hr291 Tryd.underlying39 (by kernel_rfl)) ?_)
              refine sq (o_pv (.bool r284.isNil) rfl (by kernel_rfl) ?_)
              refine sq (o_pv (.bool r284.isNil) rfl (by kernel_rfl) ?_)
              refine nil_ ?_
              have E294 := (Evo.thenW E276 (Step.evo s287) m272.wr)
              have hXo295 := (Old.step hXo275 s287)
              have hS296 := (Sub.trans hS277 (Step.up s287))
              refine then_normal (hJ228 _ _ _ ⟨[(0, (.bool r284.isNil))], fit_mk (fun _ _ => rfl) (by kernel_rfl) (vs_cons (by kernel_rfl) vs_nil), ?_⟩)
              exact ⟨X286, r284.isNil, rfl, E294, hXo295, hS296, hp⟩
            ·
              replace hp := hp.2 h274
              refine sq (o_pv (.bool false) (by kernel_rfl) (x_df (p := r265 = (0 : Int)) (by kernel_rfl) h274) ?_)
              refine sq (o_pv (.bool false) rfl (by kernel_rfl) ?_)
              refine sq (o_pv (.bool false) rfl (by kernel_rfl) ?_)
              refine sq (o_not (by kernel_rfl) ?_)
              refine sq (o_not (by kernel_rfl) ?_)
              refine sq (o_not (by kernel_rfl) ?_)
              refine sq (o_pv (.bool false) rfl (by kernel_rfl) ?_)
              refine sq (o_pv (.bool false) rfl (by kernel_rfl) ?_)
              refine nil_ ?_
              have E297 := (Evo.thenW E258 (Step.evo s268) m263.wr)
              have hXo298 := (Old.step hXo257 s268)
              have hS299 := (Sub.trans hS259 (Step.up s268))
              refine then_normal (hJ228 _ _ _ ⟨[(0, (.bool false))], fit_mk (fun _ _ => rfl) (by kernel_rfl) (vs_cons (by kernel_rfl) vs_nil), ?_⟩)
              exact ⟨X267, false, rfl, E297, hXo298, hS299, hp⟩
          ·
            replace hp := hp.2 h256
            refine sq (o_pv (.bool false) (by kernel_rfl) (x_df (p := (r151 : ByteArray) = (ByteArray.mk #[97, 98])) (x_streq (by kernel_rfl) (by kernel_rfl)) h256) ?_)
            refine sq (o_pv (.bool false) rfl (by kernel_rfl) ?_)
            refine sq (o_pv (.bool false) rfl (by kernel_rfl) ?_)
            refine sq (o_not (by kernel_rfl) ?_)
            refine sq (o_not (by kernel_rfl) ?_)
            refine sq (o_not (by kernel_rfl) ?_)
            refine sq (o_pv (.bool false) rfl (by kernel_rfl) ?_)
            refine sq (o_pv (.bool false) rfl (by kernel_rfl) ?_)
            refine sq (o_not (by kernel_rfl) ?_)
            refine sq (o_not (by kernel_rfl) ?_)
            refine sq (o_not (by kernel_rfl) ?_)
            refine sq (o_pv (.bool false) rfl (by kernel_rfl) ?_)
            refine sq (o_pv (.bool false) rfl (by kernel_rfl) ?_)
            refine nil_ ?_
            have E300 := (Evo.thenW E231 (Step.evo s244) m235.wr)
            have hXo301 := (Old.step hXo230 s244)
            have hS302 := (Sub.trans hS232 (Step.up s244))
            refine then_normal (hJ228 _ _ _ ⟨[(0, (.bool false))], fit_mk (fun _ _ => rfl) (by kernel_rfl) (vs_cons (by kernel_rfl) vs_nil), ?_⟩)
            exact ⟨X243, false, rfl, E300, hXo301, hS302, hp⟩
        ·
          replace hp := hp.2 h255
          refine sq (o_pv (.bool false) (by kernel_rfl) (x_df (p := r133 = (-1 : Int)) (by kernel_rfl) h255) ?_)
          refine sq (o_pv (.bool false) rfl (by kernel_rfl) ?_)
          refine sq (o_pv (.bool false) rfl (by kernel_rfl) ?_)
          refine sq (o_not (by kernel_rfl) ?_)
          refine sq (o_not (by kernel_rfl) ?_)
          refine sq (o_pv (.bool false) rfl (by kernel_rfl) ?_)
          refine sq (o_pv (.bool false) rfl (by kernel_rfl) ?_)
          refine sq (o_not (by kernel_rfl) ?_)
          refine sq (o_not (by kernel_rfl) ?_)
          refine sq (o_not (by kernel_rfl) ?_)
          refine sq (o_pv (.bool false) rfl (by kernel_rfl) ?_)
          refine sq (o_pv (.bool false) rfl (by kernel_rfl) ?_)
          refine sq (o_not (by kernel_rfl) ?_)
          refine sq (o_not (by kernel_rfl) ?_)
          refine sq (o_not (by kernel_rfl) ?_)
          refine sq (o_pv (.bool false) rfl (by kernel_rfl) ?_)
          refine sq (o_pv (.bool false) rfl (by kernel_rfl) ?_)
          refine nil_ ?_
          have E303 := (Evo.thenW E231 (Step.evo s244) m235.wr)
          have hXo304 := (Old.step hXo230 s244)
          have hS305 := (Sub.trans hS232 (Step.up s244))
          refine then_normal (hJ228 _ _ _ ⟨[(0, (.bool false))], fit_mk (fun _ _ => rfl) (by kernel_rfl) (vs_cons (by kernel_rfl) vs_nil), ?_⟩)
          exact ⟨X243, false, rfl, E303, hXo304, hS305, hp⟩
      ·
        replace hp := hp.2 h254
        refine sq (o_pv (.bool false) (by kernel_rfl) (x_df (p := r115 = (150 : Int)) (by kernel_rfl) h254) ?_)
        refine sq (o_pv (.bool false) rfl (by kernel_rfl) ?_)
        refine sq (o_pv (.bool false) rfl (by kernel_rfl) ?_)
        refine sq (o_not (by kernel_rfl) ?_)
        refine sq (o_not (by kernel_rfl) ?_)
        refine sq (o_pv (.bool false) rfl (by kernel_rfl) ?_)
        refine sq (o_pv (.bool false) rfl (by kernel_rfl) ?_)
        refine sq (o_not (by kernel_rfl) ?_)
        refine sq (o_not (by kernel_rfl) ?_)
        refine sq (o_pv (.bool false) rfl (by kernel_rfl) ?_)
        refine sq (o_pv (.bool false) rfl (by kernel_rfl) ?_)
        refine sq (o_not (by kernel_rfl) ?_)
        refine sq (o_not (by kernel_rfl) ?_)
        refine sq (o_not (by kernel_rfl) ?_)
        refine sq (o_pv (.bool false) rfl (by kernel_rfl) ?_)
        refine sq (o_pv (.bool false) rfl (by kernel_rfl) ?_)
        refine sq (o_not (by kernel_rfl) ?_)
        refine sq (o_not (by kernel_rfl) ?_)
        refine sq (o_not (by kernel_rfl) ?_)
        refine sq (o_pv (.bool false) rfl (by kernel_rfl) ?_)
        refine sq (o_pv (.bool false) rfl (by kernel_rfl) ?_)
        refine nil_ ?_
        have E306 := (Evo.thenW E231 (Step.evo s244) m235.wr)
        have hXo307 := (Old.step hXo230 s244)
        have hS308 := (Sub.trans hS232 (Step.up s244))
        refine then_normal (hJ228 _ _ _ ⟨[(0, (.bool false))], fit_mk (fun _ _ => rfl) (by kernel_rfl) (vs_cons (by kernel_rfl) vs_nil), ?_⟩)
        exact ⟨X243, false, rfl, E306, hXo307, hS308, hp⟩
    ·
      replace hp := hp.2 h253
      refine sq (o_pv (.bool false) rfl (x_df (p := (strOfNums r241 : ByteArray) = (ByteArray.mk #[172, 2, 1, 4, 97, 98])) (x_streq (by kernel_rfl) (by kernel_rfl)) h253) ?_)
      refine sq (o_pv (.bool false) rfl (by kernel_rfl) ?_)
      refine sq (o_not (by kernel_rfl) ?_)
      refine sq (o_not (by kernel_rfl) ?_)
      refine sq (o_pv (.bool false) rfl (by kernel_rfl) ?_)
      refine sq (o_pv (.bool false) rfl (by kernel_rfl) ?_)
      refine sq (o_not (by kernel_rfl) ?_)
      refine sq (o_not (by kernel_rfl) ?_)
      refine sq (o_pv (.bool false) rfl (by kernel_rfl) ?_)
      refine sq (o_pv (.bool false) rfl (by kernel_rfl) ?_)
      refine sq (o_not (by kernel_rfl) ?_)
      refine sq (o_not (by kernel_rfl) ?_)
      refine sq (o_pv (.bool false) rfl (by kernel_rfl) ?_)
      refine sq (o_pv (.bool false) rfl (by kernel_rfl) ?_)
      refine sq (o_not (by kernel_rfl) ?_)
      refine sq (o_not (by kernel_rfl) ?_)
      refine sq (o_not (by kernel_rfl) ?_)
      refine sq (o_pv (.bool false) rfl (by kernel_rfl) ?_)
      refine sq (o_pv (.bool false) rfl (by kernel_rfl) ?_)
      refine sq (o_not (by kernel_rfl) ?_)
      refine sq (o_not (by kernel_rfl) ?_)
      refine sq (o_not (by kernel_rfl) ?_)
      refine sq (o_pv (.bool false) rfl (by kernel_rfl) ?_)
      refine sq (o_pv (.bool false) rfl (by kernel_rfl) ?_)
      refine nil_ ?_
      have E309 := (Evo.thenW E231 (Step.evo s244) m235.wr)
      have hXo310 := (Old.step hXo230 s244)
      have hS311 := (Sub.trans hS232 (Step.up s244))
      refine then_normal (hJ228 _ _ _ ⟨[(0, (.bool false))], fit_mk (fun _ _ => rfl) (by kernel_rfl) (vs_cons (by kernel_rfl) vs_nil), ?_⟩)
      exact ⟨X243, false, rfl, E309, hXo310, hS311, hp⟩
  ·
    rintro _ w225 g312 ⟨X226, s222, rfl, E237, hXo238, hS239, hv229⟩
    replace hp := hk224 s222 hv229
    refine then_normal (K160 _ _ _ _ ?_)
    refine wp_ret ?_
    refine end_ret hQ (.bool s222) (by kernel_rfl) ?_
    exact ⟨s222, hp, E237, rfl⟩

def rectoref3_Int_p (v_ : Int) (Q : (List Int) → Prop) : Prop :=
  ((inR .i64 v_) → (∃ k13 : Int → Prop, (∀ (u_11 : Int), k13 u_11 → (inR .u64 u_11) → (∃ (I96 : Int → (List Int) → Prop) (m97 : Int → (List Int) → Nat), (I96 u_11 ([] : List Int)) ∧ (∀ (u_60 : Int) (out62 : (List Int)), (I96 u_60 out62) → (inR .u64 u_60) → (out62.length ≤ 9223372036854775807) → (((u_60 ≥ (128 : Int)) → (((out62.length + ([iwrap .u8 (ior .u64 (iand .u64 u_60 (127 : Int)) (128 : Int))]).length) * 1 ≤ 140737488355328) ∧ ((I96 (ishr .u64 u_60 (7 : Int)) (out62 ++ ([iwrap .u8 (ior .u64 (iand .u64 u_60 (127 : Int)) (128 : Int))]))) ∧ m97 (ishr .u64 u_60 (7 : Int)) (out62 ++ ([iwrap .u8 (ior .u64 (iand .u64 u_60 (127 : Int)) (128 : Int))])) < m97 u_60 out62))) ∧ ((¬ (u_60 ≥ (128 : Int))) → (((out62.length + ([iwrap .u8 u_60]).length) * 1 ≤ 140737488355328) ∧ Q (out62 ++ ([iwrap .u8 u_60])))))))) ∧ (((v_ < (0 : Int)) → ((inR .i64 (v_ + (1 : Int))) ∧ ((inR .i64 ((0 : Int) - (v_ + (1 : Int)))) ∧ (∀ y26 : Int, y26 = (ior .u64 (ishl .u64 (iwrap .u64 ((0 : Int) - (v_ + (1 : Int)))) (1 : Int)) (1 : Int)) → (k13 y26))))) ∧ ((¬ (v_ < (0 : Int))) → (k13 (ishl .u64 (iwrap .u64 v_) (1 : Int)))))))
set_option maxRecDepth 20000 in
set_option maxHeartbeats 4000000 in
theorem rectoref3_Int_w {X : List Nat} {w : World} {v_ : Int} {Q : (List Int) → Prop} (hX0 : Old X w) (rv_1 : inR .i64 v_) (hp : rectoref3_Int_p v_ Q) :
    Calls Tryd.prog 31 #[(.int .i64 v_)] w (Ret fun v w' => ∃ (r0 : (List Int)), Q r0 ∧ Evo [] w w' ∧ ∃ (a0 : Option Addr) (c0 : Nat), v = .slice a0 r0.length c0 ∧ OS (rInt .u8) [] w.heap.size (blkL a0 ++ X) w' 5 a0 r0.length c0 r0) := by
  have hXo := hX0
  have E0 : Evo [] w w := RB.refl _ _ _
  have hS : Sub X X := Sub.refl _
  unfold rectoref3_Int_p at hp
  refine enter_ Tryd.func31 rfl 32 [(0, (.int .i64 v_))] (by kernel_rfl) (fun Qe hQ => ?_)
  replace hp := hp rv_1
  refine seq_ (fun _ K2 => ?_)
  refine reg_ ?_
  refine sq (o_pv (.slice none 0 0) rfl (by kernel_rfl) ?_)
  refine nil_ ?_
  refine then_normal (K2 _ _ _ _ ?_)
  refine seq_ (fun _ K3 => ?_)
  refine reg_ ?_
  refine sq (o_pv (.int .i64 v_) rfl (by kernel_rfl) ?_)
  refine sq (o_pv (.int .u64 (iwrap .u64 v_)) rfl (x_convw (k := .i64) Tryd.underlying3 Tryd.underlying96 (by kernel_rfl)) ?_)
  refine sq (o_pv (.int .u64 (ishl .u64 (iwrap .u64 v_) (1 : Int))) rfl (x_shl (k := .u64) (k' := .u64) (a := iwrap .u64 v_) (b := (1 : Int)) (by kernel_rfl) (by kernel_rfl) (by decide)) ?_)
  refine sq (o_pv (.int .u64 (ishl .u64 (iwrap .u64 v_) (1 : Int))) rfl (by kernel_rfl) ?_)
  refine nil_ ?_
  refine then_normal (K3 _ _ _ _ ?_)
  refine seq_ (fun _ K4 => ?_)
  refine seq_ (fun _ K5 => ?_)
  refine reg_ ?_
  refine sq (o_pv (.int .i64 v_) rfl (by kernel_rfl) ?_)
  refine sq (o_pv (.bool (decide (v_ < (0 : Int)))) rfl (by kernel_rfl) ?_)
  refine nil_ ?_
  refine then_normal (K5 _ _ _ _ ?_)
  obtain ⟨k13, hk14, hp⟩ := hp
  refine ground_ ?_
  refine join_ 64520 (fun lq w15 => ∃ (X16 : List Nat) (u_11 : Int), (lq = [(3, (.int .u64 u_11))]) ∧ (Evo [] w w15) ∧ (Old X16 w15) ∧ (Sub X X16) ∧ (inR .u64 u_11) ∧ (k13 u_11)) (fun Kj17 hJ18 => ?_) ?_
  ·
    refine cond_d (v_ < (0 : Int)) (by kernel_rfl) (fun h23 => ?_) (fun h23 => ?_)
    ·
      replace hp := hp.1 h23
      refine reg_ ?_
      refine sq (o_pv (.int .i64 v_) rfl (by kernel_rfl) ?_)
      obtain ⟨h24, hp⟩ := hp
      refine sq (o_pv (.int .i64 (v_ + (1 : Int))) rfl (x_add2 (k := .i64) (a := v_) (b := (1 : Int)) (v_ + (1 : Int)) (by kernel_rfl) (by kernel_rfl) (wrap_inR h24)) ?_)
      obtain ⟨h25, hp⟩ := hp
      refine sq (o_pv (.int .i64 ((0 : Int) - (v_ + (1 : Int)))) rfl (x_sub2 (k := .i64) (a := (0 : Int)) (b := v_ + (1 : Int)) ((0 : Int) - (v_ + (1 : Int))) (by kernel_rfl) (by kernel_rfl) (wrap_inR h25)) ?_)
      refine sq (o_pv (.int .u64 (iwrap .u64 ((0 : Int) - (v_ + (1 : Int))))) rfl (x_convw (k := .i64) Tryd.underlying3 Tryd.underlying96 (by kernel_rfl)) ?_)
      refine sq (o_pv (.int .u64 (ishl .u64 (iwrap .u64 ((0 : Int) - (v_ + (1 : Int)))) (1 : Int))) rfl (x_shl (k := .u64) (k' := .u64) (a := iwrap .u64 ((0 : Int) - (v_ + (1 : Int)))) (b := (1 : Int)) (by kernel_rfl) (by kernel_rfl) (by decide)) ?_)
      obtain ⟨y26, qy26⟩ : ∃ y, y = (ior .u64 (ishl .u64 (iwrap .u64 ((0 : Int) - (v_ + (1 : Int)))) (1 : Int)) (1 : Int)) := ⟨_, rfl⟩
      replace hp := hp y26 qy26
      have r27 : inR .u64 y26 := by rw [qy26]; exact (inR_ior _ _ _)
      refine sq (o_pv (.int .u64 y26) rfl (by rw [qy26]; exact (x_or (k := .u64) (a := ishl .u64 (iwrap .u64 ((0 : Int) - (v_ + (1 : Int)))) (1 : Int)) (b := (1 : Int)) (by kernel_rfl) (by kernel_rfl))) ?_)
      refine sq (o_pv (.int .u64 y26) rfl (by kernel_rfl) ?_)
      refine nil_ ?_
      refine then_normal (hJ18 _ _ _ ⟨[(3, (.int .u64 y26))], fit_mk (fun _ _ => rfl) (by kernel_rfl) (vs_cons (by kernel_rfl) vs_nil), ?_⟩)
      exact ⟨X, y26, rfl, E0, hXo, hS, r27, hp⟩
    ·
      replace hp := hp.2 h23
      refine wp_skip ?_
      refine then_normal (hJ18 _ _ _ ⟨[(3, (.int .u64 (ishl .u64 (iwrap .u64 v_) (1 : Int))))], fit_mk (fun _ _ => rfl) (by kernel_rfl) (vs_cons (by kernel_rfl) vs_nil), ?_⟩)
      exact ⟨X, (ishl .u64 (iwrap .u64 v_) (1 : Int)), rfl, E0, hXo, hS, (inR_ishl _ _ _), hp⟩
  ·
    rintro _ w15 g28 ⟨X16, u_11, rfl, E20, hXo21, hS22, ru_12, hv19⟩
    replace hp := hk14 u_11 hv19 ru_12
    refine then_normal (K4 _ _ _ _ ?_)
    refine seq_ (fun _ K29 => ?_)
    refine reg_ ?_
    refine sq (o_pv (.slice none 0 0) rfl (by kernel_rfl) ?_)
    refine nil_ ?_
    refine then_normal (K29 _ _ _ _ ?_)
    refine seq_ (fun _ K30 => ?_)
    refine wp_block ?_
    obtain ⟨I96, m97, hI98, hp⟩ := hp
    refine loop_ 134152216 (fun kq lq w100 => ∃ (X101 : List Nat) (u_60 : Int) (out62 : (List Int)) (a63 : Option Addr) (n64 : Nat) (c65 : Nat), (lq = [(3, (.int .u64 u_60)), (4, (.slice a63 n64 c65))]) ∧ (kq = m97 u_60 out62) ∧ (Evo [] w w100) ∧ (Old X101 w100) ∧ (Sub X X101) ∧ (OS (rInt .u8) ([]) w.heap.size X101 w100 5 a63 n64 c65 out62) ∧ (inR .u64 u_60) ∧ (I96 u_60 out62)) (m97 u_11 ([] : List Int)) [(3, (.int .u64 u_11)), (4, (.slice none 0 0))] (vs_cons (by kernel_rfl) (vs_cons (by kernel_rfl) vs_nil)) ⟨X16, u_11, ([] : List Int), none, 0, 0, rfl, rfl, E20, hXo21, hS22, (OS.nil _ _ _ _), ru_12, hI98⟩ ?_
    rintro _ _ w100 g103 ⟨X101, u_60, out62, a63, n64, c65, rfl, rfl, E106, hXo107, hS108, O66, ru_61, hI99⟩ Kl104 hA105
    replace hp := hp u_60 out62 hI99 ru_61 (OS.len O66)
    refine seq_ (fun _ K109 => ?_)
    refine seq_ (fun _ K110 => ?_)
    refine reg_ ?_
    refine sq (o_pv (.int .u64 u_60) rfl (by kernel_rfl) ?_)
    refine sq (o_pv (.bool (decide (u_60 ≥ (128 : Int)))) rfl (by kernel_rfl) ?_)
    refine nil_ ?_
    refine then_normal (K110 _ _ _ _ ?_)
    refine cond_d (u_60 ≥ (128 : Int)) (by kernel_rfl) (fun h111 => ?_) (fun h111 => ?_)
    ·
      replace hp := hp.1 h111
      refine wp_skip ?_
      refine then_normal (K109 _ _ _ _ ?_)
      refine wp_block ?_
      refine seq_ (fun _ K112 => ?_)
      refine reg_ ?_
      refine sq (o_pv (.slice a63 n64 c65) rfl (by kernel_rfl) ?_)
      refine sq (o_pv (.int .u64 u_60) rfl (by kernel_rfl) ?_)
      refine sq (o_pv (.int .u64 (iand .u64 u_60 (127 : Int))) rfl (x_and (k := .u64) (a := u_60) (b := (127 : Int)) (by kernel_rfl) (by kernel_rfl)) ?_)
      refine sq (o_pv (.int .u64 (ior .u64 (iand .u64 u_60 (127 : Int)) (128 : Int))) rfl (x_or (k := .u64) (a := iand .u64 u_60 (127 : Int)) (b := (128 : Int)) (by kernel_rfl) (by kernel_rfl)) ?_)
      refine sq (o_pv (.int .u8 (iwrap .u8 (ior .u64 (iand .u64 u_60 (127 : Int)) (128 : Int)))) rfl (x_convw (k := .u64) Tryd.underlying96 Tryd.underlying5 (by kernel_rfl)) ?_)
      refine sq (o_rowX (R := (rInt .u8)) [(.int .u8 (iwrap .u8 (ior .u64 (iand .u64 u_60 (127 : Int)) (128 : Int))))] [iwrap .u8 (ior .u64 (iand .u64 u_60 (127 : Int)) (128 : Int))] 5 1 (X := X101) (B := w.heap.size) E106.size rfl (by kernel_rfl) (Flat.cons (cs := [(.int .u8 (iwrap .u8 (ior .u64 (iand .u64 u_60 (127 : Int)) (128 : Int))))]) (rInt_mk (inR_iwrap _ _)) Flat.nil) rfl (by decide) ?_)
      intro b113 w114 X115 s116 O117 n118
      have p119 := n118 _ (OS.old O66)
      obtain ⟨h120, hp⟩ := hp
      have O121 := (OS.step0 O66 s116)
      have E122 := (Evo.then0 E106 (Step.evo s116))
      refine sq (o_appX (R := (rInt .u8)) (X := X115) (B := w.heap.size) (L := out62) (M := [iwrap .u8 (ior .u64 (iand .u64 u_60 (127 : Int)) (128 : Int))]) rfl elT37 rfl E122.size O121 (OS.src O117) O117.1 (by kernel_rfl) (by kernel_rfl) h120 ?_)
      intro a123 n124 c125 w126 X127 s128 O129 gr130
      refine sq (o_pv (.slice a123 n124 c125) rfl (by kernel_rfl) ?_)
      refine nil_ ?_
      refine then_normal (K112 _ _ _ _ ?_)
      refine reg_ ?_
      refine sq (o_pv (.int .u64 u_60) rfl (by kernel_rfl) ?_)
      refine sq (o_pv (.int .u64 (ishr .u64 u_60 (7 : Int))) rfl (x_shr (k := .u64) (k' := .u64) (a := u_60) (b := (7 : Int)) (by kernel_rfl) (by kernel_rfl) (by decide)) ?_)
      refine sq (o_pv (.int .u64 (ishr .u64 u_60 (7 : Int))) rfl (by kernel_rfl) ?_)
      refine nil_ ?_
      refine blk_normal ?_
      have E131 := (Evo.thenW E122 (Step.evo s128) O121.2.2)
      have hXo132 := (Old.step (Old.step hXo107 s116) s128)
      have hS133 := (Sub.trans (Sub.trans hS108 (Step.up s116)) (Step.up s128))
      refine then_normal (hA105 _ _ _ ⟨_, [(3, (.int .u64 (ishr .u64 u_60 (7 : Int)))), (4, (.slice a123 n124 c125))], hp.2, fit_mk (AgB.mix _ _ _) (by kernel_rfl) (vs_cons (by kernel_rfl) (vs_cons (by kernel_rfl) vs_nil)), ?_⟩)
      exact ⟨X127, (ishr .u64 u_60 (7 : Int)), (out62 ++ ([iwrap .u8 (ior .u64 (iand .u64 u_60 (127 : Int)) (128 : Int))])), a123, n124, c125, rfl, rfl, E131, hXo132, hS133, O129, (inR_ishr _ ru_61), hp.1⟩
    ·
      replace hp := hp.2 h111
      refine wp_exit ?_
      refine then_exit ?_
      refine then_exit ?_
      refine blk_exit ?_
      refine then_normal (K30 _ _ _ _ ?_)
      refine seq_ (fun _ K134 => ?_)
      refine reg_ ?_
      refine sq (o_pv (.slice a63 n64 c65) rfl (by kernel_rfl) ?_)
      refine sq (o_pv (.int .u64 u_60) rfl (by kernel_rfl) ?_)
      refine sq (o_pv (.int .u8 (iwrap .u8 u_60)) rfl (x_convw (k := .u64) Tryd.underlying96 Tryd.underlying5 (by kernel_rfl)) ?_)
      refine sq (o_rowX (R := (rInt .u8)) [(.int .u8 (iwrap .u8 u_60))] [iwrap .u8 u_60] 5 1 (X := X101) (B := w.heap.size) E106.size rfl (by kernel_rfl) (Flat.cons (cs := [(.int .u8 (iwrap .u8 u_60))]) (rInt_mk (inR_iwrap _ _)) Flat.nil) rfl (by decide) ?_)
      intro b135 w136 X137 s138 O139 n140
      have p141 := n140 _ (OS.old O66)
      obtain ⟨h142, hp⟩ := hp
      have O143 := (OS.step0 O66 s138)
      have E144 := (Evo.then0 E106 (Step.evo s138))
      refine sq (o_appX (R := (rInt .u8)) (X := X137) (B := w.heap.size) (L := out62) (M := [iwrap .u8 u_60]) rfl elT37 rfl E144.size O143 (OS.src O139) O139.1 (by kernel_rfl) (by kernel_rfl) h142 ?_)
      intro a145 n146 c147 w148 X149 s150 O151 gr152
      refine sq (o_pv (.slice a145 n146 c147) rfl (by kernel_rfl) ?_)
      refine nil_ ?_
      refine then_normal (K134 _ _ _ _ ?_)
      refine wp_ret ?_
      have hS153 := (Sub.trans (Sub.trans hS108 (Step.up s138)) (Step.up s150))
      have E154 := (Evo.thenW E144 (Step.evo s150) O143.2.2)
      refine end_ret hQ (.slice a145 n146 c147) (by kernel_rfl) ?_
      exact ⟨(out62 ++ ([iwrap .u8 u_60])), hp, E154, a145, c147, by rw [show n146 = (out62 ++ ([iwrap .u8 u_60])).length from O151.1], (OS.give O151 hS153)⟩

def rectoref3_At_p (word : ByteArray) (at_ : Int) (e : Int) (Q : S_rectoref3_Wrong → Prop) : Prop :=
  ((word.size ≤ maxLen) → ((inR .i64 at_) → ((inR .i64 e) → Q (S_rectoref3_Wrong.mk ([(S_rectoref3_Part.mk word at_)]) e))))
set_option maxRecDepth 20000 in
set_option maxHeartbeats 4000000 in
theorem rectoref3_At_w {X : List Nat} {w : World} {word : ByteArray} {at_ : Int} {e : Int} {Q : S_rectoref3_Wrong → Prop} (hX0 : Old X w) (zword1 : word.size ≤ maxLen) (rat_2 : inR .i64 at_) (re3 : inR .i64 e) (hp : rectoref3_At_p word at_ e Q) :
    Calls Tryd.prog 20 #[(.string word), (.int .i64 at_), (.int .i64 e)] w (Ret fun v w' => ∃ (r0 : S_rectoref3_Wrong), Q r0 ∧ Evo [] w w' ∧ ∃ (aq0Parts1 : Option Addr) (cq0Parts2 : Nat), v = (.agg #[(.slice aq0Parts1 r0.Parts.length cq0Parts2), (.int .i64 r0.Err)]) ∧ Sl r_rectoref3_Part X w' aq0Parts1 cq0Parts2 r0.Parts ∧ inR .i64 r0.Err) := by
  have hXo := hX0
  have E0 : Evo [] w w := RB.refl _ _ _
  have hS : Sub X X := Sub.refl _
  unfold rectoref3_At_p at hp
  refine enter_ Tryd.func20 rfl 13 [(0, (.string word)), (1, (.int .i64 at_)), (2, (.int .i64 e))] (by kernel_rfl) (fun Qe hQ => ?_)
  replace hp := hp zword1
  replace hp := hp rat_2
  replace hp := hp re3
  refine seq_ (fun _ K4 => ?_)
  refine reg_ ?_
  refine sq (o_newX [(.slice none 0 0), (.int .i64 (0 : Int))] 45 (X := X) (B := w.heap.size) E0.size rfl (by kernel_rfl) ?_)
  intro b5 w6 X7 s8 k9 n10
  refine nil_ ?_
  refine then_normal (K4 _ _ _ _ ?_)
  refine seq_ (fun _ K11 => ?_)
  refine reg_ ?_
  refine sq (o_pv (.string word) rfl (by kernel_rfl) ?_)
  refine sq (o_pv (.int .i64 at_) rfl (by kernel_rfl) ?_)
  refine sq (o_pv (.agg #[(.string word), (.int .i64 at_)]) rfl (by kernel_rfl) ?_)
  have E18 := (Evo.then0 E0 (Step.evo s8))
  refine sq (o_rowX (R := r_rectoref3_Part) [(.string word), (.int .i64 at_)] [(S_rectoref3_Part.mk word at_)] 92 1 (X := X7) (B := w.heap.size) E18.size rfl (by kernel_rfl) (Flat.cons (cs := [(.string word), (.int .i64 at_)]) (r_rectoref3_Part_mk zword1 rat_2) Flat.nil) rfl (by decide) ?_)
  intro b12 w13 X14 s15 O16 n17
  have p19 := n17 _ (OB.old k9)
  refine sq (o_pv (.int .i64 e) rfl (by kernel_rfl) ?_)
  refine sq (o_pv (.agg #[(.slice (some ⟨b12, 0, none⟩) 1 1), (.int .i64 e)]) rfl (by kernel_rfl) ?_)
  have k20 := (OB.step0 k9 s15)
  have E21 := (Evo.then0 E18 (Step.evo s15))
  refine sq (o_stB (o := 0) (v := (.agg #[(.slice (some ⟨b12, 0, none⟩) 1 1), (.int .i64 e)])) [(.slice (some ⟨b12, 0, none⟩) 1 1), (.int .i64 e)] rfl k20 (by kernel_rfl) (by kernel_rfl) Tryd.sizeOf45 rfl rfl rfl ?_)
  intro w22 s23 k24
  refine nil_ ?_
  refine then_normal (K11 _ _ _ _ ?_)
  refine wp_ret ?_
  have O25 := (OS.step O16 s23 (Ap.symm p19))
  have hS26 := (Sub.trans (Sub.trans (Sub.trans hS (Step.up s8)) (Step.up s15)) (Step.up s23))
  have E27 := (Evo.thenW E21 (Step.evo s23) k20.2.2)
  refine end_ret hQ (.agg #[(.slice (some ⟨b12, 0, none⟩) 1 1), (.int .i64 e)]) (rs_single Tryd.results20 (rs_agg [(.slice (some ⟨b12, 0, none⟩) 1 1), (.int .i64 e)] (by kernel_rfl) Tryd.isAgg45 Tryd.sizeOf45 (k24.2.1.cells' 0 rfl))) ?_
  exact ⟨(S_rectoref3_Wrong.mk ([(S_rectoref3_Part.mk word at_)]) e), hp, E27, (some ⟨b12, 0, none⟩), 1, by rw [show 1 = ([(S_rectoref3_Part.mk word at_)]).length from O25.1], (OS.out O25 hS26 hX0), re3⟩

def api_Errno_Error_p (e : Int) (Q : ByteArray → Prop) : Prop :=
  ((inR .i64 e) → (((e = (0 : Int)) → Q (ByteArray.mk #[111, 107])) ∧ ((¬ (e = (0 : Int))) → (((e = (1 : Int)) → Q (ByteArray.mk #[97, 114, 103])) ∧ ((¬ (e = (1 : Int))) → (((e = (2 : Int)) → Q (ByteArray.mk #[102, 111, 114, 109])) ∧ ((¬ (e = (2 : Int))) → (((e = (3 : Int)) → Q (ByteArray.mk #[115, 104, 111, 114, 116])) ∧ ((¬ (e = (3 : Int))) → (((e = (4 : Int)) → Q (ByteArray.mk #[108, 111, 110, 103])) ∧ ((¬ (e = (4 : Int))) → (((e = (5 : Int)) → Q (ByteArray.mk #[110, 97, 109, 101])) ∧ ((¬ (e = (5 : Int))) → (((e = (6 : Int)) → Q (ByteArray.mk #[116, 119, 105, 99, 101])) ∧ ((¬ (e = (6 : Int))) → (((e = (7 : Int)) → Q (ByteArray.mk #[115, 116, 97, 116, 101])) ∧ ((¬ (e = (7 : Int))) → (((e = (8 : Int)) → Q (ByteArray.mk #[100, 105, 114, 116, 121])) ∧ ((¬ (e = (8 : Int))) → (((e = (9 : Int)) → Q (ByteArray.mk #[99, 111, 110, 102, 108, 105, 99, 116])) ∧ ((¬ (e = (9 : Int))) → (((e = (10 : Int)) → Q (ByteArray.mk #[115, 97, 109, 101])) ∧ ((¬ (e = (10 : Int))) → (((e = (11 : Int)) → Q (ByteArray.mk #[119, 97, 121])) ∧ ((¬ (e = (11 : Int))) → (((e = (12 : Int)) → Q (ByteArray.mk #[115, 117, 109])) ∧ ((¬ (e = (12 : Int))) → (((e = (13 : Int)) → Q (ByteArray.mk #[100, 111, 119, 110])) ∧ ((¬ (e = (13 : Int))) → (((e = (14 : Int)) → Q (ByteArray.mk #[113, 117, 111, 116, 97])) ∧ ((¬ (e = (14 : Int))) → Q (ByteArray.mk #[101, 114, 114, 111, 114]))))))))))))))))))))))))))))))))
set_option maxRecDepth 20000 in
set_option maxHeartbeats 4000000 in
theorem api_Errno_Error_w {X : List Nat} {w : World} {e : Int} {Q : ByteArray → Prop} (hX0 : Old X w) (re1 : inR .i64 e) (hp : api_Errno_Error_p e Q) :
    Calls Tryd.prog 107 #[(.int .i64 e)] w (Ret fun v w' => ∃ (r0 : ByteArray), Q r0 ∧ Evo [] w w' ∧ v = (.string r0) ∧ r0.size ≤ maxLen) := by
  have hXo := hX0
  have E0 : Evo [] w w := RB.refl _ _ _
  have hS : Sub X X := Sub.refl _
  unfold api_Errno_Error_p at hp
  refine enter_ Tryd.func107 rfl 34 [(0, (.int .i64 e))] (by kernel_rfl) (fun Qe hQ => ?_)
  replace hp := hp re1
  refine seq_ (fun _ K2 => ?_)
  refine reg_ ?_
  refine sq (o_pv (.string (ByteArray.mk #[])) rfl (by kernel_rfl) ?_)
  refine nil_ ?_
  refine then_normal (K2 _ _ _ _ ?_)
  refine seq_ (fun _ K3 => ?_)
  refine seq_ (fun _ K4 => ?_)
  refine reg_ ?_
  refine sq (o_pv (.int .i64 e) rfl (by kernel_rfl) ?_)
  refine nil_ ?_
  refine then_normal (K4 _ _ _ _ ?_)
  refine wp_block ?_
  refine seq_ (fun _ K5 => ?_)
  refine reg_ ?_
  refine sq (o_pv (.bool (decide (e = (0 : Int)))) rfl (by kernel_rfl) ?_)
  refine sq (o_pv (.bool (decide (e = (0 : Int)))) rfl (by kernel_rfl) ?_)
  refine nil_ ?_
  refine then_normal (K5 _ _ _ _ ?_)
  refine cond_d (e = (0 : Int)) (by kernel_rfl) (fun h6 => ?_) (fun h6 => ?_)
  ·
    replace hp := hp.1 h6
    refine seq_ (fun _ K7 => ?_)
    refine reg_ ?_
    refine sq (o_pv (.string (ByteArray.mk #[111, 107])) rfl (by kernel_rfl) ?_)
    refine nil_ ?_
    refine then_normal (K7 _ _ _ _ ?_)
    refine wp_ret ?_
    refine blk_ret ?_
    refine then_ret ?_
    refine end_ret hQ (.string (ByteArray.mk #[111, 107])) (by kernel_rfl) ?_
    exact ⟨(ByteArray.mk #[111, 107]), hp, E0, rfl, (by decide)⟩
  ·
    replace hp := hp.2 h6
    refine seq_ (fun _ K8 => ?_)
    refine reg_ ?_
    refine sq (o_pv (.bool (decide (e = (1 : Int)))) rfl (by kernel_rfl) ?_)
    refine sq (o_pv (.bool (decide (e = (1 : Int)))) rfl (by kernel_rfl) ?_)
    refine nil_ ?_
    refine then_normal (K8 _ _ _ _ ?_)
    refine cond_d (e = (1 : Int)) (by kernel_rfl) (fun h9 => ?_) (fun h9 => ?_)
    ·
      replace hp := hp.1 h9
      refine seq_ (fun _ K10 => ?_)
      refine reg_ ?_
      refine sq (o_pv (.string (ByteArray.mk #[97, 114, 103])) rfl (by kernel_rfl) ?_)
      refine nil_ ?_
      refine then_normal (K10 _ _ _ _ ?_)
      refine wp_ret ?_
      refine blk_ret ?_
      refine then_ret ?_
      refine end_ret hQ (.string (ByteArray.mk #[97, 114, 103])) (by kernel_rfl) ?_
      exact ⟨(ByteArray.mk #[97, 114, 103]), hp, E0, rfl, (by decide)⟩
    ·
      replace hp := hp.2 h9
      refine seq_ (fun _ K11 => ?_)
      refine reg_ ?_
      refine sq (o_pv (.bool (decide (e = (2 : Int)))) rfl (by kernel_rfl) ?_)
      refine sq (o_pv (.bool (decide (e = (2 : Int)))) rfl (by kernel_rfl) ?_)
      refine nil_ ?_
      refine then_normal (K11 _ _ _ _ ?_)
      refine cond_d (e = (2 : Int)) (by kernel_rfl) (fun h12 => ?_) (fun h12 => ?_)
      ·
        replace hp := hp.1 h12
        refine seq_ (fun _ K13 => ?_)
        refine reg_ ?_
        refine sq (o_pv (.string (ByteArray.mk #[102, 111, 114, 109])) rfl (by kernel_rfl) ?_)
        refine nil_ ?_
        refine then_normal (K13 _ _ _ _ ?_)
        refine wp_ret ?_
        refine blk_ret ?_
        refine then_ret ?_
        refine end_ret hQ (.string (ByteArray.mk #[102, 111, 114, 109])) (by kernel_rfl) ?_
        exact ⟨(ByteArray.mk #[102, 111, 114, 109]), hp, E0, rfl, (by decide)⟩
      ·
        replace hp := hp.2 h12
        refine seq_ (fun _ K14 => ?_)
        refine reg_ ?_
        refine sq (o_pv (.bool (decide (e = (3 : Int)))) rfl (by kernel_rfl) ?_)
        refine sq (o_pv (.bool (decide (e = (3 : Int)))) rfl (by kernel_rfl) ?_)
        refine nil_ ?_
        refine then_normal (K14 _ _ _ _ ?_)
        refine cond_d (e = (3 : Int)) (by kernel_rfl) (fun h15 => ?_) (fun h15 => ?_)
        ·
          replace hp := hp.1 h15
          refine seq_ (fun _ K16 => ?_)
          refine reg_ ?_
          refine sq (o_pv (.string (ByteArray.mk #[115, 104, 111, 114, 116])) rfl (by kernel_rfl) ?_)
          refine nil_ ?_
          refine then_normal (K16 _ _ _ _ ?_)
          refine wp_ret ?_
          refine blk_ret ?_
          refine then_ret ?_
          refine end_ret hQ (.string (ByteArray.mk #[115, 104, 111, 114, 116])) (by kernel_rfl) ?_
          exact ⟨(ByteArray.mk #[115, 104, 111, 114, 116]), hp, E0, rfl, (by decide)⟩
        ·
          replace hp := hp.2 h15
          refine seq_ (fun _ K17 => ?_)
          refine reg_ ?_
          refine sq (o_pv (.bool (decide (e = (4 : Int)))) rfl (by kernel_rfl) ?_)
          refine sq (o_pv (.bool (decide (e = (4 : Int)))) rfl (by kernel_rfl) ?_)
          refine nil_ ?_
          refine then_normal (K17 _ _ _ _ ?_)
          refine cond_d (e = (4 : Int)) (by kernel_rfl) (fun h18 => ?_) (fun h18 => ?_)
          ·
            replace hp := hp.1 h18
            refine seq_ (fun _ K19 => ?_)
            refine reg_ ?_
            refine sq (o_pv (.string (ByteArray.mk #[108, 111, 110, 103])) rfl (by kernel_rfl) ?_)
            refine nil_ ?_
            refine then_normal (K19 _ _ _ _ ?_)
            refine wp_ret ?_
            refine blk_ret ?_
            refine then_ret ?_
            refine end_ret hQ (.string (ByteArray.mk #[108, 111, 110, 103])) (by kernel_rfl) ?_
            exact ⟨(ByteArray.mk #[108, 111, 110, 103]), hp, E0, rfl, (by decide)⟩
          ·
            replace hp := hp.2 h18
            refine seq_ (fun _ K20 => ?_)
            refine reg_ ?_
            refine sq (o_pv (.bool (decide (e = (5 : Int)))) rfl (by kernel_rfl) ?_)
            refine sq (o_pv (.bool (decide (e = (5 : Int)))) rfl (by kernel_rfl) ?_)
            refine nil_ ?_
            refine then_normal (K20 _ _ _ _ ?_)
            refine cond_d (e = (5 : Int)) (by kernel_rfl) (fun h21 => ?_) (fun h21 => ?_)
            ·
              replace hp := hp.1 h21
              refine seq_ (fun _ K22 => ?_)
              refine reg_ ?_
              refine sq (o_pv (.string (ByteArray.mk #[110, 97, 109, 101])) rfl (by kernel_rfl) ?_)
              refine nil_ ?_
              refine then_normal (K22 _ _ _ _ ?_)
              refine wp_ret ?_
              refine blk_ret ?_
              refine then_ret ?_
              refine end_ret hQ (.string (ByteArray.mk #[110, 97, 109, 101])) (by kernel_rfl) ?_
              exact ⟨(ByteArray.mk #[110, 97, 109, 101]), hp, E0, rfl, (by decide)⟩
            ·
              replace hp := hp.2 h21
              refine seq_ (fun _ K23 => ?_)
              refine reg_ ?_
              refine sq (o_pv (.bool (decide (e = (6 : Int)))) rfl (by kernel_rfl) ?_)
              refine sq (o_pv (.bool (decide (e = (6 : Int)))) rfl (by kernel_rfl) ?_)
              refine nil_ ?_
              refine then_normal (K23 _ _ _ _ ?_)
              refine cond_d (e = (6 : Int)) (by kernel_rfl) (fun h24 => ?_) (fun h24 => ?_)
              ·
                replace hp := hp.1 h24
                refine seq_ (fun _ K25 => ?_)
                refine reg_ ?_
                refine sq (o_pv (.string (ByteArray.mk #[116, 119, 105, 99, 101])) rfl (by kernel_rfl) ?_)
                refine nil_ ?_
                refine then_normal (K25 _ _ _ _ ?_)
                refine wp_ret ?_
                refine blk_ret ?_
                refine then_ret ?_
                refine end_ret hQ (.string (ByteArray.mk #[116, 119, 105, 99, 101])) (by kernel_rfl) ?_
                exact ⟨(ByteArray.mk #[116, 119, 105, 99, 101]), hp, E0, rfl, (by decide)⟩
              ·
                replace hp := hp.2 h24
                refine seq_ (fun _ K26 => ?_)
                refine reg_ ?_
                refine sq (o_pv (.bool (decide (e = (7 : Int)))) rfl (by kernel_rfl) ?_)
                refine sq (o_pv (.bool (decide (e = (7 : Int)))) rfl (by kernel_rfl) ?_)
                refine nil_ ?_
                refine then_normal (K26 _ _ _ _ ?_)
                refine cond_d (e = (7 : Int)) (by kernel_rfl) (fun h27 => ?_) (fun h27 => ?_)
                ·
                  replace hp := hp.1 h27
                  refine seq_ (fun _ K28 => ?_)
                  refine reg_ ?_
                  refine sq (o_pv (.string (ByteArray.mk #[115, 116, 97, 116, 101])) rfl (by kernel_rfl) ?_)
                  refine nil_ ?_
                  refine then_normal (K28 _ _ _ _ ?_)
                  refine wp_ret ?_
                  refine blk_ret ?_
                  refine then_ret ?_
                  refine end_ret hQ (.string (ByteArray.mk #[115, 116, 97, 116, 101])) (by kernel_rfl) ?_
                  exact ⟨(ByteArray.mk #[115, 116, 97, 116, 101]), hp, E0, rfl, (by decide)⟩
                ·
                  replace hp := hp.2 h27
                  refine seq_ (fun _ K29 => ?_)
                  refine reg_ ?_
                  refine sq (o_pv (.bool (decide (e = (8 : Int)))) rfl (by kernel_rfl) ?_)
                  refine sq (o_pv (.bool (decide (e = (8 : Int)))) rfl (by kernel_rfl) ?_)
                  refine nil_ ?_
                  refine then_normal (K29 _ _ _ _ ?_)
                  refine cond_d (e = (8 : Int)) (by kernel_rfl) (fun h30 => ?_) (fun h30 => ?_)
                  ·
                    replace hp := hp.1 h30
                    refine seq_ (fun _ K31 => ?_)
                    refine reg_ ?_
                    refine sq (o_pv (.string (ByteArray.mk #[100, 105, 114, 116, 121])) rfl (by kernel_rfl) ?_)
                    refine nil_ ?_
                    refine then_normal (K31 _ _ _ _ ?_)
                    refine wp_ret ?_
                    refine blk_ret ?_
                    refine then_ret ?_
                    refine end_ret hQ (.string (ByteArray.mk #[100, 105, 114, 116, 121])) (by kernel_rfl) ?_
                    exact ⟨(ByteArray.mk #[100, 105, 114, 116, 121]), hp, E0, rfl, (by decide)⟩
                  ·
                    replace hp := hp.2 h30
                    refine seq_ (fun _ K32 => ?_)
                    refine reg_ ?_
                    refine sq (o_pv (.bool (decide (e = (9 : Int)))) rfl (by kernel_rfl) ?_)
                    refine sq (o_pv (.bool (decide (e = (9 : Int)))) rfl (by kernel_rfl) ?_)
                    refine nil_ ?_
                    refine then_normal (K32 _ _ _ _ ?_)
                    refine cond_d (e = (9 : Int)) (by kernel_rfl) (fun h33 => ?_) (fun h33 => ?_)
                    ·
                      replace hp := hp.1 h33
                      refine seq_ (fun _ K34 => ?_)
                      refine reg_ ?_
                      refine sq (o_pv (.string (ByteArray.mk #[99, 111, 110, 102, 108, 105, 99, 116])) rfl (by kernel_rfl) ?_)
                      refine nil_ ?_
                      refine then_normal (K34 _ _ _ _ ?_)
                      refine wp_ret ?_
                      refine blk_ret ?_
                      refine then_ret ?_
                      refine end_ret hQ (.string (ByteArray.mk #[99, 111, 110, 102, 108, 105, 99, 116])) (by kernel_rfl) ?_
                      exact ⟨(ByteArray.mk #[99, 111, 110, 102, 108, 105, 99, 116]), hp, E0, rfl, (by decide)⟩
                    ·
                      replace hp := hp.2 h33
                      refine seq_ (fun _ K35 => ?_)
                      refine reg_ ?_
                      refine sq (o_pv (.bool (decide (e = (10 : Int)))) rfl (by kernel_rfl) ?_)
                      refine sq (o_pv (.bool (decide (e = (10 : Int)))) rfl (by kernel_rfl) ?_)
                      refine nil_ ?_
                      refine then_normal (K35 _ _ _ _ ?_)
                      refine cond_d (e = (10 : Int)) (by kernel_rfl) (fun h36 => ?_) (fun h36 => ?_)
                      ·
                        replace hp := hp.1 h36
                        refine seq_ (fun _ K37 => ?_)
                        refine reg_ ?_
                        refine sq (o_pv (.string (ByteArray.mk #[115, 97, 109, 101])) rfl (by kernel_rfl) ?_)
                        refine nil_ ?_
                        refine then_normal (K37 _ _ _ _ ?_)
                        refine wp_ret ?_
                        refine blk_ret ?_
                        refine then_ret ?_
                        refine end_ret hQ (.string (ByteArray.mk #[115, 97, 109, 101])) (by kernel_rfl) ?_
                        exact ⟨(ByteArray.mk #[115, 97, 109, 101]), hp, E0, rfl, (by decide)⟩
                      ·
                        replace hp := hp.2 h36
                        refine seq_ (fun _ K38 => ?_)
                        refine reg_ ?_
                        refine sq (o_pv (.bool (decide (e = (11 : Int)))) rfl (by kernel_rfl) ?_)
                        refine sq (o_pv (.bool (decide (e = (11 : Int)))) rfl (by kernel_rfl) ?_)
                        refine nil_ ?_
                        refine then_normal (K38 _ _ _ _ ?_)
                        refine cond_d (e = (11 : Int)) (by kernel_rfl) (fun h39 => ?_) (fun h39 => ?_)
                        ·
                          replace hp := hp.1 h39
                          refine seq_ (fun _ K40 => ?_)
                          refine reg_ ?_
                          refine sq (o_pv (.string (ByteArray.mk #[119, 97, 121])) rfl (by kernel_rfl) ?_)
                          refine nil_ ?_
                          refine then_normal (K40 _ _ _ _ ?_)
                          refine wp_ret ?_
                          refine blk_ret ?_
                          refine then_ret ?_
                          refine end_ret hQ (.string (ByteArray.mk #[119, 97, 121])) (by kernel_rfl) ?_
                          exact ⟨(ByteArray.mk #[119, 97, 121]), hp, E0, rfl, (by decide)⟩
                        ·
                          replace hp := hp.2 h39
                          refine seq_ (fun _ K41 => ?_)
                          refine reg_ ?_
                          refine sq (o_pv (.bool (decide (e = (12 : Int)))) rfl (by kernel_rfl) ?_)
                          refine sq (o_pv (.bool (decide (e = (12 : Int)))) rfl (by kernel_rfl) ?_)
                          refine nil_ ?_
                          refine then_normal (K41 _ _ _ _ ?_)
                          refine cond_d (e = (12 : Int)) (by kernel_rfl) (fun h42 => ?_) (fun h42 => ?_)
                          ·
                            replace hp := hp.1 h42
                            refine seq_ (fun _ K43 => ?_)
                            refine reg_ ?_
                            refine sq (o_pv (.string (ByteArray.mk #[115, 117, 109])) rfl (by kernel_rfl) ?_)
                            refine nil_ ?_
                            refine then_normal (K43 _ _ _ _ ?_)
                            refine wp_ret ?_
                            refine blk_ret ?_
                            refine then_ret ?_
                            refine end_ret hQ (.string (ByteArray.mk #[115, 117, 109])) (by kernel_rfl) ?_
                            exact ⟨(ByteArray.mk #[115, 117, 109]), hp, E0, rfl, (by decide)⟩
                          ·
                            replace hp := hp.2 h42
                            refine seq_ (fun _ K44 => ?_)
                            refine reg_ ?_
                            refine sq (o_pv (.bool (decide (e = (13 : Int)))) rfl (by kernel_rfl) ?_)
                            refine sq (o_pv (.bool (decide (e = (13 : Int)))) rfl (by kernel_rfl) ?_)
                            refine nil_ ?_
                            refine then_normal (K44 _ _ _ _ ?_)
                            refine cond_d (e = (13 : Int)) (by kernel_rfl) (fun h45 => ?_) (fun h45 => ?_)
                            ·
                              replace hp := hp.1 h45
                              refine seq_ (fun _ K46 => ?_)
                              refine reg_ ?_
                              refine sq (o_pv (.string (ByteArray.mk #[100, 111, 119, 110])) rfl (by kernel_rfl) ?_)
                              refine nil_ ?_
                              refine then_normal (K46 _ _ _ _ ?_)
                              refine wp_ret ?_
                              refine blk_ret ?_
                              refine then_ret ?_
                              refine end_ret hQ (.string (ByteArray.mk #[100, 111, 119, 110])) (by kernel_rfl) ?_
                              exact ⟨(ByteArray.mk #[100, 111, 119, 110]), hp, E0, rfl, (by decide)⟩
                            ·
                              replace hp := hp.2 h45
                              refine seq_ (fun _ K47 => ?_)
                              refine reg_ ?_
                              refine sq (o_pv (.bool (decide (e = (14 : Int)))) rfl (by kernel_rfl) ?_)
                              refine sq (o_pv (.bool (decide (e = (14 : Int)))) rfl (by kernel_rfl) ?_)
                              refine nil_ ?_
                              refine then_normal (K47 _ _ _ _ ?_)
                              refine cond_d (e = (14 : Int)) (by kernel_rfl) (fun h48 => ?_) (fun h48 => ?_)
                              ·
                                replace hp := hp.1 h48
                                refine seq_ (fun _ K49 => ?_)
                                refine reg_ ?_
                                refine sq (o_pv (.string (ByteArray.mk #[113, 117, 111, 116, 97])) rfl (by kernel_rfl) ?_)
                                refine nil_ ?_
                                refine then_normal (K49 _ _ _ _ ?_)
                                refine wp_ret ?_
                                refine blk_ret ?_
                                refine then_ret ?_
                                refine end_ret hQ (.string (ByteArray.mk #[113, 117, 111, 116, 97])) (by kernel_rfl) ?_
                                exact ⟨(ByteArray.mk #[113, 117, 111, 116, 97]), hp, E0, rfl, (by decide)⟩
                              ·
                                replace hp := hp.2 h48
                                refine wp_skip ?_
                                refine blk_normal ?_
                                refine then_normal (K3 _ _ _ _ ?_)
                                refine seq_ (fun _ K50 => ?_)
                                refine reg_ ?_
                                refine sq (o_pv (.string (ByteArray.mk #[101, 114, 114, 111, 114])) rfl (by kernel_rfl) ?_)
                                refine nil_ ?_
                                refine then_normal (K50 _ _ _ _ ?_)
                                refine wp_ret ?_
                                refine end_ret hQ (.string (ByteArray.mk #[101, 114, 114, 111, 114])) (by kernel_rfl) ?_
                                exact ⟨(ByteArray.mk #[101, 114, 114, 111, 114]), hp, E0, rfl, (by decide)⟩

def rectoref3_Decimal_p0 (R : Int → (ByteArray → Prop) → Prop) (n_ : Int) (Q : ByteArray → Prop) : Prop :=
  ((inR .i64 n_) → (((n_ < (0 : Int)) → (((n_ = (-9223372036854775808 : Int)) → Q (ByteArray.mk #[45, 57, 50, 50, 51, 51, 55, 50, 48, 51, 54, 56, 53, 52, 55, 55, 53, 56, 48, 56])) ∧ ((¬ (n_ = (-9223372036854775808 : Int))) → ((inR .i64 ((0 : Int) - n_)) ∧ (R ((0 : Int) - n_) (fun (r12 : ByteArray) => ((r12.size ≤ maxLen) → ((((ByteArray.mk #[45]) ++ r12).size ≤ maxLen) ∧ Q ((ByteArray.mk #[45]) ++ r12))))))))) ∧ ((¬ (n_ < (0 : Int))) → ((0 ≤ n_) ∧ ((inR .i64 ((48 : Int) + (n_ % (10 : Int)))) ∧ (∃ (I53 : Int → ByteArray → Prop) (m54 : Int → ByteArray → Nat), (I53 n_ (strOfNums ([iwrap .u8 ((48 : Int) + (n_ % (10 : Int)))]))) ∧ (∀ (n_30 : Int) (s32 : ByteArray), (I53 n_30 s32) → (inR .i64 n_30) → (s32.size ≤ maxLen) → (((n_30 ≥ (10 : Int)) → ((0 ≤ n_30) ∧ ((0 ≤ (n_30 / (10 : Int))) ∧ ((inR .i64 ((48 : Int) + ((n_30 / (10 : Int)) % (10 : Int)))) ∧ ((((strOfNums ([iwrap .u8 ((48 : Int) + ((n_30 / (10 : Int)) % (10 : Int)))])) ++ s32).size ≤ maxLen) ∧ ((I53 (n_30 / (10 : Int)) ((strOfNums ([iwrap .u8 ((48 : Int) + ((n_30 / (10 : Int)) % (10 : Int)))])) ++ s32)) ∧ m54 (n_30 / (10 : Int)) ((strOfNums ([iwrap .u8 ((48 : Int) + ((n_30 / (10 : Int)) % (10 : Int)))])) ++ s32) < m54 n_30 s32)))))) ∧ ((¬ (n_30 ≥ (10 : Int))) → Q s32)))))))))
set_option maxRecDepth 20000 in
set_option maxHeartbeats 4000000 in
theorem rectoref3_Decimal_w0 {R : Int → (ByteArray → Prop) → Prop} (hR : ∀ {X : List Nat} {w : World} {n_ : Int} {Q : ByteArray → Prop} (hX0 : Old X w) (rn_1 : inR .i64 n_) (_hp : R n_ Q), Calls Tryd.prog 62 #[(.int .i64 n_)] w (Ret fun v w' => ∃ (r0 : ByteArray), Q r0 ∧ Evo [] w w' ∧ v = (.string r0) ∧ r0.size ≤ maxLen)) {X : List Nat} {w : World} {n_ : Int} {Q : ByteArray → Prop} (hX0 : Old X w) (rn_1 : inR .i64 n_) (hp : rectoref3_Decimal_p0 R n_ Q) :
    Calls Tryd.prog 62 #[(.int .i64 n_)] w (Ret fun v w' => ∃ (r0 : ByteArray), Q r0 ∧ Evo [] w w' ∧ v = (.string r0) ∧ r0.size ≤ maxLen) := by
  have hXo := hX0
  have E0 : Evo [] w w := RB.refl _ _ _
  have hS : Sub X X := Sub.refl _
  unfold rectoref3_Decimal_p0 at hp
  refine enter_ Tryd.func62 rfl 31 [(0, (.int .i64 n_))] (by kernel_rfl) (fun Qe hQ => ?_)
  replace hp := hp rn_1
  refine seq_ (fun _ K2 => ?_)
  refine reg_ ?_
  refine sq (o_pv (.string (ByteArray.mk #[])) rfl (by kernel_rfl) ?_)
  refine nil_ ?_
  refine then_normal (K2 _ _ _ _ ?_)
  refine seq_ (fun _ K3 => ?_)
  refine seq_ (fun _ K4 => ?_)
  refine reg_ ?_
  refine sq (o_pv (.int .i64 n_) rfl (by kernel_rfl) ?_)
  refine sq (o_pv (.bool (decide (n_ < (0 : Int)))) rfl (by kernel_rfl) ?_)
  refine nil_ ?_
  refine then_normal (K4 _ _ _ _ ?_)
  refine cond_d (n_ < (0 : Int)) (by kernel_rfl) (fun h5 => ?_) (fun h5 => ?_)
  ·
    replace hp := hp.1 h5
    refine seq_ (fun _ K6 => ?_)
    refine seq_ (fun _ K7 => ?_)
    refine reg_ ?_
    refine sq (o_pv (.int .i64 n_) rfl (by kernel_rfl) ?_)
    refine sq (o_pv (.bool (decide (n_ = (-9223372036854775808 : Int)))) rfl (by kernel_rfl) ?_)
    refine nil_ ?_
    refine then_normal (K7 _ _ _ _ ?_)
    refine cond_d (n_ = (-9223372036854775808 : Int)) (by kernel_rfl) (fun h8 => ?_) (fun h8 => ?_)
    ·
      replace hp := hp.1 h8
      refine seq_ (fun _ K9 => ?_)
      refine reg_ ?_
      refine sq (o_pv (.string (ByteArray.mk #[45, 57, 50, 50, 51, 51, 55, 50, 48, 51, 54, 56, 53, 52, 55, 55, 53, 56, 48, 56])) rfl (by kernel_rfl) ?_)
      refine nil_ ?_
      refine then_normal (K9 _ _ _ _ ?_)
      refine wp_ret ?_
      refine then_ret ?_
      refine then_ret ?_
      refine end_ret hQ (.string (ByteArray.mk #[45, 57, 50, 50, 51, 51, 55, 50, 48, 51, 54, 56, 53, 52, 55, 55, 53, 56, 48, 56])) (by kernel_rfl) ?_
      exact ⟨(ByteArray.mk #[45, 57, 50, 50, 51, 51, 55, 50, 48, 51, 54, 56, 53, 52, 55, 55, 53, 56, 48, 56]), hp, E0, rfl, (by decide)⟩
    ·
      replace hp := hp.2 h8
      refine wp_skip ?_
      refine then_normal (K6 _ _ _ _ ?_)
      refine seq_ (fun _ K10 => ?_)
      refine reg_ ?_
      refine sq (o_pv (.int .i64 n_) rfl (by kernel_rfl) ?_)
      obtain ⟨h11, hp⟩ := hp
      refine sq (o_pv (.int .i64 ((0 : Int) - n_)) rfl (x_sub2 (k := .i64) (a := (0 : Int)) (b := n_) ((0 : Int) - n_) (by kernel_rfl) (by kernel_rfl) (wrap_inR h11)) ?_)
      refine sq (o_call 62 #[(.int .i64 ((0 : Int) - n_))] rfl (x_call Tryd.call62 (by kernel_rfl)) (hR (X := []) (n_ := (0 : Int) - n_) (Old.nil _) h11 hp) ?_)
      rintro _ w13 ⟨r12, hp, e14, rfl, zr16⟩
      have s15 := Step.of0 X e14
      replace hp := hp zr16
      obtain ⟨h17, hp⟩ := hp
      refine sq (o_pv (.string ((ByteArray.mk #[45]) ++ r12)) rfl (x_cat (by kernel_rfl) (by kernel_rfl) h17) ?_)
      refine sq (o_pv (.string ((ByteArray.mk #[45]) ++ r12)) rfl (by kernel_rfl) ?_)
      refine nil_ ?_
      refine then_normal (K10 _ _ _ _ ?_)
      refine wp_ret ?_
      refine then_ret ?_
      have E18 := (Evo.then0 E0 e14)
      refine end_ret hQ (.string ((ByteArray.mk #[45]) ++ r12)) (by kernel_rfl) ?_
      exact ⟨((ByteArray.mk #[45]) ++ r12), hp, E18, rfl, h17⟩
  ·
    replace hp := hp.2 h5
    refine wp_skip ?_
    refine then_normal (K3 _ _ _ _ ?_)
    refine seq_ (fun _ K19 => ?_)
    refine reg_ ?_
    refine sq (o_pv (.int .i64 n_) rfl (by kernel_rfl) ?_)
    obtain ⟨h20, hp⟩ := hp
    refine sq (o_pv (.int .i64 (n_ % (10 : Int))) rfl (x_rem2 (k := .i64) (a := n_) (b := (10 : Int)) (n_ % (10 : Int)) (by kernel_rfl) (by kernel_rfl) h20 (by decide) rfl (wrap_inR (inR_rem h20 (by decide) rn_1 (by decide)))) ?_)
    obtain ⟨h21, hp⟩ := hp
    refine sq (o_pv (.int .i64 ((48 : Int) + (n_ % (10 : Int)))) rfl (x_add2 (k := .i64) (a := (48 : Int)) (b := n_ % (10 : Int)) ((48 : Int) + (n_ % (10 : Int))) (by kernel_rfl) (by kernel_rfl) (wrap_inR h21)) ?_)
    refine sq (o_pv (.int .u8 (iwrap .u8 ((48 : Int) + (n_ % (10 : Int))))) rfl (x_convw (k := .i64) Tryd.underlying3 Tryd.underlying5 (by kernel_rfl)) ?_)
    refine sq (o_rowX (R := (rInt .u8)) [(.int .u8 (iwrap .u8 ((48 : Int) + (n_ % (10 : Int)))))] [iwrap .u8 ((48 : Int) + (n_ % (10 : Int)))] 5 1 (X := X) (B := w.heap.size) E0.size rfl (by kernel_rfl) (Flat.cons (cs := [(.int .u8 (iwrap .u8 ((48 : Int) + (n_ % (10 : Int)))))]) (rInt_mk (inR_iwrap _ _)) Flat.nil) rfl (by decide) ?_)
    intro b22 w23 X24 s25 O26 n27
    have hl28 := OS.len O26
    refine sq (o_pv (.string (strOfNums ([iwrap .u8 ((48 : Int) + (n_ % (10 : Int)))]))) rfl (x_b2s_sl (a := (some ⟨b22, 0, none⟩)) (len := 1) (c := 1) ([iwrap .u8 ((48 : Int) + (n_ % (10 : Int)))]) Tryd.underlying37 Tryd.underlying5 Tryd.underlying9 (by kernel_rfl) O26.1 (OS.rd O26)) ?_)
    refine sq (o_pv (.string (strOfNums ([iwrap .u8 ((48 : Int) + (n_ % (10 : Int)))]))) rfl (by kernel_rfl) ?_)
    refine nil_ ?_
    refine then_normal (K19 _ _ _ _ ?_)
    refine seq_ (fun _ K29 => ?_)
    refine wp_block ?_
    have hXo63 := (Old.step hXo s25)
    have E64 := (Evo.then0 E0 (Step.evo s25))
    have hS65 := (Sub.trans hS (Step.up s25))
    obtain ⟨I53, m54, hI55, hp⟩ := hp
    refine loop_ 1073479689 (fun kq lq w57 => ∃ (X58 : List Nat) (n_30 : Int) (s32 : ByteArray), (lq = [(0, (.int .i64 n_30)), (3, (.string s32))]) ∧ (kq = m54 n_30 s32) ∧ (Evo [] w w57) ∧ (Old X58 w57) ∧ (Sub X X58) ∧ (inR .i64 n_30) ∧ (s32.size ≤ maxLen) ∧ (I53 n_30 s32)) (m54 n_ (strOfNums ([iwrap .u8 ((48 : Int) + (n_ % (10 : Int)))]))) [(0, (.int .i64 n_)), (3, (.string (strOfNums ([iwrap .u8 ((48 : Int) + (n_ % (10 : Int)))]))))] (vs_cons (by kernel_rfl) (vs_cons (by kernel_rfl) vs_nil)) ⟨X24, n_, (strOfNums ([iwrap .u8 ((48 : Int) + (n_ % (10 : Int)))])), rfl, rfl, E64, hXo63, hS65, rn_1, (strOfNums_le hl28), hI55⟩ ?_
    rintro _ _ w57 g60 ⟨X58, n_30, s32, rfl, rfl, E66, hXo67, hS68, rn_31, zs33, hI56⟩ Kl61 hA62
    replace hp := hp n_30 s32 hI56 rn_31 zs33
    refine seq_ (fun _ K69 => ?_)
    refine seq_ (fun _ K70 => ?_)
    refine reg_ ?_
    refine sq (o_pv (.int .i64 n_30) rfl (by kernel_rfl) ?_)
    refine sq (o_pv (.bool (decide (n_30 ≥ (10 : Int)))) rfl (by kernel_rfl) ?_)
    refine nil_ ?_
    refine then_normal (K70 _ _ _ _ ?_)
    refine cond_d (n_30 ≥ (10 : Int)) (by kernel_rfl) (fun h71 => ?_) (fun h71 => ?_)
    ·
      replace hp := hp.1 h71
      refine wp_skip ?_
      refine then_normal (K69 _ _ _ _ ?_)
      refine wp_block ?_
      refine seq_ (fun _ K72 => ?_)
      refine reg_ ?_
      refine sq (o_pv (.int .i64 n_30) rfl (by kernel_rfl) ?_)
      obtain ⟨h73, hp⟩ := hp
      refine sq (o_pv (.int .i64 (n_30 / (10 : Int))) rfl (x_quo2 (k := .i64) (a := n_30) (b := (10 : Int)) (n_30 / (10 : Int)) (by kernel_rfl) (by kernel_rfl) h73 (by decide) rfl (wrap_inR (inR_quo h73 (by decide) rn_31 (by decide)))) ?_)
      refine sq (o_pv (.int .i64 (n_30 / (10 : Int))) rfl (by kernel_rfl) ?_)
      refine nil_ ?_
      refine then_normal (K72 _ _ _ _ ?_)
      refine reg_ ?_
      refine sq (o_pv (.int .i64 (n_30 / (10 : Int))) rfl (by kernel_rfl) ?_)
      obtain ⟨h74, hp⟩ := hp
      refine sq (o_pv (.int .i64 ((n_30 / (10 : Int)) % (10 : Int))) rfl (x_rem2 (k := .i64) (a := n_30 / (10 : Int)) (b := (10 : Int)) ((n_30 / (10 : Int)) % (10 : Int)) (by kernel_rfl) (by kernel_rfl) h74 (by decide) rfl (wrap_inR (inR_rem h74 (by decide) (inR_quo h73 (by decide) rn_31 (by decide)) (by decide)))) ?_)
      obtain ⟨h75, hp⟩ := hp
      refine sq (o_pv (.int .i64 ((48 : Int) + ((n_30 / (10 : Int)) % (10 : Int)))) rfl (x_add2 (k := .i64) (a := (48 : Int)) (b := (n_30 / (10 : Int)) % (10 : Int)) ((48 : Int) + ((n_30 / (10 : Int)) % (10 : Int))) (by kernel_rfl) (by kernel_rfl) (wrap_inR h75)) ?_)
      refine sq (o_pv (.int .u8 (iwrap .u8 ((48 : Int) + ((n_30 / (10 : Int)) % (10 : Int))))) rfl (x_convw (k := .i64) Tryd.underlying3 Tryd.underlying5 (by kernel_rfl)) ?_)
      refine sq (o_rowX (R := (rInt .u8)) [(.int .u8 (iwrap .u8 ((48 : Int) + ((n_30 / (10 : Int)) % (10 : Int)))))] [iwrap .u8 ((48 : Int) + ((n_30 / (10 : Int)) % (10 : Int)))] 5 1 (X := X58) (B := w.heap.size) E66.size rfl (by kernel_rfl) (Flat.cons (cs := [(.int .u8 (iwrap .u8 ((48 : Int) + ((n_30 / (10 : Int)) % (10 : Int)))))]) (rInt_mk (inR_iwrap _ _)) Flat.nil) rfl (by decide) ?_)
      intro b76 w77 X78 s79 O80 n81
      have hl82 := OS.len O80
      refine sq (o_pv (.string (strOfNums ([iwrap .u8 ((48 : Int) + ((n_30 / (10 : Int)) % (10 : Int)))]))) rfl (x_b2s_sl (a := (some ⟨b76, 0, none⟩)) (len := 1) (c := 1) ([iwrap .u8 ((48 : Int) + ((n_30 / (10 : Int)) % (10 : Int)))]) Tryd.underlying37 Tryd.underlying5 Tryd.underlying9 (by kernel_rfl) O80.1 (OS.rd O80)) ?_)
      refine sq (o_pv (.string s32) rfl (by kernel_rfl) ?_)
      obtain ⟨h83, hp⟩ := hp
      refine sq (o_pv (.string ((strOfNums ([iwrap .u8 ((48 : Int) + ((n_30 / (10 : Int)) % (10 : Int)))])) ++ s32)) rfl (x_cat (by kernel_rfl) (by kernel_rfl) h83) ?_)
      refine sq (o_pv (.string ((strOfNums ([iwrap .u8 ((48 : Int) + ((n_30 / (10 : Int)) % (10 : Int)))])) ++ s32)) rfl (by kernel_rfl) ?_)
      refine nil_ ?_
      refine blk_normal ?_
      have E84 := (Evo.then0 E66 (Step.evo s79))
      have hXo85 := (Old.step hXo67 s79)
      have hS86 := (Sub.trans hS68 (Step.up s79))
      refine then_normal (hA62 _ _ _ ⟨_, [(0, (.int .i64 (n_30 / (10 : Int)))), (3, (.string ((strOfNums ([iwrap .u8 ((48 : Int) + ((n_30 / (10 : Int)) % (10 : Int)))])) ++ s32)))], hp.2, fit_mk (AgB.mix _ _ _) (by kernel_rfl) (vs_cons (by kernel_rfl) (vs_cons (by kernel_rfl) vs_nil)), ?_⟩)
      exact ⟨X78, (n_30 / (10 : Int)), ((strOfNums ([iwrap .u8 ((48 : Int) + ((n_30 / (10 : Int)) % (10 : Int)))])) ++ s32), rfl, rfl, E84, hXo85, hS86, (inR_quo h73 (by decide) rn_31 (by decide)), h83, hp.1⟩
    ·
      replace hp := hp.2 h71
      refine wp_exit ?_
      refine then_exit ?_
      refine then_exit ?_
      refine blk_exit ?_
      refine then_normal (K29 _ _ _ _ ?_)
      refine seq_ (fun _ K87 => ?_)
      refine reg_ ?_
      refine sq (o_pv (.string s32) rfl (by kernel_rfl) ?_)
      refine sq (o_pv (.string s32) rfl (by kernel_rfl) ?_)
      refine nil_ ?_
      refine then_normal (K87 _ _ _ _ ?_)
      refine wp_ret ?_
      refine end_ret hQ (.string s32) (by kernel_rfl) ?_
      exact ⟨s32, hp, E66, rfl, zs33⟩
def rectoref3_Decimal_pk : Nat → Int → (ByteArray → Prop) → Prop
  | 0 => fun _ _ => False
  | k + 1 => rectoref3_Decimal_p0 (rectoref3_Decimal_pk k)
theorem rectoref3_Decimal_wk : ∀ (k : Nat) {X : List Nat} {w : World} {n_ : Int} {Q : ByteArray → Prop} (hX0 : Old X w) (rn_1 : inR .i64 n_) (_hp : rectoref3_Decimal_pk k n_ Q), Calls Tryd.prog 62 #[(.int .i64 n_)] w (Ret fun v w' => ∃ (r0 : ByteArray), Q r0 ∧ Evo [] w w' ∧ v = (.string r0) ∧ r0.size ≤ maxLen) := by
  intro k
  induction k with
  | zero => intro _ _ _ _ _ _ hp; exact hp.elim
  | succ k ih => intro X w n_ Q hX0 rn_1 hp; exact rectoref3_Decimal_w0 (R := rectoref3_Decimal_pk k) (fun hX0 rn_1 hp => ih hX0 rn_1 hp) hX0 rn_1 hp
def rectoref3_Decimal_p (n_ : Int) (Q : ByteArray → Prop) : Prop := ∃ k, rectoref3_Decimal_pk k n_ Q
theorem rectoref3_Decimal_w {X : List Nat} {w : World} {n_ : Int} {Q : ByteArray → Prop} (hX0 : Old X w) (rn_1 : inR .i64 n_) (hp : rectoref3_Decimal_p n_ Q) :
    Calls Tryd.prog 62 #[(.int .i64 n_)] w (Ret fun v w' => ∃ (r0 : ByteArray), Q r0 ∧ Evo [] w w' ∧ v = (.string r0) ∧ r0.size ≤ maxLen) := by
  obtain ⟨k, hp⟩ := hp
  exact rectoref3_Decimal_wk k hX0 rn_1 hp

def rectoref3_Word_p (e : Int) (Q : ByteArray → Prop) : Prop :=
  ((inR .i64 e) → ((((e < (0 : Int)) ∨ (e ≥ (([(ByteArray.mk #[111, 107]), (ByteArray.mk #[97, 114, 103]), (ByteArray.mk #[102, 111, 114, 109]), (ByteArray.mk #[115, 104, 111, 114, 116]), (ByteArray.mk #[108, 111, 110, 103]), (ByteArray.mk #[110, 97, 109, 101]), (ByteArray.mk #[116, 119, 105, 99, 101]), (ByteArray.mk #[115, 116, 97, 116, 101]), (ByteArray.mk #[100, 105, 114, 116, 121]), (ByteArray.mk #[99, 111, 110, 102, 108, 105, 99, 116]), (ByteArray.mk #[115, 97, 109, 101]), (ByteArray.mk #[119, 97, 121]), (ByteArray.mk #[115, 117, 109]), (ByteArray.mk #[100, 111, 119, 110]), (ByteArray.mk #[113, 117, 111, 116, 97])]).length : Int))) → Q (ByteArray.mk #[101, 114, 114, 111, 114])) ∧ ((¬ ((e < (0 : Int)) ∨ (e ≥ (([(ByteArray.mk #[111, 107]), (ByteArray.mk #[97, 114, 103]), (ByteArray.mk #[102, 111, 114, 109]), (ByteArray.mk #[115, 104, 111, 114, 116]), (ByteArray.mk #[108, 111, 110, 103]), (ByteArray.mk #[110, 97, 109, 101]), (ByteArray.mk #[116, 119, 105, 99, 101]), (ByteArray.mk #[115, 116, 97, 116, 101]), (ByteArray.mk #[100, 105, 114, 116, 121]), (ByteArray.mk #[99, 111, 110, 102, 108, 105, 99, 116]), (ByteArray.mk #[115, 97, 109, 101]), (ByteArray.mk #[119, 97, 121]), (ByteArray.mk #[115, 117, 109]), (ByteArray.mk #[100, 111, 119, 110]), (ByteArray.mk #[113, 117, 111, 116, 97])]).length : Int)))) → ((inL ([(ByteArray.mk #[111, 107]), (ByteArray.mk #[97, 114, 103]), (ByteArray.mk #[102, 111, 114, 109]), (ByteArray.mk #[115, 104, 111, 114, 116]), (ByteArray.mk #[108, 111, 110, 103]), (ByteArray.mk #[110, 97, 109, 101]), (ByteArray.mk #[116, 119, 105, 99, 101]), (ByteArray.mk #[115, 116, 97, 116, 101]), (ByteArray.mk #[100, 105, 114, 116, 121]), (ByteArray.mk #[99, 111, 110, 102, 108, 105, 99, 116]), (ByteArray.mk #[115, 97, 109, 101]), (ByteArray.mk #[119, 97, 121]), (ByteArray.mk #[115, 117, 109]), (ByteArray.mk #[100, 111, 119, 110]), (ByteArray.mk #[113, 117, 111, 116, 97])]) e) ∧ (((lget ([(ByteArray.mk #[111, 107]), (ByteArray.mk #[97, 114, 103]), (ByteArray.mk #[102, 111, 114, 109]), (ByteArray.mk #[115, 104, 111, 114, 116]), (ByteArray.mk #[108, 111, 110, 103]), (ByteArray.mk #[110, 97, 109, 101]), (ByteArray.mk #[116, 119, 105, 99, 101]), (ByteArray.mk #[115, 116, 97, 116, 101]), (ByteArray.mk #[100, 105, 114, 116, 121]), (ByteArray.mk #[99, 111, 110, 102, 108, 105, 99, 116]), (ByteArray.mk #[115, 97, 109, 101]), (ByteArray.mk #[119, 97, 121]), (ByteArray.mk #[115, 117, 109]), (ByteArray.mk #[100, 111, 119, 110]), (ByteArray.mk #[113, 117, 111, 116, 97])]) e).size ≤ maxLen) → Q (lget ([(ByteArray.mk #[111, 107]), (ByteArray.mk #[97, 114, 103]), (ByteArray.mk #[102, 111, 114, 109]), (ByteArray.mk #[115, 104, 111, 114, 116]), (ByteArray.mk #[108, 111, 110, 103]), (ByteArray.mk #[110, 97, 109, 101]), (ByteArray.mk #[116, 119, 105, 99, 101]), (ByteArray.mk #[115, 116, 97, 116, 101]), (ByteArray.mk #[100, 105, 114, 116, 121]), (ByteArray.mk #[99, 111, 110, 102, 108, 105, 99, 116]), (ByteArray.mk #[115, 97, 109, 101]), (ByteArray.mk #[119, 97, 121]), (ByteArray.mk #[115, 117, 109]), (ByteArray.mk #[100, 111, 119, 110]), (ByteArray.mk #[113, 117, 111, 116, 97])]) e))))))
set_option maxRecDepth 20000 in
set_option maxHeartbeats 4000000 in
theorem rectoref3_Word_w {X : List Nat} {w : World} {e : Int} {Q : ByteArray → Prop} (hX0 : Old X w) (re1 : inR .i64 e) (hp : rectoref3_Word_p e Q) :
    Calls Tryd.prog 63 #[(.int .i64 e)] w (Ret fun v w' => ∃ (r0 : ByteArray), Q r0 ∧ Evo [] w w' ∧ v = (.string r0) ∧ r0.size ≤ maxLen) := by
  have hXo := hX0
  have E0 : Evo [] w w := RB.refl _ _ _
  have hS : Sub X X := Sub.refl _
  unfold rectoref3_Word_p at hp
  refine enter_ Tryd.func63 rfl 17 [(0, (.int .i64 e))] (by kernel_rfl) (fun Qe hQ => ?_)
  replace hp := hp re1
  refine seq_ (fun _ K2 => ?_)
  refine reg_ ?_
  refine sq (o_pv (.string (ByteArray.mk #[])) rfl (by kernel_rfl) ?_)
  refine nil_ ?_
  refine then_normal (K2 _ _ _ _ ?_)
  refine seq_ (fun _ K3 => ?_)
  refine reg_ ?_
  refine sq (o_rowX (R := rStr) [(.string (ByteArray.mk #[111, 107])), (.string (ByteArray.mk #[97, 114, 103])), (.string (ByteArray.mk #[102, 111, 114, 109])), (.string (ByteArray.mk #[115, 104, 111, 114, 116])), (.string (ByteArray.mk #[108, 111, 110, 103])), (.string (ByteArray.mk #[110, 97, 109, 101])), (.string (ByteArray.mk #[116, 119, 105, 99, 101])), (.string (ByteArray.mk #[115, 116, 97, 116, 101])), (.string (ByteArray.mk #[100, 105, 114, 116, 121])), (.string (ByteArray.mk #[99, 111, 110, 102, 108, 105, 99, 116])), (.string (ByteArray.mk #[115, 97, 109, 101])), (.string (ByteArray.mk #[119, 97, 121])), (.string (ByteArray.mk #[115, 117, 109])), (.string (ByteArray.mk #[100, 111, 119, 110])), (.string (ByteArray.mk #[113, 117, 111, 116, 97]))] [(ByteArray.mk #[111, 107]), (ByteArray.mk #[97, 114, 103]), (ByteArray.mk #[102, 111, 114, 109]), (ByteArray.mk #[115, 104, 111, 114, 116]), (ByteArray.mk #[108, 111, 110, 103]), (ByteArray.mk #[110, 97, 109, 101]), (ByteArray.mk #[116, 119, 105, 99, 101]), (ByteArray.mk #[115, 116, 97, 116, 101]), (ByteArray.mk #[100, 105, 114, 116, 121]), (ByteArray.mk #[99, 111, 110, 102, 108, 105, 99, 116]), (ByteArray.mk #[115, 97, 109, 101]), (ByteArray.mk #[119, 97, 121]), (ByteArray.mk #[115, 117, 109]), (ByteArray.mk #[100, 111, 119, 110]), (ByteArray.mk #[113, 117, 111, 116, 97])] 9 15 (X := X) (B := w.heap.size) E0.size rfl (by kernel_rfl) (Flat.cons (cs := [(.string (ByteArray.mk #[111, 107]))]) (rStr_mk (by decide)) (Flat.cons (cs := [(.string (ByteArray.mk #[97, 114, 103]))]) (rStr_mk (by decide)) (Flat.cons (cs := [(.string (ByteArray.mk #[102, 111, 114, 109]))]) (rStr_mk (by decide)) (Flat.cons (cs := [(.string (ByteArray.mk #[115, 104, 111, 114, 116]))]) (rStr_mk (by decide)) (Flat.cons (cs := [(.string (ByteArray.mk #[108, 111, 110, 103]))]) (rStr_mk (by decide)) (Flat.cons (cs := [(.string (ByteArray.mk #[110, 97, 109, 101]))]) (rStr_mk (by decide)) (Flat.cons (cs := [(.string (ByteArray.mk #[116, 119, 105, 99, 101]))]) (rStr_mk (by decide)) (Flat.cons (cs := [(.string (ByteArray.mk #[115, 116, 97, 116, 101]))]) (rStr_mk (by decide)) (Flat.cons (cs := [(.string (ByteArray.mk #[100, 105, 114, 116, 121]))]) (rStr_mk (by decide)) (Flat.cons (cs := [(.string (ByteArray.mk #[99, 111, 110, 102, 108, 105, 99, 116]))]) (rStr_mk (by decide)) (Flat.cons (cs := [(.string (ByteArray.mk #[115, 97, 109, 101]))]) (rStr_mk (by decide)) (Flat.cons (cs := [(.string (ByteArray.mk #[119, 97, 121]))]) (rStr_mk (by decide)) (Flat.cons (cs := [(.string (ByteArray.mk #[115, 117, 109]))]) (rStr_mk (by decide)) (Flat.cons (cs := [(.string (ByteArray.mk #[100, 111, 119, 110]))]) (rStr_mk (by decide)) (Flat.cons (cs := [(.string (ByteArray.mk #[113, 117, 111, 116, 97]))]) (rStr_mk (by decide)) Flat.nil))))))))))))))) rfl (by decide) ?_)
  intro b4 w5 X6 s7 O8 n9
  refine sq (o_pv (.slice (some ⟨b4, 0, none⟩) 15 15) rfl (by kernel_rfl) ?_)
  refine nil_ ?_
  refine then_normal (K3 _ _ _ _ ?_)
  refine seq_ (fun _ K10 => ?_)
  refine seq_ (fun _ K11 => ?_)
  refine ground_ ?_
  refine join_ 8160 (fun lq w15 => lq = [(12, (.bool (decide ((e < (0 : Int)) ∨ (e ≥ (([(ByteArray.mk #[111, 107]), (ByteArray.mk #[97, 114, 103]), (ByteArray.mk #[102, 111, 114, 109]), (ByteArray.mk #[115, 104, 111, 114, 116]), (ByteArray.mk #[108, 111, 110, 103]), (ByteArray.mk #[110, 97, 109, 101]), (ByteArray.mk #[116, 119, 105, 99, 101]), (ByteArray.mk #[115, 116, 97, 116, 101]), (ByteArray.mk #[100, 105, 114, 116, 121]), (ByteArray.mk #[99, 111, 110, 102, 108, 105, 99, 116]), (ByteArray.mk #[115, 97, 109, 101]), (ByteArray.mk #[119, 97, 121]), (ByteArray.mk #[115, 117, 109]), (ByteArray.mk #[100, 111, 119, 110]), (ByteArray.mk #[113, 117, 111, 116, 97])]).length : Int))))))] ∧ w5 = w15) (fun Kj13 hJ14 => ?_) ?_
  ·
    refine reg_ ?_
    refine sq (o_pv (.int .i64 e) rfl (by kernel_rfl) ?_)
    by_cases h17 : e < (0 : Int)
    ·
      refine sq (o_pv (.bool true) rfl (x_dt (p := e < (0 : Int)) (by kernel_rfl) h17) ?_)
      refine sq (o_pv (.bool true) rfl (by kernel_rfl) ?_)
      refine sq (o_not (by kernel_rfl) ?_)
      refine sq (o_not (by kernel_rfl) ?_)
      refine sq (o_not (by kernel_rfl) ?_)
      refine sq (o_not (by kernel_rfl) ?_)
      refine sq (o_pv (.bool true) rfl (by kernel_rfl) ?_)
      refine nil_ ?_
      refine then_normal (hJ14 _ _ _ ⟨[(12, (.bool (decide ((e < (0 : Int)) ∨ (e ≥ (([(ByteArray.mk #[111, 107]), (ByteArray.mk #[97, 114, 103]), (ByteArray.mk #[102, 111, 114, 109]), (ByteArray.mk #[115, 104, 111, 114, 116]), (ByteArray.mk #[108, 111, 110, 103]), (ByteArray.mk #[110, 97, 109, 101]), (ByteArray.mk #[116, 119, 105, 99, 101]), (ByteArray.mk #[115, 116, 97, 116, 101]), (ByteArray.mk #[100, 105, 114, 116, 121]), (ByteArray.mk #[99, 111, 110, 102, 108, 105, 99, 116]), (ByteArray.mk #[115, 97, 109, 101]), (ByteArray.mk #[119, 97, 121]), (ByteArray.mk #[115, 117, 109]), (ByteArray.mk #[100, 111, 119, 110]), (ByteArray.mk #[113, 117, 111, 116, 97])]).length : Int))))))], fit_mk (fun _ _ => rfl) (by kernel_rfl) (vs_cons (Eq.trans (b := (.bool true)) (by kernel_rfl) (dec_t (iff_true_intro (Or.inl h17))).symm) vs_nil), rfl, rfl⟩)
    ·
      refine sq (o_pv (.bool false) rfl (x_df (p := e < (0 : Int)) (by kernel_rfl) h17) ?_)
      refine sq (o_pv (.bool false) rfl (by kernel_rfl) ?_)
      refine sq (o_pv (.int .i64 e) (by kernel_rfl) (by kernel_rfl) ?_)
      refine sq (o_pv (.slice (some ⟨b4, 0, none⟩) 15 15) (by kernel_rfl) (by kernel_rfl) ?_)
      refine sq (o_pv (.int .i64 (([(ByteArray.mk #[111, 107]), (ByteArray.mk #[97, 114, 103]), (ByteArray.mk #[102, 111, 114, 109]), (ByteArray.mk #[115, 104, 111, 114, 116]), (ByteArray.mk #[108, 111, 110, 103]), (ByteArray.mk #[110, 97, 109, 101]), (ByteArray.mk #[116, 119, 105, 99, 101]), (ByteArray.mk #[115, 116, 97, 116, 101]), (ByteArray.mk #[100, 105, 114, 116, 121]), (ByteArray.mk #[99, 111, 110, 102, 108, 105, 99, 116]), (ByteArray.mk #[115, 97, 109, 101]), (ByteArray.mk #[119, 97, 121]), (ByteArray.mk #[115, 117, 109]), (ByteArray.mk #[100, 111, 119, 110]), (ByteArray.mk #[113, 117, 111, 116, 97])]).length : Int)) (by kernel_rfl) (by rw [← show 15 = ([(ByteArray.mk #[111, 107]), (ByteArray.mk #[97, 114, 103]), (ByteArray.mk #[102, 111, 114, 109]), (ByteArray.mk #[115, 104, 111, 114, 116]), (ByteArray.mk #[108, 111, 110, 103]), (ByteArray.mk #[110, 97, 109, 101]), (ByteArray.mk #[116, 119, 105, 99, 101]), (ByteArray.mk #[115, 116, 97, 116, 101]), (ByteArray.mk #[100, 105, 114, 116, 121]), (ByteArray.mk #[99, 111, 110, 102, 108, 105, 99, 116]), (ByteArray.mk #[115, 97, 109, 101]), (ByteArray.mk #[119, 97, 121]), (ByteArray.mk #[115, 117, 109]), (ByteArray.mk #[100, 111, 119, 110]), (ByteArray.mk #[113, 117, 111, 116, 97])]).length from O8.1]; kernel_rfl) ?_)
      refine sq (o_pv (.bool (decide (e ≥ (([(ByteArray.mk #[111, 107]), (ByteArray.mk #[97, 114, 103]), (ByteArray.mk #[102, 111, 114, 109]), (ByteArray.mk #[115, 104, 111, 114, 116]), (ByteArray.mk #[108, 111, 110, 103]), (ByteArray.mk #[110, 97, 109, 101]), (ByteArray.mk #[116, 119, 105, 99, 101]), (ByteArray.mk #[115, 116, 97, 116, 101]), (ByteArray.mk #[100, 105, 114, 116, 121]), (ByteArray.mk #[99, 111, 110, 102, 108, 105, 99, 116]), (ByteArray.mk #[115, 97, 109, 101]), (ByteArray.mk #[119, 97, 121]), (ByteArray.mk #[115, 117, 109]), (ByteArray.mk #[100, 111, 119, 110]), (ByteArray.mk #[113, 117, 111, 116, 97])]).length : Int)))) (by kernel_rfl) (by kernel_rfl) ?_)
      refine sq (o_pv (.bool (decide (e ≥ (([(ByteArray.mk #[111, 107]), (ByteArray.mk #[97, 114, 103]), (ByteArray.mk #[102, 111, 114, 109]), (ByteArray.mk #[115, 104, 111, 114, 116]), (ByteArray.mk #[108, 111, 110, 103]), (ByteArray.mk #[110, 97, 109, 101]), (ByteArray.mk #[116, 119, 105, 99, 101]), (ByteArray.mk #[115, 116, 97, 116, 101]), (ByteArray.mk #[100, 105, 114, 116, 121]), (ByteArray.mk #[99, 111, 110, 102, 108, 105, 99, 116]), (ByteArray.mk #[115, 97, 109, 101]), (ByteArray.mk #[119, 97, 121]), (ByteArray.mk #[115, 117, 109]), (ByteArray.mk #[100, 111, 119, 110]), (ByteArray.mk #[113, 117, 111, 116, 97])]).length : Int)))) rfl (by kernel_rfl) ?_)
      refine nil_ ?_
      refine then_normal (hJ14 _ _ _ ⟨[(12, (.bool (decide ((e < (0 : Int)) ∨ (e ≥ (([(ByteArray.mk #[111, 107]), (ByteArray.mk #[97, 114, 103]), (ByteArray.mk #[102, 111, 114, 109]), (ByteArray.mk #[115, 104, 111, 114, 116]), (ByteArray.mk #[108, 111, 110, 103]), (ByteArray.mk #[110, 97, 109, 101]), (ByteArray.mk #[116, 119, 105, 99, 101]), (ByteArray.mk #[115, 116, 97, 116, 101]), (ByteArray.mk #[100, 105, 114, 116, 121]), (ByteArray.mk #[99, 111, 110, 102, 108, 105, 99, 116]), (ByteArray.mk #[115, 97, 109, 101]), (ByteArray.mk #[119, 97, 121]), (ByteArray.mk #[115, 117, 109]), (ByteArray.mk #[100, 111, 119, 110]), (ByteArray.mk #[113, 117, 111, 116, 97])]).length : Int))))))], fit_mk (fun _ _ => rfl) (by kernel_rfl) (vs_cons (Eq.trans (b := (.bool (decide (e ≥ (([(ByteArray.mk #[111, 107]), (ByteArray.mk #[97, 114, 103]), (ByteArray.mk #[102, 111, 114, 109]), (ByteArray.mk #[115, 104, 111, 114, 116]), (ByteArray.mk #[108, 111, 110, 103]), (ByteArray.mk #[110, 97, 109, 101]), (ByteArray.mk #[116, 119, 105, 99, 101]), (ByteArray.mk #[115, 116, 97, 116, 101]), (ByteArray.mk #[100, 105, 114, 116, 121]), (ByteArray.mk #[99, 111, 110, 102, 108, 105, 99, 116]), (ByteArray.mk #[115, 97, 109, 101]), (ByteArray.mk #[119, 97, 121]), (ByteArray.mk #[115, 117, 109]), (ByteArray.mk #[100, 111, 119, 110]), (ByteArray.mk #[113, 117, 111, 116, 97])]).length : Int))))) (by kernel_rfl) (dec_d ((or_iff_right h17).trans Iff.rfl)).symm) vs_nil), rfl, rfl⟩)
  ·
    rintro _ w15 g16 ⟨rfl, hw⟩
    subst hw
    refine then_normal (K11 _ _ _ _ ?_)
    refine cond_d ((e < (0 : Int)) ∨ (e ≥ (([(ByteArray.mk #[111, 107]), (ByteArray.mk #[97, 114, 103]), (ByteArray.mk #[102, 111, 114, 109]), (ByteArray.mk #[115, 104, 111, 114, 116]), (ByteArray.mk #[108, 111, 110, 103]), (ByteArray.mk #[110, 97, 109, 101]), (ByteArray.mk #[116, 119, 105, 99, 101]), (ByteArray.mk #[115, 116, 97, 116, 101]), (ByteArray.mk #[100, 105, 114, 116, 121]), (ByteArray.mk #[99, 111, 110, 102, 108, 105, 99, 116]), (ByteArray.mk #[115, 97, 109, 101]), (ByteArray.mk #[119, 97, 121]), (ByteArray.mk #[115, 117, 109]), (ByteArray.mk #[100, 111, 119, 110]), (ByteArray.mk #[113, 117, 111, 116, 97])]).length : Int))) (by kernel_rfl) (fun h18 => ?_) (fun h18 => ?_)
    ·
      replace hp := hp.1 h18
      refine seq_ (fun _ K19 => ?_)
      refine reg_ ?_
      refine sq (o_pv (.string (ByteArray.mk #[101, 114, 114, 111, 114])) rfl (by kernel_rfl) ?_)
      refine nil_ ?_
      refine then_normal (K19 _ _ _ _ ?_)
      refine wp_ret ?_
      refine then_ret ?_
      have E20 := (Evo.then0 E0 (Step.evo s7))
      refine end_ret hQ (.string (ByteArray.mk #[101, 114, 114, 111, 114])) (by kernel_rfl) ?_
      exact ⟨(ByteArray.mk #[101, 114, 114, 111, 114]), hp, E20, rfl, (by decide)⟩
    ·
      replace hp := hp.2 h18
      refine wp_skip ?_
      refine then_normal (K10 _ _ _ _ ?_)
      refine seq_ (fun _ K21 => ?_)
      refine reg_ ?_
      refine sq (o_pv (.slice (some ⟨b4, 0, none⟩) 15 15) rfl (by kernel_rfl) ?_)
      refine sq (o_pv (.int .i64 e) rfl (by kernel_rfl) ?_)
      obtain ⟨h22, hp⟩ := hp
      obtain ⟨b23, o24, cs25, ha26, nx27, lt28, ok29, hc30⟩ := Sl.atI (OS.rd O8) e h22
      obtain ⟨rfl, ze31⟩ := ok29
      replace hp := hp ze31
      refine sq (o_pv (.pointer (some ⟨b23, o24 + e.toNat * 1, none⟩)) rfl (x_ixA (m := 15) (c := 15) (k := .i64) (i := e) Tryd.underlying128 Tryd.sizeOf9 (by rw [← ha26]; kernel_rfl) (by kernel_rfl) ⟨h22.1, by rw [O8.1]; exact h22.2⟩) ?_)
      refine sq (o_pv (.string (lget ([(ByteArray.mk #[111, 107]), (ByteArray.mk #[97, 114, 103]), (ByteArray.mk #[102, 111, 114, 109]), (ByteArray.mk #[115, 104, 111, 114, 116]), (ByteArray.mk #[108, 111, 110, 103]), (ByteArray.mk #[110, 97, 109, 101]), (ByteArray.mk #[116, 119, 105, 99, 101]), (ByteArray.mk #[115, 116, 97, 116, 101]), (ByteArray.mk #[100, 105, 114, 116, 121]), (ByteArray.mk #[99, 111, 110, 102, 108, 105, 99, 116]), (ByteArray.mk #[115, 97, 109, 101]), (ByteArray.mk #[119, 97, 121]), (ByteArray.mk #[115, 117, 109]), (ByteArray.mk #[100, 111, 119, 110]), (ByteArray.mk #[113, 117, 111, 116, 97])]) e)) rfl (x_load1 (by kernel_rfl) Tryd.isAgg9 (hc30 0 _ rfl)) ?_)
      refine sq (o_pv (.string (lget ([(ByteArray.mk #[111, 107]), (ByteArray.mk #[97, 114, 103]), (ByteArray.mk #[102, 111, 114, 109]), (ByteArray.mk #[115, 104, 111, 114, 116]), (ByteArray.mk #[108, 111, 110, 103]), (ByteArray.mk #[110, 97, 109, 101]), (ByteArray.mk #[116, 119, 105, 99, 101]), (ByteArray.mk #[115, 116, 97, 116, 101]), (ByteArray.mk #[100, 105, 114, 116, 121]), (ByteArray.mk #[99, 111, 110, 102, 108, 105, 99, 116]), (ByteArray.mk #[115, 97, 109, 101]), (ByteArray.mk #[119, 97, 121]), (ByteArray.mk #[115, 117, 109]), (ByteArray.mk #[100, 111, 119, 110]), (ByteArray.mk #[113, 117, 111, 116, 97])]) e)) rfl (by kernel_rfl) ?_)
      refine nil_ ?_
      refine then_normal (K21 _ _ _ _ ?_)
      refine wp_ret ?_
      have E32 := (Evo.then0 E0 (Step.evo s7))
      refine end_ret hQ (.string (lget ([(ByteArray.mk #[111, 107]), (ByteArray.mk #[97, 114, 103]), (ByteArray.mk #[102, 111, 114, 109]), (ByteArray.mk #[115, 104, 111, 114, 116]), (ByteArray.mk #[108, 111, 110, 103]), (ByteArray.mk #[110, 97, 109, 101]), (ByteArray.mk #[116, 119, 105, 99, 101]), (ByteArray.mk #[115, 116, 97, 116, 101]), (ByteArray.mk #[100, 105, 114, 116, 121]), (ByteArray.mk #[99, 111, 110, 102, 108, 105, 99, 116]), (ByteArray.mk #[115, 97, 109, 101]), (ByteArray.mk #[119, 97, 121]), (ByteArray.mk #[115, 117, 109]), (ByteArray.mk #[100, 111, 119, 110]), (ByteArray.mk #[113, 117, 111, 116, 97])]) e)) (by kernel_rfl) ?_
      exact ⟨(lget ([(ByteArray.mk #[111, 107]), (ByteArray.mk #[97, 114, 103]), (ByteArray.mk #[102, 111, 114, 109]), (ByteArray.mk #[115, 104, 111, 114, 116]), (ByteArray.mk #[108, 111, 110, 103]), (ByteArray.mk #[110, 97, 109, 101]), (ByteArray.mk #[116, 119, 105, 99, 101]), (ByteArray.mk #[115, 116, 97, 116, 101]), (ByteArray.mk #[100, 105, 114, 116, 121]), (ByteArray.mk #[99, 111, 110, 102, 108, 105, 99, 116]), (ByteArray.mk #[115, 97, 109, 101]), (ByteArray.mk #[119, 97, 121]), (ByteArray.mk #[115, 117, 109]), (ByteArray.mk #[100, 111, 119, 110]), (ByteArray.mk #[113, 117, 111, 116, 97])]) e), hp, E32, rfl, ze31⟩

def rectoref3_Words_p (w_ : S_rectoref3_Wrong) (Q : ByteArray → Prop) : Prop :=
  ((w_.Parts.length ≤ 9223372036854775807) → ((inR .i64 w_.Err) → (∃ (I71 : ByteArray → Int → Prop) (m72 : ByteArray → Int → Nat), (I71 (ByteArray.mk #[]) (0 : Int)) ∧ (∀ (s15 : ByteArray) (i17 : Int), (I71 s15 i17) → (s15.size ≤ maxLen) → (inR .i64 i17) → (((i17 < (w_.Parts.length : Int)) → ((inL w_.Parts i17) ∧ ((((lget w_.Parts i17).Word).size ≤ maxLen) → ((inR .i64 ((lget w_.Parts i17).At)) → (((s15 ++ ((lget w_.Parts i17).Word)).size ≤ maxLen) ∧ ((((s15 ++ ((lget w_.Parts i17).Word)) ++ (ByteArray.mk #[32])).size ≤ maxLen) ∧ ((inL w_.Parts i17) ∧ ((((lget w_.Parts i17).Word).size ≤ maxLen) → ((inR .i64 ((lget w_.Parts i17).At)) → (rectoref3_Decimal_p ((lget w_.Parts i17).At) (fun (r129 : ByteArray) => ((r129.size ≤ maxLen) → (((((s15 ++ ((lget w_.Parts i17).Word)) ++ (ByteArray.mk #[32])) ++ r129).size ≤ maxLen) ∧ ((((((s15 ++ ((lget w_.Parts i17).Word)) ++ (ByteArray.mk #[32])) ++ r129) ++ (ByteArray.mk #[58, 32])).size ≤ maxLen) ∧ ((inR .i64 (i17 + (1 : Int))) ∧ ((I71 ((((s15 ++ ((lget w_.Parts i17).Word)) ++ (ByteArray.mk #[32])) ++ r129) ++ (ByteArray.mk #[58, 32])) (i17 + (1 : Int))) ∧ m72 ((((s15 ++ ((lget w_.Parts i17).Word)) ++ (ByteArray.mk #[32])) ++ r129) ++ (ByteArray.mk #[58, 32])) (i17 + (1 : Int)) < m72 s15 i17)))))))))))))))) ∧ ((¬ (i17 < (w_.Parts.length : Int))) → (rectoref3_Word_p w_.Err (fun (r144 : ByteArray) => ((r144.size ≤ maxLen) → (((s15 ++ r144).size ≤ maxLen) ∧ Q (s15 ++ r144)))))))))))
set_option maxRecDepth 20000 in
set_option maxHeartbeats 4000000 in
theorem rectoref3_Words_w {X : List Nat} {w : World} {w_ : S_rectoref3_Wrong} {aw_Parts1 : Option Addr} {cw_Parts2 : Nat} {Q : ByteArray → Prop} (hX0 : Old X w) (hw_Parts3 : Sl r_rectoref3_Part X w aw_Parts1 cw_Parts2 w_.Parts) (rw_Err4 : inR .i64 w_.Err) (hp : rectoref3_Words_p w_ Q) :
    Calls Tryd.prog 45 #[(.agg #[(.slice aw_Parts1 w_.Parts.length cw_Parts2), (.int .i64 w_.Err)])] w (Ret fun v w' => ∃ (r0 : ByteArray), Q r0 ∧ Evo [] w w' ∧ v = (.string r0) ∧ r0.size ≤ maxLen) := by
  have hXo := hX0
  have E0 : Evo [] w w := RB.refl _ _ _
  have hS : Sub X X := Sub.refl _
  unfold rectoref3_Words_p at hp
  refine enter_ Tryd.func45 rfl 35 [(0, (.agg #[(.slice aw_Parts1 w_.Parts.length cw_Parts2), (.int .i64 w_.Err)]))] (by kernel_rfl) (fun Qe hQ => ?_)
  replace hp := hp (Sl.len hw_Parts3)
  replace hp := hp rw_Err4
  refine seq_ (fun _ K5 => ?_)
  refine reg_ ?_
  refine sq (o_newX [(.slice aw_Parts1 w_.Parts.length cw_Parts2), (.int .i64 w_.Err)] 45 (X := X) (B := w.heap.size) E0.size rfl (by kernel_rfl) ?_)
  intro b6 w7 X8 s9 k10 n11
  refine sq (o_pv (.string (ByteArray.mk #[])) rfl (by kernel_rfl) ?_)
  refine nil_ ?_
  refine then_normal (K5 _ _ _ _ ?_)
  refine seq_ (fun _ K12 => ?_)
  refine reg_ ?_
  refine sq (o_pv (.string (ByteArray.mk #[])) rfl (by kernel_rfl) ?_)
  refine nil_ ?_
  refine then_normal (K12 _ _ _ _ ?_)
  refine seq_ (fun _ K13 => ?_)
  refine seq_ (fun _ K14 => ?_)
  refine reg_ ?_
  refine sq (o_pv (.int .i64 (0 : Int)) rfl (by kernel_rfl) ?_)
  refine nil_ ?_
  refine then_normal (K14 _ _ _ _ ?_)
  refine wp_block ?_
  have hw_Parts81 := (Sl.step hw_Parts3 s9)
  have hXo82 := (Old.step hXo s9)
  have E83 := (Evo.then0 E0 (Step.evo s9))
  have hS84 := (Sub.trans hS (Step.up s9))
  obtain ⟨I71, m72, hI73, hp⟩ := hp
  refine loop_ 1073741816 (fun kq lq w75 => ∃ (X76 : List Nat) (s15 : ByteArray) (i17 : Int), (lq = [(3, (.string s15)), (4, (.int .i64 i17))]) ∧ (kq = m72 s15 i17) ∧ (Evo [] w w75) ∧ (Old X76 w75) ∧ (Sub X X76) ∧ (Sl r_rectoref3_Part X76 w75 aw_Parts1 cw_Parts2 w_.Parts) ∧ (OB ([]) w.heap.size X76 w75 b6 [(.slice aw_Parts1 w_.Parts.length cw_Parts2), (.int .i64 w_.Err)] 45) ∧ (s15.size ≤ maxLen) ∧ (inR .i64 i17) ∧ (I71 s15 i17)) (m72 (ByteArray.mk #[]) (0 : Int)) [(3, (.string (ByteArray.mk #[]))), (4, (.int .i64 (0 : Int)))] (vs_cons (by kernel_rfl) (vs_cons (by kernel_rfl) vs_nil)) ⟨X8, (ByteArray.mk #[]), (0 : Int), rfl, rfl, E83, hXo82, hS84, hw_Parts81, k10, (by decide), (by decide), hI73⟩ ?_
  rintro _ _ w75 g78 ⟨X76, s15, i17, rfl, rfl, E85, hXo86, hS87, hw_Parts88, k89, zs16, ri18, hI74⟩ Kl79 hA80
  replace hp := hp s15 i17 hI74 zs16 ri18
  refine seq_ (fun _ K90 => ?_)
  refine seq_ (fun _ K91 => ?_)
  refine reg_ ?_
  refine sq (o_pv (.int .i64 i17) rfl (by kernel_rfl) ?_)
  refine sq (o_pv (.pointer (some ⟨b6, 0, none⟩)) rfl (by kernel_rfl) ?_)
  refine sq (o_pv (.slice aw_Parts1 w_.Parts.length cw_Parts2) rfl (x_load1 (by kernel_rfl) Tryd.isAgg43 (k89.2.1.cell' 0 rfl)) ?_)
  refine sq (o_pv (.int .i64 (w_.Parts.length : Int)) rfl (by kernel_rfl) ?_)
  refine sq (o_pv (.bool (decide (i17 < (w_.Parts.length : Int)))) rfl (by kernel_rfl) ?_)
  refine nil_ ?_
  refine then_normal (K91 _ _ _ _ ?_)
  refine cond_d (i17 < (w_.Parts.length : Int)) (by kernel_rfl) (fun h92 => ?_) (fun h92 => ?_)
  ·
    replace hp := hp.1 h92
    refine wp_skip ?_
    refine then_normal (K90 _ _ _ _ ?_)
    refine seq_ (fun _ K93 => ?_)
    refine wp_block ?_
    refine reg_drawn (RB w75.heap.size []) 18 (by kernel_rfl) (fun w94 hd95 => ?_)
    have e96 := Evo.of_drew hd95
    have z97 : w94.heap.size = w75.heap.size := by rw [hd95]
    clear hd95
    have s99 := Step.of0 X76 e96
    have er98 := RB.refl w75.heap.size [] w94
    have E100 := (Evo.then0 E85 (Step.evo s99))
    have hXo101 := (Old.step hXo86 s99)
    have hS102 := (Sub.trans hS87 (Step.up s99))
    have hw_Parts103 := (Sl.step hw_Parts88 s99)
    have k104 := (OB.step0 k89 s99)
    refine r_take 0 (.string s15) (RB.pre _ _) rfl (by kernel_rfl) (fun _ _ _ h => hQ.panic _ _ _ _ _ h) (.inl ⟨rfl, fun wq hq => (by kernel_rfl)⟩) ?_
    refine r_take 1 (.pointer (some ⟨b6, 0, none⟩)) (RB.pre _ _) rfl (by kernel_rfl) (fun _ _ _ h => hQ.panic _ _ _ _ _ h) (.inl ⟨rfl, fun wq hq => (by kernel_rfl)⟩) ?_
    refine r_take 2 (.slice aw_Parts1 w_.Parts.length cw_Parts2) (RB.pre _ _) rfl (by kernel_rfl) (fun _ _ _ h => hQ.panic _ _ _ _ _ h) (.inl ⟨rfl, fun wq hq => (x_load1 (by kernel_rfl) Tryd.isAgg43 ((Blk.rb k104.2.1 (RB.trans er98 hq) (Nat.lt_of_lt_of_eq (Blk.lt k104.2.1) z97) (fun h => by cases h)).cell' 0 rfl))⟩) ?_
    refine r_take 3 (.int .i64 i17) (RB.pre _ _) rfl (by kernel_rfl) (fun _ _ _ h => hQ.panic _ _ _ _ _ h) (.inl ⟨rfl, fun wq hq => (by kernel_rfl)⟩) ?_
    obtain ⟨h105, hp⟩ := hp
    obtain ⟨b106, o107, cs108, ha109, nx110, lt111, ok112, hc113⟩ := Sl.atI hw_Parts103 i17 h105
    obtain ⟨rfl, zeWord114, reAt115⟩ := r_rectoref3_Part_open ok112
    replace hp := hp zeWord114
    replace hp := hp reAt115
    refine r_take 4 (.pointer (some ⟨b106, o107 + i17.toNat * 2, none⟩)) (RB.pre _ _) rfl (by kernel_rfl) (fun _ _ _ h => hQ.panic _ _ _ _ _ h) (.inl ⟨rfl, fun wq hq => (x_ixA (m := w_.Parts.length) (c := cw_Parts2) (k := .i64) (i := i17) Tryd.underlying43 Tryd.sizeOf92 (by rw [← ha109]; kernel_rfl) (by kernel_rfl) h105)⟩) ?_
    refine r_take 5 (.pointer (some ⟨b106, o107 + i17.toNat * 2, none⟩)) (RB.pre _ _) rfl (by kernel_rfl) (fun _ _ _ h => hQ.panic _ _ _ _ _ h) (.inl ⟨rfl, fun wq hq => (by kernel_rfl)⟩) ?_
    refine r_take 6 (.string ((lget w_.Parts i17).Word)) (RB.pre _ _) rfl (by kernel_rfl) (fun _ _ _ h => hQ.panic _ _ _ _ _ h) (.inl ⟨rfl, fun wq hq => (x_load1 (by kernel_rfl) Tryd.isAgg9 ((CellsAt.rb hc113 (RB.trans er98 hq) (Nat.lt_of_lt_of_eq lt111 z97) (fun h => by cases h)) 0 _ rfl))⟩) ?_
    obtain ⟨h116, hp⟩ := hp
    refine r_take 7 (.string (s15 ++ ((lget w_.Parts i17).Word))) (RB.pre _ _) rfl (by kernel_rfl) (fun _ _ _ h => hQ.panic _ _ _ _ _ h) (.inl ⟨rfl, fun wq hq => (x_cat (by kernel_rfl) (by kernel_rfl) h116)⟩) ?_
    obtain ⟨h117, hp⟩ := hp
    refine r_take 8 (.string ((s15 ++ ((lget w_.Parts i17).Word)) ++ (ByteArray.mk #[32]))) (RB.pre _ _) rfl (by kernel_rfl) (fun _ _ _ h => hQ.panic _ _ _ _ _ h) (.inl ⟨rfl, fun wq hq => (x_cat (by kernel_rfl) (by kernel_rfl) h117)⟩) ?_
    refine r_take 9 (.pointer (some ⟨b6, 0, none⟩)) (RB.pre _ _) rfl (by kernel_rfl) (fun _ _ _ h => hQ.panic _ _ _ _ _ h) (.inl ⟨rfl, fun wq hq => (by kernel_rfl)⟩) ?_
    refine r_take 10 (.slice aw_Parts1 w_.Parts.length cw_Parts2) (RB.pre _ _) rfl (by kernel_rfl) (fun _ _ _ h => hQ.panic _ _ _ _ _ h) (.inl ⟨rfl, fun wq hq => (x_load1 (by kernel_rfl) Tryd.isAgg43 ((Blk.rb k104.2.1 (RB.trans er98 hq) (Nat.lt_of_lt_of_eq (Blk.lt k104.2.1) z97) (fun h => by cases h)).cell' 0 rfl))⟩) ?_
    refine r_take 11 (.int .i64 i17) (RB.pre _ _) rfl (by kernel_rfl) (fun _ _ _ h => hQ.panic _ _ _ _ _ h) (.inl ⟨rfl, fun wq hq => (by kernel_rfl)⟩) ?_
    obtain ⟨h118, hp⟩ := hp
    obtain ⟨b119, o120, cs121, ha122, nx123, lt124, ok125, hc126⟩ := Sl.atI hw_Parts103 i17 h118
    obtain ⟨rfl, zeWord127, reAt128⟩ := r_rectoref3_Part_open ok125
    replace hp := hp zeWord127
    replace hp := hp reAt128
    refine r_take 12 (.pointer (some ⟨b119, o120 + i17.toNat * 2, none⟩)) (RB.pre _ _) rfl (by kernel_rfl) (fun _ _ _ h => hQ.panic _ _ _ _ _ h) (.inl ⟨rfl, fun wq hq => (x_ixA (m := w_.Parts.length) (c := cw_Parts2) (k := .i64) (i := i17) Tryd.underlying43 Tryd.sizeOf92 (by rw [← ha122]; kernel_rfl) (by kernel_rfl) h118)⟩) ?_
    refine r_take 13 (.pointer (some ⟨b119, o120 + i17.toNat * 2 + 1, none⟩)) (RB.pre _ _) rfl (by kernel_rfl) (fun _ _ _ h => hQ.panic _ _ _ _ _ h) (.inl ⟨rfl, fun wq hq => (by kernel_rfl)⟩) ?_
    refine r_take 14 (.int .i64 ((lget w_.Parts i17).At)) (RB.pre _ _) rfl (by kernel_rfl) (fun _ _ _ h => hQ.panic _ _ _ _ _ h) (.inl ⟨rfl, fun wq hq => (x_load1 (by kernel_rfl) Tryd.isAgg3 ((CellsAt.rb hc126 (RB.trans er98 hq) (Nat.lt_of_lt_of_eq lt124 z97) (fun h => by cases h)) 1 _ rfl))⟩) ?_
    refine r_ready [15] (by kernel_rfl) rfl (all_cons ⟨_, _, _, _, _, _, rfl, ?_⟩ all_nil)
    refine o_call 62 #[(.int .i64 ((lget w_.Parts i17).At))] rfl (x_call Tryd.call62 (by kernel_rfl)) (rectoref3_Decimal_w (X := []) (n_ := (lget w_.Parts i17).At) (Old.nil _) reAt128 hp) ?_
    rintro _ w130 ⟨r129, hp, e131, rfl, zr133⟩
    have rm := RB.mono (F' := []) e131 (Nat.le_trans (Nat.le_of_eq z97.symm) (RB.size er98)) (fun _ h => by cases h)
    have er134 := RB.trans er98 rm
    refine ⟨fun _ => rm, ?_⟩
    have s132 := Step.of0 X76 e131
    replace hp := hp zr133
    obtain ⟨h135, hp⟩ := hp
    refine r_take 16 (.string (((s15 ++ ((lget w_.Parts i17).Word)) ++ (ByteArray.mk #[32])) ++ r129)) (RB.pre _ _) rfl (by kernel_rfl) (fun _ _ _ h => hQ.panic _ _ _ _ _ h) (.inl ⟨rfl, fun wq hq => (x_cat (by kernel_rfl) (by kernel_rfl) h135)⟩) ?_
    obtain ⟨h136, hp⟩ := hp
    refine r_take 17 (.string ((((s15 ++ ((lget w_.Parts i17).Word)) ++ (ByteArray.mk #[32])) ++ r129) ++ (ByteArray.mk #[58, 32]))) (RB.pre _ _) rfl (by kernel_rfl) (fun _ _ _ h => hQ.panic _ _ _ _ _ h) (.inl ⟨rfl, fun wq hq => (x_cat (by kernel_rfl) (by kernel_rfl) h136)⟩) ?_
    refine r_ready [18] (by kernel_rfl) rfl (all_cons ⟨_, _, _, _, _, _, rfl, ?_⟩ all_nil)
    refine o_pv (.string ((((s15 ++ ((lget w_.Parts i17).Word)) ++ (ByteArray.mk #[32])) ++ r129) ++ (ByteArray.mk #[58, 32]))) rfl (by kernel_rfl) ?_
    refine ⟨fun h => absurd h (by decide), ?_⟩
    refine r_done (by kernel_rfl) ?_
    refine blk_normal ?_
    refine then_normal (K93 _ _ _ _ ?_)
    refine reg_ ?_
    refine sq (o_pv (.int .i64 i17) rfl (by kernel_rfl) ?_)
    obtain ⟨h137, hp⟩ := hp
    refine sq (o_pv (.int .i64 (i17 + (1 : Int))) rfl (x_add2 (k := .i64) (a := i17) (b := (1 : Int)) (i17 + (1 : Int)) (by kernel_rfl) (by kernel_rfl) (wrap_inR h137)) ?_)
    refine sq (o_pv (.int .i64 (i17 + (1 : Int))) rfl (by kernel_rfl) ?_)
    refine nil_ ?_
    have E138 := (Evo.then0 E100 e131)
    have hXo139 := (Old.step hXo101 s132)
    have hS140 := (Sub.trans hS102 (Step.up s132))
    have hw_Parts141 := (Sl.step hw_Parts103 s132)
    have k142 := (OB.step0 k104 s132)
    refine then_normal (hA80 _ _ _ ⟨_, [(3, (.string ((((s15 ++ ((lget w_.Parts i17).Word)) ++ (ByteArray.mk #[32])) ++ r129) ++ (ByteArray.mk #[58, 32])))), (4, (.int .i64 (i17 + (1 : Int))))], hp.2, fit_mk (AgB.mix _ _ _) (by kernel_rfl) (vs_cons (by kernel_rfl) (vs_cons (by kernel_rfl) vs_nil)), ?_⟩)
    exact ⟨X76, ((((s15 ++ ((lget w_.Parts i17).Word)) ++ (ByteArray.mk #[32])) ++ r129) ++ (ByteArray.mk #[58, 32])), (i17 + (1 : Int)), rfl, rfl, E138, hXo139, hS140, hw_Parts141, k142, h136, h137, hp.1⟩
  ·
    replace hp := hp.2 h92
    refine wp_exit ?_
    refine then_exit ?_
    refine then_exit ?_
    refine blk_exit ?_
    refine then_normal (K13 _ _ _ _ ?_)
    refine seq_ (fun _ K143 => ?_)
    refine reg_ ?_
    refine sq (o_pv (.string s15) rfl (by kernel_rfl) ?_)
    refine sq (o_pv (.pointer (some ⟨b6, 1, none⟩)) rfl (by kernel_rfl) ?_)
    refine sq (o_pv (.int .i64 w_.Err) rfl (x_load1 (by kernel_rfl) Tryd.isAgg3 (k89.2.1.cell' 1 rfl)) ?_)
    refine sq (o_call 63 #[(.int .i64 w_.Err)] rfl (x_call Tryd.call63 (by kernel_rfl)) (rectoref3_Word_w (X := []) (e := w_.Err) (Old.nil _) rw_Err4 hp) ?_)
    rintro _ w145 ⟨r144, hp, e146, rfl, zr148⟩
    have s147 := Step.of0 X76 e146
    replace hp := hp zr148
    obtain ⟨h149, hp⟩ := hp
    refine sq (o_pv (.string (s15 ++ r144)) rfl (x_cat (by kernel_rfl) (by kernel_rfl) h149) ?_)
    refine sq (o_pv (.string (s15 ++ r144)) rfl (by kernel_rfl) ?_)
    refine nil_ ?_
    refine then_normal (K143 _ _ _ _ ?_)
    refine wp_ret ?_
    have E150 := (Evo.then0 E85 e146)
    refine end_ret hQ (.string (s15 ++ r144)) (by kernel_rfl) ?_
    exact ⟨(s15 ++ r144), hp, E150, rfl, h149⟩

def api_Fault_Unwrap_p (f_ : S_api_Fault) (Q : PErr → Prop) : Prop :=
  ((f_.Part.size ≤ maxLen) → ((inR .i64 f_.At) → Q f_.Err))
set_option maxRecDepth 20000 in
set_option maxHeartbeats 4000000 in
theorem api_Fault_Unwrap_w {X : List Nat} {w : World} {f_ : S_api_Fault} {bf_1 : Nat} {vf_Err5 : Value} {Q : PErr → Prop} (hX0 : Old X w) (kf_2 : RO X w bf_1 [(.string f_.Part), (.int .i64 f_.At), vf_Err5] 84) (zf_Part3 : f_.Part.size ≤ maxLen) (rf_At4 : inR .i64 f_.At) (hf_Err6 : (rErr 25 82 84).ok X w ([vf_Err5]) f_.Err) (hp : api_Fault_Unwrap_p f_ Q) :
    Calls Tryd.prog 110 #[(.pointer (some ⟨bf_1, 0, none⟩))] w (Ret fun v w' => ∃ (r0 : PErr), Q r0 ∧ Evo [] w w' ∧ ∃ (vq01 : Value), v = vq01 ∧ (rErr 25 82 84).ok X w' ([vq01]) r0) := by
  have hXo := hX0
  have E0 : Evo [] w w := RB.refl _ _ _
  have hS : Sub X X := Sub.refl _
  unfold api_Fault_Unwrap_p at hp
  refine enter_ Tryd.func110 rfl 7 [(0, (.pointer (some ⟨bf_1, 0, none⟩)))] (by kernel_rfl) (fun Qe hQ => ?_)
  replace hp := hp zf_Part3
  replace hp := hp rf_At4
  refine seq_ (fun _ K7 => ?_)
  refine reg_ ?_
  refine sq (o_pv .nilIface rfl (by kernel_rfl) ?_)
  refine nil_ ?_
  refine then_normal (K7 _ _ _ _ ?_)
  refine seq_ (fun _ K8 => ?_)
  refine reg_ ?_
  refine sq (o_pv (.pointer (some ⟨bf_1, 0, none⟩)) rfl (by kernel_rfl) ?_)
  refine sq (o_pv (.pointer (some ⟨bf_1, 0, none⟩)) rfl (by kernel_rfl) ?_)
  refine sq (o_pv (.pointer (some ⟨bf_1, 2, none⟩)) rfl (by kernel_rfl) ?_)
  refine sq (o_pv vf_Err5 rfl (x_load1 (by kernel_rfl) Tryd.isAgg39 (kf_2.2.cell' 2 rfl)) ?_)
  refine sq (o_pv vf_Err5 rfl (by kernel_rfl) ?_)
  refine nil_ ?_
  refine then_normal (K8 _ _ _ _ ?_)
  refine wp_ret ?_
  refine end_ret hQ vf_Err5 (by kernel_rfl) ?_
  exact ⟨f_.Err, hp, E0, vf_Err5, rfl, (Rep.less (rErr 25 82 84) hf_Err6 hS)⟩

def errors_is_p (err : PErr) (target : Int) (targetComparable : Bool) (Q : Bool → Prop) : Prop :=
  ((inR .i64 target) → (∃ (I230 : PErr → Prop) (m231 : PErr → Nat), (I230 err) ∧ (∀ (err116 : PErr), (I230 err116) → (((err116.isNil = true) → (∃ k265 : Prop, (k265 → Q false) ∧ (((targetComparable = true) → (k265)) ∧ ((¬ (targetComparable = true)) → (k265))))) ∧ ((¬ (err116.isNil = true)) → (((err116.isNo = true) → (∀ n285 : Int, err116 = PErr.no n285 → ((inR .i64 n285) → (∃ k290 : Bool → Prop, (∀ (s289 : Bool), k290 s289 → (((s289 = true) → Q true) ∧ ((s289 = false) → Q false))) ∧ (((targetComparable = true) → (k290 (decide (n285 = target)))) ∧ ((¬ (targetComparable = true)) → (k290 false))))))) ∧ ((¬ (err116.isNo = true)) → (∀ (part312 : ByteArray) (at313 n314 : Int), err116 = PErr.fault part312 at313 n314 → ((part312.size ≤ maxLen) → ((inR .i64 at313) → ((inR .i64 n314) → (∃ k322 : Prop, (k322 → (api_Fault_Unwrap_p (S_api_Fault.mk part312 at313 (PErr.no n314)) (fun (r342 : PErr) => (((r342.isNil = true) → Q false) ∧ ((r342.isNil = false) → ((I230 r342) ∧ m231 r342 < m231 err116)))))) ∧ (((targetComparable = true) → (k322)) ∧ ((¬ (targetComparable = true)) → (k322)))))))))))))))
set_option maxRecDepth 20000 in
set_option maxHeartbeats 4000000 in
theorem errors_is_w {X : List Nat} {w : World} {err : PErr} {target : Int} {targetComparable : Bool} {verr1 : Value} {Q : Bool → Prop} (hX0 : Old X w) (herr2 : (rErr 25 82 84).ok X w ([verr1]) err) (rtarget3 : inR .i64 target) (hp : errors_is_p err target targetComparable Q) :
    Calls Tryd.prog 65 #[verr1, (.iface 25 (.int .i64 target)), (.bool targetComparable)] w (Ret fun v w' => ∃ (r0 : Bool), Q r0 ∧ Evo [] w w' ∧ v = (.bool r0)) := by
  have hXo := hX0
  have E0 : Evo [] w w := RB.refl _ _ _
  have hS : Sub X X := Sub.refl _
  unfold errors_is_p at hp
  refine enter_ Tryd.func65 rfl 54 [(0, verr1), (1, (.iface 25 (.int .i64 target))), (2, (.bool targetComparable))] (by kernel_rfl) (fun Qe hQ => ?_)
  replace hp := hp rtarget3
  refine seq_ (fun _ K4 => ?_)
  refine reg_ ?_
  refine sq (o_pv (.bool false) rfl (by kernel_rfl) ?_)
  refine nil_ ?_
  refine then_normal (K4 _ _ _ _ ?_)
  refine wp_block ?_
  obtain ⟨I230, m231, hI232, hp⟩ := hp
  refine loop_ 18014398509479873 (fun kq lq w234 => ∃ (X235 : List Nat) (err116 : PErr) (v117 : Value), (lq = [(0, v117)]) ∧ (kq = m231 err116) ∧ (Evo [] w w234) ∧ (Old X235 w234) ∧ (Sub X X235) ∧ ((rErr 25 82 84).ok X235 w234 ([v117]) err116) ∧ (I230 err116)) (m231 err) [(0, verr1)] (vs_cons (by kernel_rfl) vs_nil) ⟨X, err, verr1, rfl, rfl, E0, hXo, hS, herr2, hI232⟩ ?_
  rintro _ _ w234 g237 ⟨X235, err116, v117, rfl, rfl, E240, hXo241, hS242, h118, hI233⟩ Kl238 hA239
  replace hp := hp err116 hI233
  refine wp_block ?_
  refine seq_ (fun _ K243 => ?_)
  refine seq_ (fun _ K244 => ?_)
  by_cases h261 : err116.isNil = true
  ·
    replace hp := hp.1 h261
    have hc263 := isNil_eq h261
    rw [hc263] at h118
    obtain rfl := rErr_inv_nil h118
    obtain ⟨k265, hk266, hp⟩ := hp
    refine ground_ ?_
    refine join_ 1032192 (fun lq w267 => ∃ (X268 : List Nat), (lq = [(19, (.bool false))]) ∧ (Evo [] w w267) ∧ (Old X268 w267) ∧ (Sub X X268) ∧ (k265)) (fun Kj269 hJ270 => ?_) ?_
    ·
      refine reg_ ?_
      by_cases h275 : targetComparable = true
      ·
        replace hp := hp.1 h275
        refine sq (o_pv (.bool true) rfl (x_bt (by kernel_rfl) h275) ?_)
        refine sq (o_pv (.bool true) rfl (by kernel_rfl) ?_)
        refine sq (o_pv .nilIface (by kernel_rfl) (by kernel_rfl) ?_)
        refine sq (o_pv (.iface 25 (.int .i64 target)) (by kernel_rfl) (by kernel_rfl) ?_)
        refine sq (o_pv (.bool false) (by kernel_rfl) (x_if_nil (t := 25) (v := (.int .i64 target)) Tryd.underlying39 (by kernel_rfl) (by kernel_rfl)) ?_)
        refine sq (o_pv (.bool false) rfl (by kernel_rfl) ?_)
        refine nil_ ?_
        refine then_normal (hJ270 _ _ _ ⟨[(19, (.bool false))], fit_mk (fun _ _ => rfl) (by kernel_rfl) (vs_cons (by kernel_rfl) vs_nil), ?_⟩)
        exact ⟨X235, rfl, E240, hXo241, hS242, hp⟩
      ·
        replace hp := hp.2 h275
        refine sq (o_pv (.bool false) rfl (x_bf (by kernel_rfl) h275) ?_)
        refine sq (o_pv (.bool false) rfl (by kernel_rfl) ?_)
        refine sq (o_not (by kernel_rfl) ?_)
        refine sq (o_not (by kernel_rfl) ?_)
        refine sq (o_not (by kernel_rfl) ?_)
        refine sq (o_pv (.bool false) rfl (by kernel_rfl) ?_)
        refine nil_ ?_
        refine then_normal (hJ270 _ _ _ ⟨[(19, (.bool false))], fit_mk (fun _ _ => rfl) (by kernel_rfl) (vs_cons (by kernel_rfl) vs_nil), ?_⟩)
        exact ⟨X235, rfl, E240, hXo241, hS242, hp⟩
    ·
      rintro _ w267 g276 ⟨X268, rfl, E272, hXo273, hS274, hv271⟩
      replace hp := hk266 hv271
      refine then_normal (K244 _ _ _ _ ?_)
      refine cond_f (by kernel_rfl) ?_
      refine wp_skip ?_
      refine then_normal (K243 _ _ _ _ ?_)
      refine seq_ (fun _ K277 => ?_)
      refine seq_ (fun _ K278 => ?_)
      refine reg_ ?_
      refine sq (o_pv .nilIface rfl (by kernel_rfl) ?_)
      refine sq (o_pv (.tuple #[.nilIface, (.bool false)]) rfl (x_tassertn (by kernel_rfl) (fun w => by kernel_rfl)) ?_)
      refine sq (o_pv (.tuple #[.nilIface, (.bool false)]) rfl (by kernel_rfl) ?_)
      refine sq (o_pv .nilIface rfl (by kernel_rfl) ?_)
      refine sq (o_pv (.bool false) rfl (by kernel_rfl) ?_)
      refine sq (o_pv .nilIface rfl (by kernel_rfl) ?_)
      refine sq (o_pv (.bool false) rfl (by kernel_rfl) ?_)
      refine nil_ ?_
      refine then_normal (K278 _ _ _ _ ?_)
      refine seq_ (fun _ K279 => ?_)
      refine reg_ ?_
      refine sq (o_pv (.bool false) rfl (by kernel_rfl) ?_)
      refine sq (o_pv (.bool false) rfl (by kernel_rfl) ?_)
      refine sq (o_not (by kernel_rfl) ?_)
      refine sq (o_not (by kernel_rfl) ?_)
      refine sq (o_not (by kernel_rfl) ?_)
      refine sq (o_pv (.bool false) rfl (by kernel_rfl) ?_)
      refine nil_ ?_
      refine then_normal (K279 _ _ _ _ ?_)
      refine cond_f (by kernel_rfl) ?_
      refine wp_skip ?_
      refine then_normal (K277 _ _ _ _ ?_)
      refine seq_ (fun _ K280 => ?_)
      refine reg_ ?_
      refine sq (o_pv .nilIface rfl (by kernel_rfl) ?_)
      refine nil_ ?_
      refine then_normal (K280 _ _ _ _ ?_)
      refine wp_block ?_
      refine seq_ (fun _ K281 => ?_)
      refine reg_ ?_
      refine sq (o_pv (.tuple #[.nilIface, (.bool false)]) rfl (x_tassertn (by kernel_rfl) (fun w => by kernel_rfl)) ?_)
      refine sq (o_pv (.bool false) rfl (by kernel_rfl) ?_)
      refine sq (o_pv .nilIface rfl (by kernel_rfl) ?_)
      refine nil_ ?_
      refine then_normal (K281 _ _ _ _ ?_)
      refine cond_f (by kernel_rfl) ?_
      refine seq_ (fun _ K282 => ?_)
      refine reg_ ?_
      refine sq (o_pv (.tuple #[.nilIface, (.bool false)]) rfl (x_tassertn (by kernel_rfl) (fun w => by kernel_rfl)) ?_)
      refine sq (o_pv (.bool false) rfl (by kernel_rfl) ?_)
      refine sq (o_pv .nilIface rfl (by kernel_rfl) ?_)
      refine nil_ ?_
      refine then_normal (K282 _ _ _ _ ?_)
      refine cond_f (by kernel_rfl) ?_
      refine seq_ (fun _ K283 => ?_)
      refine reg_ ?_
      refine sq (o_pv .nilIface rfl (by kernel_rfl) ?_)
      refine nil_ ?_
      refine then_normal (K283 _ _ _ _ ?_)
      refine seq_ (fun _ K284 => ?_)
      refine reg_ ?_
      refine sq (o_pv (.bool false) rfl (by kernel_rfl) ?_)
      refine nil_ ?_
      refine then_normal (K284 _ _ _ _ ?_)
      refine wp_ret ?_
      refine blk_ret ?_
      refine blk_ret ?_
      refine then_ret ?_
      refine blk_ret ?_
      refine end_ret hQ (.bool false) (by kernel_rfl) ?_
      exact ⟨false, hp, E272, rfl⟩
  ·
    replace hp := hp.2 h261
    by_cases h262 : err116.isNo = true
    ·
      replace hp := hp.1 h262
      obtain ⟨n285, hc286⟩ := isNo_eq h262
      replace hp := hp n285 hc286
      rw [hc286] at h118
      obtain ⟨rfl, r287⟩ := rErr_inv_no h118
      replace hp := hp r287
      obtain ⟨k290, hk291, hp⟩ := hp
      refine ground_ ?_
      refine join_ 1032192 (fun lq w292 => ∃ (X293 : List Nat) (s289 : Bool), (lq = [(19, (.bool s289))]) ∧ (Evo [] w w292) ∧ (Old X293 w292) ∧ (Sub X X293) ∧ (k290 s289)) (fun Kj294 hJ295 => ?_) ?_
      ·
        refine reg_ ?_
        by_cases h300 : targetComparable = true
        ·
          replace hp := hp.1 h300
          refine sq (o_pv (.bool true) rfl (x_bt (by kernel_rfl) h300) ?_)
          refine sq (o_pv (.bool true) rfl (by kernel_rfl) ?_)
          refine sq (o_pv (.iface 25 (.int .i64 n285)) (by kernel_rfl) (by kernel_rfl) ?_)
          refine sq (o_pv (.iface 25 (.int .i64 target)) (by kernel_rfl) (by kernel_rfl) ?_)
          refine sq (o_pv (.bool (decide (n285 = target))) (by kernel_rfl) (x_if_num (k := .i64) (a := n285) (b := target) (i := Tryd.t25) Tryd.underlying39 Tryd.underlying25 (by kernel_rfl) rfl (by kernel_rfl) (by kernel_rfl)) ?_)
          refine sq (o_pv (.bool (decide (n285 = target))) rfl (by kernel_rfl) ?_)
          refine nil_ ?_
          refine then_normal (hJ295 _ _ _ ⟨[(19, (.bool (decide (n285 = target))))], fit_mk (fun _ _ => rfl) (by kernel_rfl) (vs_cons (by kernel_rfl) vs_nil), ?_⟩)
          exact ⟨X235, (decide (n285 = target)), rfl, E240, hXo241, hS242, hp⟩
        ·
          replace hp := hp.2 h300
          refine sq (o_pv (.bool false) rfl (x_bf (by kernel_rfl) h300) ?_)
          refine sq (o_pv (.bool false) rfl (by kernel_rfl) ?_)
          refine sq (o_not (by kernel_rfl) ?_)
          refine sq (o_not (by kernel_rfl) ?_)
          refine sq (o_not (by kernel_rfl) ?_)
          refine sq (o_pv (.bool false) rfl (by kernel_rfl) ?_)
          refine nil_ ?_
          refine then_normal (hJ295 _ _ _ ⟨[(19, (.bool false))], fit_mk (fun _ _ => rfl) (by kernel_rfl) (vs_cons (by kernel_rfl) vs_nil), ?_⟩)
          exact ⟨X235, false, rfl, E240, hXo241, hS242, hp⟩
      ·
        rintro _ w292 g301 ⟨X293, s289, rfl, E297, hXo298, hS299, hv296⟩
        replace hp := hk291 s289 hv296
        refine then_normal (K244 _ _ _ _ ?_)
        refine cond_b s289 (by kernel_rfl) (fun h302 => ?_) (fun h302 => ?_)
        ·
          replace hp := hp.1 h302
          refine seq_ (fun _ K303 => ?_)
          refine reg_ ?_
          refine sq (o_pv (.bool true) rfl (by kernel_rfl) ?_)
          refine nil_ ?_
          refine then_normal (K303 _ _ _ _ ?_)
          refine wp_ret ?_
          refine then_ret ?_
          refine blk_ret ?_
          refine then_ret ?_
          refine blk_ret ?_
          refine end_ret hQ (.bool true) (by kernel_rfl) ?_
          exact ⟨true, hp, E297, rfl⟩
        ·
          replace hp := hp.2 h302
          refine wp_skip ?_
          refine then_normal (K243 _ _ _ _ ?_)
          refine seq_ (fun _ K304 => ?_)
          refine seq_ (fun _ K305 => ?_)
          refine reg_ ?_
          refine sq (o_pv (.iface 25 (.int .i64 n285)) rfl (by kernel_rfl) ?_)
          refine sq (o_pv (.tuple #[.nilIface, (.bool false)]) rfl (x_tassert (t := 25) (v := (.int .i64 n285)) (by kernel_rfl) (fun v xT w => run_typeAssert_lacksB Tryd.underlying134 (by kernel_rfl) (by kernel_rfl) v xT w)) ?_)
          refine sq (o_pv (.tuple #[.nilIface, (.bool false)]) rfl (by kernel_rfl) ?_)
          refine sq (o_pv .nilIface rfl (by kernel_rfl) ?_)
          refine sq (o_pv (.bool false) rfl (by kernel_rfl) ?_)
          refine sq (o_pv .nilIface rfl (by kernel_rfl) ?_)
          refine sq (o_pv (.bool false) rfl (by kernel_rfl) ?_)
          refine nil_ ?_
          refine then_normal (K305 _ _ _ _ ?_)
          refine seq_ (fun _ K306 => ?_)
          refine reg_ ?_
          refine sq (o_pv (.bool false) rfl (by kernel_rfl) ?_)
          refine sq (o_pv (.bool false) rfl (by kernel_rfl) ?_)
          refine sq (o_not (by kernel_rfl) ?_)
          refine sq (o_not (by kernel_rfl) ?_)
          refine sq (o_not (by kernel_rfl) ?_)
          refine sq (o_pv (.bool false) rfl (by kernel_rfl) ?_)
          refine nil_ ?_
          refine then_normal (K306 _ _ _ _ ?_)
          refine cond_f (by kernel_rfl) ?_
          refine wp_skip ?_
          refine then_normal (K304 _ _ _ _ ?_)
          refine seq_ (fun _ K307 => ?_)
          refine reg_ ?_
          refine sq (o_pv (.iface 25 (.int .i64 n285)) rfl (by kernel_rfl) ?_)
          refine nil_ ?_
          refine then_normal (K307 _ _ _ _ ?_)
          refine wp_block ?_
          refine seq_ (fun _ K308 => ?_)
          refine reg_ ?_
          refine sq (o_pv (.tuple #[.nilIface, (.bool false)]) rfl (x_tassert (t := 25) (v := (.int .i64 n285)) (by kernel_rfl) (fun v xT w => run_typeAssert_lacksB Tryd.underlying137 (by kernel_rfl) (by kernel_rfl) v xT w)) ?_)
          refine sq (o_pv (.bool false) rfl (by kernel_rfl) ?_)
          refine sq (o_pv .nilIface rfl (by kernel_rfl) ?_)
          refine nil_ ?_
          refine then_normal (K308 _ _ _ _ ?_)
          refine cond_f (by kernel_rfl) ?_
          refine seq_ (fun _ K309 => ?_)
          refine reg_ ?_
          refine sq (o_pv (.tuple #[.nilIface, (.bool false)]) rfl (x_tassert (t := 25) (v := (.int .i64 n285)) (by kernel_rfl) (fun v xT w => run_typeAssert_lacksB Tryd.underlying138 (by kernel_rfl) (by kernel_rfl) v xT w)) ?_)
          refine sq (o_pv (.bool false) rfl (by kernel_rfl) ?_)
          refine sq (o_pv .nilIface rfl (by kernel_rfl) ?_)
          refine nil_ ?_
          refine then_normal (K309 _ _ _ _ ?_)
          refine cond_f (by kernel_rfl) ?_
          refine seq_ (fun _ K310 => ?_)
          refine reg_ ?_
          refine sq (o_pv (.iface 25 (.int .i64 n285)) rfl (by kernel_rfl) ?_)
          refine nil_ ?_
          refine then_normal (K310 _ _ _ _ ?_)
          refine seq_ (fun _ K311 => ?_)
          refine reg_ ?_
          refine sq (o_pv (.bool false) rfl (by kernel_rfl) ?_)
          refine nil_ ?_
          refine then_normal (K311 _ _ _ _ ?_)
          refine wp_ret ?_
          refine blk_ret ?_
          refine blk_ret ?_
          refine then_ret ?_
          refine blk_ret ?_
          refine end_ret hQ (.bool false) (by kernel_rfl) ?_
          exact ⟨false, hp, E297, rfl⟩
    ·
      replace hp := hp.2 h262
      obtain ⟨part312, at313, n314, hc315⟩ := isFault_eq h261 h262
      replace hp := hp part312 at313 n314 hc315
      rw [hc315] at h118
      obtain ⟨b316, rfl, k317, z318, r319, r320⟩ := rErr_inv_fault h118
      replace hp := hp z318
      replace hp := hp r319
      replace hp := hp r320
      obtain ⟨k322, hk323, hp⟩ := hp
      refine ground_ ?_
      refine join_ 1032192 (fun lq w324 => ∃ (X325 : List Nat), (lq = [(19, (.bool false))]) ∧ (Evo [] w w324) ∧ (Old X325 w324) ∧ (Sub X X325) ∧ (RO X325 w324 b316 [(.string part312), (.int .i64 at313), (.iface 25 (.int .i64 n314))] 84) ∧ (k322)) (fun Kj326 hJ327 => ?_) ?_
      ·
        refine reg_ ?_
        by_cases h333 : targetComparable = true
        ·
          replace hp := hp.1 h333
          refine sq (o_pv (.bool true) rfl (x_bt (by kernel_rfl) h333) ?_)
          refine sq (o_pv (.bool true) rfl (by kernel_rfl) ?_)
          refine sq (o_pv (.iface 82 (.pointer (some ⟨b316, 0, none⟩))) (by kernel_rfl) (by kernel_rfl) ?_)
          refine sq (o_pv (.iface 25 (.int .i64 target)) (by kernel_rfl) (by kernel_rfl) ?_)
          refine sq (o_pv (.bool false) (by kernel_rfl) (x_if_ne (tx := 82) (vx := (.pointer (some ⟨b316, 0, none⟩))) (ty' := 25) (vy := (.int .i64 target)) Tryd.underlying39 (by kernel_rfl) (by kernel_rfl) rfl) ?_)
          refine sq (o_pv (.bool false) rfl (by kernel_rfl) ?_)
          refine nil_ ?_
          refine then_normal (hJ327 _ _ _ ⟨[(19, (.bool false))], fit_mk (fun _ _ => rfl) (by kernel_rfl) (vs_cons (by kernel_rfl) vs_nil), ?_⟩)
          exact ⟨X235, rfl, E240, hXo241, hS242, k317, hp⟩
        ·
          replace hp := hp.2 h333
          refine sq (o_pv (.bool false) rfl (x_bf (by kernel_rfl) h333) ?_)
          refine sq (o_pv (.bool false) rfl (by kernel_rfl) ?_)
          refine sq (o_not (by kernel_rfl) ?_)
          refine sq (o_not (by kernel_rfl) ?_)
          refine sq (o_not (by kernel_rfl) ?_)
          refine sq (o_pv (.bool false) rfl (by kernel_rfl) ?_)
          refine nil_ ?_
          refine then_normal (hJ327 _ _ _ ⟨[(19, (.bool false))], fit_mk (fun _ _ => rfl) (by kernel_rfl) (vs_cons (by kernel_rfl) vs_nil), ?_⟩)
          exact ⟨X235, rfl, E240, hXo241, hS242, k317, hp⟩
      ·
        rintro _ w324 g334 ⟨X325, rfl, E329, hXo330, hS331, k332, hv328⟩
        replace hp := hk323 hv328
        refine then_normal (K244 _ _ _ _ ?_)
        refine cond_f (by kernel_rfl) ?_
        refine wp_skip ?_
        refine then_normal (K243 _ _ _ _ ?_)
        refine seq_ (fun _ K335 => ?_)
        refine seq_ (fun _ K336 => ?_)
        refine reg_ ?_
        refine sq (o_pv (.iface 82 (.pointer (some ⟨b316, 0, none⟩))) rfl (by kernel_rfl) ?_)
        refine sq (o_pv (.tuple #[.nilIface, (.bool false)]) rfl (x_tassert (t := 82) (v := (.pointer (some ⟨b316, 0, none⟩))) (by kernel_rfl) (fun v xT w => run_typeAssert_lacksB Tryd.underlying134 (by kernel_rfl) (by kernel_rfl) v xT w)) ?_)
        refine sq (o_pv (.tuple #[.nilIface, (.bool false)]) rfl (by kernel_rfl) ?_)
        refine sq (o_pv .nilIface rfl (by kernel_rfl) ?_)
        refine sq (o_pv (.bool false) rfl (by kernel_rfl) ?_)
        refine sq (o_pv .nilIface rfl (by kernel_rfl) ?_)
        refine sq (o_pv (.bool false) rfl (by kernel_rfl) ?_)
        refine nil_ ?_
        refine then_normal (K336 _ _ _ _ ?_)
        refine seq_ (fun _ K337 => ?_)
        refine reg_ ?_
        refine sq (o_pv (.bool false) rfl (by kernel_rfl) ?_)
        refine sq (o_pv (.bool false) rfl (by kernel_rfl) ?_)
        refine sq (o_not (by kernel_rfl) ?_)
        refine sq (o_not (by kernel_rfl) ?_)
        refine sq (o_not (by kernel_rfl) ?_)
        refine sq (o_pv (.bool false) rfl (by kernel_rfl) ?_)
        refine nil_ ?_
        refine then_normal (K337 _ _ _ _ ?_)
        refine cond_f (by kernel_rfl) ?_
        refine wp_skip ?_
        refine then_normal (K335 _ _ _ _ ?_)
        refine seq_ (fun _ K338 => ?_)
        refine reg_ ?_
        refine sq (o_pv (.iface 82 (.pointer (some ⟨b316, 0, none⟩))) rfl (by kernel_rfl) ?_)
        refine nil_ ?_
        refine then_normal (K338 _ _ _ _ ?_)
        refine wp_block ?_
        refine seq_ (fun _ K339 => ?_)
        refine reg_ ?_
        refine sq (o_pv (.tuple #[(.iface 82 (.pointer (some ⟨b316, 0, none⟩))), (.bool true)]) rfl (x_tasserts (t := 82) (v := (.pointer (some ⟨b316, 0, none⟩))) (by kernel_rfl) (fun v xT w => run_typeAssert_hasB Tryd.underlying137 (by kernel_rfl) v xT w)) ?_)
        refine sq (o_pv (.bool true) rfl (by kernel_rfl) ?_)
        refine sq (o_pv (.iface 82 (.pointer (some ⟨b316, 0, none⟩))) rfl (by kernel_rfl) ?_)
        refine nil_ ?_
        refine then_normal (K339 _ _ _ _ ?_)
        refine cond_t (by kernel_rfl) ?_
        refine seq_ (fun _ K340 => ?_)
        refine reg_ ?_
        refine sq (o_pv (.iface 82 (.pointer (some ⟨b316, 0, none⟩))) rfl (by kernel_rfl) ?_)
        refine nil_ ?_
        refine then_normal (K340 _ _ _ _ ?_)
        refine seq_ (fun _ K341 => ?_)
        refine reg_ ?_
        refine sq (o_pv (.iface 82 (.pointer (some ⟨b316, 0, none⟩))) rfl (by kernel_rfl) ?_)
        refine sq (o_call 110 #[(.pointer (some ⟨b316, 0, none⟩))] rfl (x_invoke (t := 82) (v := (.pointer (some ⟨b316, 0, none⟩))) (r := (.pointer (some ⟨b316, 0, none⟩))) (by kernel_rfl) (fun _ => by kernel_rfl) Tryd.call110 (by kernel_rfl)) (api_Fault_Unwrap_w (X := X325) (f_ := (S_api_Fault.mk part312 at313 (PErr.no n314))) hXo330 k332 z318 r319 (rErr_no r320) hp) ?_)
        rintro vr346 w343 ⟨r342, hp, e344, _, rfl, hr347⟩
        have s345 := Step.of0 X325 e344
        refine sq (o_pv vr346 rfl (by kernel_rfl) ?_)
        refine nil_ ?_
        refine then_normal (K341 _ _ _ _ ?_)
        refine seq_ (fun _ K348 => ?_)
        refine reg_ ?_
        refine sq (o_pv vr346 rfl (by kernel_rfl) ?_)
        refine sq (o_pv (.bool r342.isNil) rfl (x_err_eq r342 hr347 Tryd.underlying39 (by kernel_rfl)) ?_)
        refine nil_ ?_
        refine then_normal (K348 _ _ _ _ ?_)
        refine cond_b r342.isNil (by kernel_rfl) (fun h349 => ?_) (fun h349 => ?_)
        ·
          replace hp := hp.1 h349
          refine seq_ (fun _ K350 => ?_)
          refine reg_ ?_
          refine sq (o_pv (.bool false) rfl (by kernel_rfl) ?_)
          refine nil_ ?_
          refine then_normal (K350 _ _ _ _ ?_)
          refine wp_ret ?_
          refine blk_ret ?_
          refine blk_ret ?_
          refine then_ret ?_
          refine blk_ret ?_
          have E351 := (Evo.then0 E329 e344)
          refine end_ret hQ (.bool false) (by kernel_rfl) ?_
          exact ⟨false, hp, E351, rfl⟩
        ·
          replace hp := hp.2 h349
          refine wp_skip ?_
          refine blk_normal ?_
          refine blk_normal ?_
          have E352 := (Evo.then0 E329 e344)
          have hXo353 := (Old.step hXo330 s345)
          have hS354 := (Sub.trans hS331 (Step.up s345))
          refine then_normal (hA239 _ _ _ ⟨_, [(0, vr346)], hp.2, fit_mk (AgB.nest (AgB.look (AgB.mix _ _ _) (by kernel_rfl)) (by kernel_rfl) (by kernel_rfl)) (by kernel_rfl) (vs_cons (by kernel_rfl) vs_nil), ?_⟩)
          exact ⟨X325, r342, vr346, rfl, rfl, E352, hXo353, hS354, hr347, hp.1⟩

end Go.Proofs.YtljbaoehhnljlaaRRRRDoor
