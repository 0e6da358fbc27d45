/- Walks of functions: what each asks and computes, as a plain predicate, and the contract from it. -/
import Derived.Test.YtmeeabnhnbjikaaChecked
import Derived.Test.YtmeeabnhnbjikaaCb1
namespace Go.Proofs.Ytmeeabnhnbjikaa
open Go


def rectolaw3_known_p (Q : Bool → Prop) : Prop :=
  (codec_Enc_Int_p (S_codec_Enc.mk ([] : List Int)) ([(150 : Int), (-1 : Int)]) (fun (e35 : S_codec_Enc) => (codec_Enc_Text_p e35 ([(ByteArray.mk #[97, 98])]) (fun (e66 : S_codec_Enc) => (codec_Enc_Bytes_p e66 (fun (e79 : S_codec_Enc) (r80 : (List Int)) => ((r80.length ≤ 9223372036854775807) → (codec_Of_p r80 (fun (r95 : S_codec_Dec) => (codec_Dec_Int_p r95 (fun (d114 : S_codec_Dec) (r115 : Int) => ((inR .i64 r115) → (codec_Dec_Int_p d114 (fun (d132 : S_codec_Dec) (r133 : Int) => ((inR .i64 r133) → (codec_Dec_Text_p d132 (fun (d150 : S_codec_Dec) (r151 : ByteArray) => ((r151.size ≤ maxLen) → (∃ k223 : Bool → Prop, (∀ (s222 : Bool), k223 s222 → Q s222) ∧ (codec_Enc_Bytes_p e79 (fun (e240 : S_codec_Enc) (r241 : (List Int)) => ((r241.length ≤ 9223372036854775807) → ((((strOfNums r241 : ByteArray) = (ByteArray.mk #[172, 2, 1, 4, 97, 98])) → (((r115 = (150 : Int)) → (((r133 = (-1 : Int)) → ((((r151 : ByteArray) = (ByteArray.mk #[97, 98])) → (codec_Dec_Left_p d150 (fun (d264 : S_codec_Dec) (r265 : Int) => ((inR .i64 r265) → (((r265 = (0 : Int)) → (codec_Dec_Err_p d264 (fun (d283 : S_codec_Dec) (r284 : PErr) => (k223 r284.isNil)))) ∧ ((¬ (r265 = (0 : Int))) → (k223 false))))))) ∧ ((¬ ((r151 : ByteArray) = (ByteArray.mk #[97, 98]))) → (k223 false)))) ∧ ((¬ (r133 = (-1 : Int))) → (k223 false)))) ∧ ((¬ (r115 = (150 : Int))) → (k223 false)))) ∧ ((¬ ((strOfNums r241 : ByteArray) = (ByteArray.mk #[172, 2, 1, 4, 97, 98]))) → (k223 false)))))))))))))))))))))))))
set_option maxRecDepth 20000 in
set_option maxHeartbeats 4000000 in
theorem rectolaw3_known_w {X : List Nat} {w : World} {Q : Bool → Prop} (hX0 : Old X w) (hp : rectolaw3_known_p Q) :
    Calls Try.prog 7 #[] w (Ret fun v w' => ∃ (r0 : Bool), Q r0 ∧ Evo [] w w' ∧ v = (.bool r0)) := by
  have hXo := hX0
  have E0 : Evo [] w w := RB.refl _ _ _
  have hS : Sub X X := Sub.refl _
  unfold rectolaw3_known_p at hp
  refine enter_ Try.func7 rfl 51 [] (by kernel_rfl) (fun Qe hQ => ?_)
  refine seq_ (fun _ K1 => ?_)
  refine reg_ ?_
  refine sq (o_pv (.bool false) rfl (by kernel_rfl) ?_)
  refine nil_ ?_
  refine then_normal (K1 _ _ _ _ ?_)
  refine seq_ (fun _ K2 => ?_)
  refine reg_ ?_
  refine sq (o_pv (.agg #[(.slice none 0 0)]) rfl (by kernel_rfl) ?_)
  refine sq (o_newX [(.slice none 0 0)] 27 (X := X) (B := w.heap.size) E0.size rfl (by kernel_rfl) ?_)
  intro b3 w4 X5 s6 k7 n8
  refine sq (o_pv (.pointer (some ⟨b3, 0, none⟩)) rfl (by kernel_rfl) ?_)
  refine nil_ ?_
  refine then_normal (K2 _ _ _ _ ?_)
  refine seq_ (fun _ K9 => ?_)
  refine reg_ ?_
  refine sq (o_pv (.pointer (some ⟨b3, 0, none⟩)) rfl (by kernel_rfl) ?_)
  have E16 := (Evo.then0 E0 (Step.evo s6))
  refine sq (o_rowX (R := (rInt .i64)) [(.int .i64 (150 : Int)), (.int .i64 (-1 : Int))] [(150 : Int), (-1 : Int)] 3 2 (X := X5) (B := w.heap.size) E16.size rfl (by kernel_rfl) (Flat.cons (cs := [(.int .i64 (150 : Int))]) (rInt_mk (by decide)) (Flat.cons (cs := [(.int .i64 (-1 : Int))]) (rInt_mk (by decide)) Flat.nil)) rfl (by decide) ?_)
  intro b10 w11 X12 s13 O14 n15
  have p17 := n15 _ (OB.old k7)
  have hXo18 := (Old.step (Old.step hXo s6) s13)
  have E19 := (Evo.then0 E16 (Step.evo s13))
  have hS20 := (Sub.trans (Sub.trans hS (Step.up s6)) (Step.up s13))
  have k21 := (OB.step0 k7 s13)
  obtain ⟨F22, m23, hs24⟩ := MO.pack (o_codec_Enc_mk k21 (OS.nil2 _ _ _ _ _) (Ap.nil_r _))
  have p25 := hs24 _ (Ap.cons (Ap.symm p17) (Ap.nil_r _))
  have ax30 := OS.apold O14 hX0
  obtain ⟨X26, u27, r28, hm29⟩ := OS.release O14
  have hXo31 := (Old.less hXo18 u27)
  have E32 := E19
  have hS33 := (hm29 _ ax30 hS20)
  have m34 := (MO.less m23 u27 (hm29 _ (Ap.symm p25) (MO.mem m23)))
  refine sq (o_call 10 #[(.pointer (some ⟨b3, 0, none⟩)), (.slice (some ⟨b10, 0, none⟩) ([(150 : Int), (-1 : Int)]).length 2)] rfl (x_call Try.call10 (by rw [← show 2 = ([(150 : Int), (-1 : Int)]).length from O14.1]; kernel_rfl)) (codec_Enc_Int_w (X := X26) (e := (S_codec_Enc.mk ([] : List Int))) (l := [(150 : Int), (-1 : Int)]) hXo31 (MO.re m34 (Wr.self _ _ (Sub.refl _))) r28 hp) ?_)
  rintro _ w36 ⟨e35, hp, X37, F39, s38, rfl, m40⟩
  have m41 := MO.re m40 (Wr.trans m40.wr m34.wr E32.size)
  refine nil_ ?_
  refine then_normal (K9 _ _ _ _ ?_)
  refine seq_ (fun _ K42 => ?_)
  refine reg_ ?_
  refine sq (o_pv (.pointer (some ⟨b3, 0, none⟩)) rfl (by kernel_rfl) ?_)
  have E49 := (Evo.thenW E32 (Step.evo s38) m34.wr)
  refine sq (o_rowX (R := rStr) [(.string (ByteArray.mk #[97, 98]))] [(ByteArray.mk #[97, 98])] 9 1 (X := X37) (B := w.heap.size) E49.size rfl (by kernel_rfl) (Flat.cons (cs := [(.string (ByteArray.mk #[97, 98]))]) (rStr_mk (by decide)) Flat.nil) rfl (by decide) ?_)
  intro b43 w44 X45 s46 O47 n48
  have p50 := n48 _ (MO.old m41)
  have hS51 := (Sub.trans (Sub.trans hS33 (Step.up s38)) (Step.up s46))
  have hXo57 := (Old.step (Old.step hXo31 s38) s46)
  have E58 := (Evo.then0 E49 (Step.evo s46))
  have r59 := (Sl.step (Sl.step r28 s38) s46)
  have m60 := (MO.step0 m41 s46)
  have ax56 := OS.apold O47 hX0
  obtain ⟨X52, u53, r54, hm55⟩ := OS.release O47
  have hXo61 := (Old.less hXo57 u53)
  have E62 := E58
  have hS63 := (hm55 _ ax56 hS51)
  have r64 := (Sl.less r59 u53)
  have m65 := (MO.less m60 u53 (hm55 _ p50 (MO.mem m60)))
  refine sq (o_call 8 #[(.pointer (some ⟨b3, 0, none⟩)), (.slice (some ⟨b43, 0, none⟩) ([(ByteArray.mk #[97, 98])]).length 1)] rfl (x_call Try.call8 (by rw [← show 1 = ([(ByteArray.mk #[97, 98])]).length from O47.1]; kernel_rfl)) (codec_Enc_Text_w (X := X52) (e := e35) (l := [(ByteArray.mk #[97, 98])]) hXo61 (MO.re m65 (Wr.self _ _ (Sub.refl _))) r54 hp) ?_)
  rintro _ w67 ⟨e66, hp, X68, F70, s69, rfl, m71⟩
  have m72 := MO.re m71 (Wr.trans m71.wr m65.wr E62.size)
  refine nil_ ?_
  refine then_normal (K42 _ _ _ _ ?_)
  refine seq_ (fun _ K73 => ?_)
  refine reg_ ?_
  refine sq (o_pv (.pointer (some ⟨b3, 0, none⟩)) rfl (by kernel_rfl) ?_)
  have hXo74 := (Old.step hXo61 s69)
  have E75 := (Evo.thenW E62 (Step.evo s69) m65.wr)
  have hS76 := (Sub.trans hS63 (Step.up s69))
  have r77 := (Sl.step r64 s69)
  have r78 := (Sl.step r54 s69)
  refine sq (o_call 12 #[(.pointer (some ⟨b3, 0, none⟩))] rfl (x_call Try.call12 (by kernel_rfl)) (codec_Enc_Bytes_w (X := X68) (e := e66) hXo74 (MO.re m72 (Wr.self _ _ (Sub.refl _))) hp) ?_)
  rintro _ w81 ⟨e79, r80, hp, X82, F84, ar86, cr87, s83, rfl, m85, hr88⟩
  have m89 := MO.re m85 (Wr.trans m85.wr m72.wr E75.size)
  replace hp := hp (Sl.len hr88)
  have hXo90 := (Old.step hXo74 s83)
  have E91 := (Evo.thenW E75 (Step.evo s83) m72.wr)
  have hS92 := (Sub.trans hS76 (Step.up s83))
  have r93 := (Sl.step r77 s83)
  have r94 := (Sl.step r78 s83)
  refine sq (o_call 13 #[(.slice ar86 r80.length cr87)] rfl (x_call Try.call13 (by kernel_rfl)) (codec_Of_w (X := X82) (b := r80) hXo90 hr88 hp) ?_)
  rintro _ w96 ⟨r95, hp, X97, br99, Fr100, s98, rfl, mr101⟩
  have m102 := MO.re mr101 (Wr.trans mr101.wr (Wr.nil [] _) E91.size)
  have p103 := Ap.grow mr101.wr (Ap.nil_r _) (MO.old m89) (Nat.le_refl _)
  refine sq (o_pv (.pointer (some ⟨br99, 0, none⟩)) rfl (by kernel_rfl) ?_)
  refine nil_ ?_
  refine then_normal (K73 _ _ _ _ ?_)
  refine seq_ (fun _ K104 => ?_)
  refine seq_ (fun _ K105 => ?_)
  refine reg_ ?_
  refine sq (o_pv (.pointer (some ⟨br99, 0, none⟩)) rfl (by kernel_rfl) ?_)
  refine sq (o_pv (.bool false) rfl (x_pnil_eq (a := ⟨br99, 0, none⟩) Try.underlying35 (by kernel_rfl) (by kernel_rfl)) ?_)
  refine nil_ ?_
  refine then_normal (K105 _ _ _ _ ?_)
  refine cond_f (by kernel_rfl) ?_
  refine wp_skip ?_
  refine then_normal (K104 _ _ _ _ ?_)
  refine seq_ (fun _ K106 => ?_)
  refine reg_ ?_
  refine sq (o_pv (.pointer (some ⟨br99, 0, none⟩)) rfl (by kernel_rfl) ?_)
  have hXo107 := (Old.step hXo90 s98)
  have E108 := (Evo.then0 E91 (Step.evo s98))
  have hS109 := (Sub.trans hS92 (Step.up s98))
  have r110 := (Sl.step r93 s98)
  have r111 := (Sl.step r94 s98)
  have m112 := (MO.step0 m89 s98)
  have hr113 := (Sl.step hr88 s98)
  refine sq (o_call 15 #[(.pointer (some ⟨br99, 0, none⟩))] rfl (x_call Try.call15 (by kernel_rfl)) (codec_Dec_Int_w (X := X97) (d := r95) hXo107 (MO.re m102 (Wr.self _ _ (Sub.refl _))) hp) ?_)
  rintro _ w116 ⟨d114, r115, hp, X117, F119, s118, rfl, m120, rr121⟩
  have m122 := MO.re m120 (Wr.trans m120.wr m102.wr E108.size)
  have p123 := Ap.grow m120.wr p103 (MO.old m112) (Nat.le_refl _)
  replace hp := hp rr121
  refine sq (o_pv (.int .i64 r115) rfl (by kernel_rfl) ?_)
  refine nil_ ?_
  refine then_normal (K106 _ _ _ _ ?_)
  refine seq_ (fun _ K124 => ?_)
  refine reg_ ?_
  refine sq (o_pv (.pointer (some ⟨br99, 0, none⟩)) rfl (by kernel_rfl) ?_)
  have hXo125 := (Old.step hXo107 s118)
  have E126 := (Evo.thenW E108 (Step.evo s118) m102.wr)
  have hS127 := (Sub.trans hS109 (Step.up s118))
  have r128 := (Sl.step r110 s118)
  have r129 := (Sl.step r111 s118)
  have m130 := (MO.step m112 s118 p103)
  have hr131 := (Sl.step hr113 s118)
  refine sq (o_call 15 #[(.pointer (some ⟨br99, 0, none⟩))] rfl (x_call Try.call15 (by kernel_rfl)) (codec_Dec_Int_w (X := X117) (d := d114) hXo125 (MO.re m122 (Wr.self _ _ (Sub.refl _))) hp) ?_)
  rintro _ w134 ⟨d132, r133, hp, X135, F137, s136, rfl, m138, rr139⟩
  have m140 := MO.re m138 (Wr.trans m138.wr m122.wr E126.size)
  have p141 := Ap.grow m138.wr p123 (MO.old m130) (Nat.le_refl _)
  replace hp := hp rr139
  refine sq (o_pv (.int .i64 r133) rfl (by kernel_rfl) ?_)
  refine nil_ ?_
  refine then_normal (K124 _ _ _ _ ?_)
  refine seq_ (fun _ K142 => ?_)
  refine reg_ ?_
  refine sq (o_pv (.pointer (some ⟨br99, 0, none⟩)) rfl (by kernel_rfl) ?_)
  have hXo143 := (Old.step hXo125 s136)
  have E144 := (Evo.thenW E126 (Step.evo s136) m122.wr)
  have hS145 := (Sub.trans hS127 (Step.up s136))
  have r146 := (Sl.step r128 s136)
  have r147 := (Sl.step r129 s136)
  have m148 := (MO.step m130 s136 p123)
  have hr149 := (Sl.step hr131 s136)
  refine sq (o_call 14 #[(.pointer (some ⟨br99, 0, none⟩))] rfl (x_call Try.call14 (by kernel_rfl)) (codec_Dec_Text_w (X := X135) (d := d132) hXo143 (MO.re m140 (Wr.self _ _ (Sub.refl _))) hp) ?_)
  rintro _ w152 ⟨d150, r151, hp, X153, F155, s154, rfl, m156, zr157⟩
  have m158 := MO.re m156 (Wr.trans m156.wr m140.wr E144.size)
  have p159 := Ap.grow m156.wr p141 (MO.old m148) (Nat.le_refl _)
  replace hp := hp zr157
  refine sq (o_pv (.string r151) rfl (by kernel_rfl) ?_)
  refine nil_ ?_
  refine then_normal (K142 _ _ _ _ ?_)
  refine seq_ (fun _ K160 => ?_)
  have hXo230 := (Old.step hXo143 s154)
  have E231 := (Evo.thenW E144 (Step.evo s154) m140.wr)
  have hS232 := (Sub.trans hS145 (Step.up s154))
  have r233 := (Sl.step r146 s154)
  have r234 := (Sl.step r147 s154)
  have m235 := (MO.step m148 s154 p141)
  have hr236 := (Sl.step hr149 s154)
  obtain ⟨k223, hk224, hp⟩ := hp
  refine ground_ ?_
  refine join_ 2251799780130817 (fun lq w225 => ∃ (X226 : List Nat) (s222 : Bool), (lq = [(0, (.bool s222))]) ∧ (Evo [] w w225) ∧ (Old X226 w225) ∧ (Sub X X226) ∧ (k223 s222)) (fun Kj227 hJ228 => ?_) ?_
  ·
    refine reg_ ?_
    refine sq (o_pv (.pointer (some ⟨b3, 0, none⟩)) rfl (by kernel_rfl) ?_)
    refine sq (o_call 12 #[(.pointer (some ⟨b3, 0, none⟩))] rfl (x_call Try.call12 (by kernel_rfl)) (codec_Enc_Bytes_w (X := X153) (e := e79) hXo230 (MO.re m235 (Wr.self _ _ (Sub.refl _))) hp) ?_)
    rintro _ w242 ⟨e240, r241, hp, X243, F245, ar247, cr248, s244, rfl, m246, hr249⟩
    have m250 := MO.re m246 (Wr.trans m246.wr m235.wr E231.size)
    have p251 := Ap.grow m246.wr (Ap.symm p159) (MO.old m158) (Nat.le_refl _)
    replace hp := hp (Sl.len hr249)
    have hl252 := Sl.len hr249
    refine sq (o_pv (.string (strOfNums r241)) rfl (x_b2s_sl (a := ar247) (len := r241.length) (c := cr248) r241 Try.underlying25 Try.underlying5 Try.underlying9 (by kernel_rfl) rfl hr249) ?_)
    by_cases h253 : (strOfNums r241 : ByteArray) = (ByteArray.mk #[172, 2, 1, 4, 97, 98])
    ·
      replace hp := hp.1 h253
      refine sq (o_pv (.bool true) rfl (x_dt (p := (strOfNums r241 : ByteArray) = (ByteArray.mk #[172, 2, 1, 4, 97, 98])) (x_streq (by kernel_rfl) (by kernel_rfl)) h253) ?_)
      refine sq (o_pv (.bool true) rfl (by kernel_rfl) ?_)
      refine sq (o_pv (.int .i64 r115) (by kernel_rfl) (by kernel_rfl) ?_)
      by_cases h254 : r115 = (150 : Int)
      ·
        replace hp := hp.1 h254
        refine sq (o_pv (.bool true) (by kernel_rfl) (x_dt (p := r115 = (150 : Int)) (by kernel_rfl) h254) ?_)
        refine sq (o_pv (.bool true) rfl (by kernel_rfl) ?_)
        refine sq (o_pv (.bool true) rfl (by kernel_rfl) ?_)
        refine sq (o_pv (.int .i64 r133) (by kernel_rfl) (by kernel_rfl) ?_)
        by_cases h255 : r133 = (-1 : Int)
        ·
          replace hp := hp.1 h255
          refine sq (o_pv (.bool true) (by kernel_rfl) (x_dt (p := r133 = (-1 : Int)) (by kernel_rfl) h255) ?_)
          refine sq (o_pv (.bool true) rfl (by kernel_rfl) ?_)
          refine sq (o_pv (.bool true) rfl (by kernel_rfl) ?_)
          refine sq (o_pv (.string r151) (by kernel_rfl) (by kernel_rfl) ?_)
          by_cases h256 : (r151 : ByteArray) = (ByteArray.mk #[97, 98])
          ·
            replace hp := hp.1 h256
            refine sq (o_pv (.bool true) (by kernel_rfl) (x_dt (p := (r151 : ByteArray) = (ByteArray.mk #[97, 98])) (x_streq (by kernel_rfl) (by kernel_rfl)) h256) ?_)
            refine sq (o_pv (.bool true) rfl (by kernel_rfl) ?_)
            refine sq (o_pv (.bool true) rfl (by kernel_rfl) ?_)
            refine sq (o_pv (.pointer (some ⟨br99, 0, none⟩)) (by kernel_rfl) (by kernel_rfl) ?_)
            have hXo257 := (Old.step hXo230 s244)
            have E258 := (Evo.thenW E231 (Step.evo s244) m235.wr)
            have hS259 := (Sub.trans hS232 (Step.up s244))
            have r260 := (Sl.step r233 s244)
            have r261 := (Sl.step r234 s244)
            have hr262 := (Sl.step hr236 s244)
            have m263 := (MO.step m158 s244 (Ap.symm p159))
            refine sq (o_call 16 #[(.pointer (some ⟨br99, 0, none⟩))] (by kernel_rfl) (x_call Try.call16 (by kernel_rfl)) (codec_Dec_Left_w (X := X243) (d := d150) hXo257 (MO.re m263 (Wr.self _ _ (Sub.refl _))) hp) ?_)
            rintro _ w266 ⟨d264, r265, hp, X267, F269, s268, rfl, m270, rr271⟩
            have m272 := MO.re m270 (Wr.trans m270.wr m263.wr E258.size)
            have p273 := Ap.grow m270.wr (Ap.symm p251) (MO.old m250) (Nat.le_refl _)
            replace hp := hp rr271
            by_cases h274 : r265 = (0 : Int)
            ·
              replace hp := hp.1 h274
              refine sq (o_pv (.bool true) (by kernel_rfl) (x_dt (p := r265 = (0 : Int)) (by kernel_rfl) h274) ?_)
              refine sq (o_pv (.bool true) rfl (by kernel_rfl) ?_)
              refine sq (o_pv (.bool true) rfl (by kernel_rfl) ?_)
              refine sq (o_pv (.pointer (some ⟨br99, 0, none⟩)) (by kernel_rfl) (by kernel_rfl) ?_)
              have hXo275 := (Old.step hXo257 s268)
              have E276 := (Evo.thenW E258 (Step.evo s268) m263.wr)
              have hS277 := (Sub.trans hS259 (Step.up s268))
              have r278 := (Sl.step r260 s268)
              have r279 := (Sl.step r261 s268)
              have hr280 := (Sl.step hr262 s268)
              have m281 := (MO.step m250 s268 (Ap.symm p251))
              have hr282 := (Sl.step hr249 s268)
              refine sq (o_call 17 #[(.pointer (some ⟨br99, 0, none⟩))] (by kernel_rfl) (x_call Try.call17 (by kernel_rfl)) (codec_Dec_Err_w (X := X267) (d := d264) hXo275 (MO.re m272 (Wr.self _ _ (Sub.refl _))) hp) ?_)
              rintro _ w285 ⟨d283, r284, hp, X286, F288, vr290, s287, rfl, m289, hr291⟩
              have m292 := MO.re m289 (Wr.trans m289.wr m272.wr E276.size)
              have p293 := Ap.grow m289.wr p273 (MO.old m281) (Nat.le_refl _)
              refine sq (o_pv (.bool r284.isNil) (by kernel_rfl) (x_err_eq r284 hr291 Try.underlying40 (by kernel_rfl)) ?_)
              refine sq (o_pv (.bool r284.isNil) rfl (by kernel_rfl) ?_)
              refine sq (o_pv (.bool r284.isNil) rfl (by kernel_rfl) ?_)
              refine nil_ ?_
              have E294 := (Evo.thenW E276 (Step.evo s287) m272.wr)
              have hXo295 := (Old.step hXo275 s287)
              have hS296 := (Sub.trans hS277 (Step.up s287))
              refine then_normal (hJ228 _ _ _ ⟨[(0, (.bool r284.isNil))], fit_mk (fun _ _ => rfl) (by kernel_rfl) (vs_cons (by kernel_rfl) vs_nil), ?_⟩)
              exact ⟨X286, r284.isNil, rfl, E294, hXo295, hS296, hp⟩
            ·
              replace hp := hp.2 h274
              refine sq (o_pv (.bool false) (by kernel_rfl) (x_df (p := r265 = (0 : Int)) (by kernel_rfl) h274) ?_)
              refine sq (o_pv (.bool false) rfl (by kernel_rfl) ?_)
              refine sq (o_pv (.bool false) rfl (by kernel_rfl) ?_)
              refine sq (o_not (by kernel_rfl) ?_)
              refine sq (o_not (by kernel_rfl) ?_)
              refine sq (o_not (by kernel_rfl) ?_)
              refine sq (o_pv (.bool false) rfl (by kernel_rfl) ?_)
              refine sq (o_pv (.bool false) rfl (by kernel_rfl) ?_)
              refine nil_ ?_
              have E297 := (Evo.thenW E258 (Step.evo s268) m263.wr)
              have hXo298 := (Old.step hXo257 s268)
              have hS299 := (Sub.trans hS259 (Step.up s268))
              refine then_normal (hJ228 _ _ _ ⟨[(0, (.bool false))], fit_mk (fun _ _ => rfl) (by kernel_rfl) (vs_cons (by kernel_rfl) vs_nil), ?_⟩)
              exact ⟨X267, false, rfl, E297, hXo298, hS299, hp⟩
          ·
            replace hp := hp.2 h256
            refine sq (o_pv (.bool false) (by kernel_rfl) (x_df (p := (r151 : ByteArray) = (ByteArray.mk #[97, 98])) (x_streq (by kernel_rfl) (by kernel_rfl)) h256) ?_)
            refine sq (o_pv (.bool false) rfl (by kernel_rfl) ?_)
            refine sq (o_pv (.bool false) rfl (by kernel_rfl) ?_)
            refine sq (o_not (by kernel_rfl) ?_)
            refine sq (o_not (by kernel_rfl) ?_)
            refine sq (o_not (by kernel_rfl) ?_)
            refine sq (o_pv (.bool false) rfl (by kernel_rfl) ?_)
            refine sq (o_pv (.bool false) rfl (by kernel_rfl) ?_)
            refine sq (o_not (by kernel_rfl) ?_)
            refine sq (o_not (by kernel_rfl) ?_)
            refine sq (o_not (by kernel_rfl) ?_)
            refine sq (o_pv (.bool false) rfl (by kernel_rfl) ?_)
            refine sq (o_pv (.bool false) rfl (by kernel_rfl) ?_)
            refine nil_ ?_
            have E300 := (Evo.thenW E231 (Step.evo s244) m235.wr)
            have hXo301 := (Old.step hXo230 s244)
            have hS302 := (Sub.trans hS232 (Step.up s244))
            refine then_normal (hJ228 _ _ _ ⟨[(0, (.bool false))], fit_mk (fun _ _ => rfl) (by kernel_rfl) (vs_cons (by kernel_rfl) vs_nil), ?_⟩)
            exact ⟨X243, false, rfl, E300, hXo301, hS302, hp⟩
        ·
          replace hp := hp.2 h255
          refine sq (o_pv (.bool false) (by kernel_rfl) (x_df (p := r133 = (-1 : Int)) (by kernel_rfl) h255) ?_)
          refine sq (o_pv (.bool false) rfl (by kernel_rfl) ?_)
          refine sq (o_pv (.bool false) rfl (by kernel_rfl) ?_)
          refine sq (o_not (by kernel_rfl) ?_)
          refine sq (o_not (by kernel_rfl) ?_)
          refine sq (o_pv (.bool false) rfl (by kernel_rfl) ?_)
          refine sq (o_pv (.bool false) rfl (by kernel_rfl) ?_)
          refine sq (o_not (by kernel_rfl) ?_)
          refine sq (o_not (by kernel_rfl) ?_)
          refine sq (o_not (by kernel_rfl) ?_)
          refine sq (o_pv (.bool false) rfl (by kernel_rfl) ?_)
          refine sq (o_pv (.bool false) rfl (by kernel_rfl) ?_)
          refine sq (o_not (by kernel_rfl) ?_)
          refine sq (o_not (by kernel_rfl) ?_)
          refine sq (o_not (by kernel_rfl) ?_)
          refine sq (o_pv (.bool false) rfl (by kernel_rfl) ?_)
          refine sq (o_pv (.bool false) rfl (by kernel_rfl) ?_)
          refine nil_ ?_
          have E303 := (Evo.thenW E231 (Step.evo s244) m235.wr)
          have hXo304 := (Old.step hXo230 s244)
          have hS305 := (Sub.trans hS232 (Step.up s244))
          refine then_normal (hJ228 _ _ _ ⟨[(0, (.bool false))], fit_mk (fun _ _ => rfl) (by kernel_rfl) (vs_cons (by kernel_rfl) vs_nil), ?_⟩)
          exact ⟨X243, false, rfl, E303, hXo304, hS305, hp⟩
      ·
        replace hp := hp.2 h254
        refine sq (o_pv (.bool false) (by kernel_rfl) (x_df (p := r115 = (150 : Int)) (by kernel_rfl) h254) ?_)
        refine sq (o_pv (.bool false) rfl (by kernel_rfl) ?_)
        refine sq (o_pv (.bool false) rfl (by kernel_rfl) ?_)
        refine sq (o_not (by kernel_rfl) ?_)
        refine sq (o_not (by kernel_rfl) ?_)
        refine sq (o_pv (.bool false) rfl (by kernel_rfl) ?_)
        refine sq (o_pv (.bool false) rfl (by kernel_rfl) ?_)
        refine sq (o_not (by kernel_rfl) ?_)
        refine sq (o_not (by kernel_rfl) ?_)
        refine sq (o_pv (.bool false) rfl (by kernel_rfl) ?_)
        refine sq (o_pv (.bool false) rfl (by kernel_rfl) ?_)
        refine sq (o_not (by kernel_rfl) ?_)
        refine sq (o_not (by kernel_rfl) ?_)
        refine sq (o_not (by kernel_rfl) ?_)
        refine sq (o_pv (.bool false) rfl (by kernel_rfl) ?_)
        refine sq (o_pv (.bool false) rfl (by kernel_rfl) ?_)
        refine sq (o_not (by kernel_rfl) ?_)
        refine sq (o_not (by kernel_rfl) ?_)
        refine sq (o_not (by kernel_rfl) ?_)
        refine sq (o_pv (.bool false) rfl (by kernel_rfl) ?_)
        refine sq (o_pv (.bool false) rfl (by kernel_rfl) ?_)
        refine nil_ ?_
        have E306 := (Evo.thenW E231 (Step.evo s244) m235.wr)
        have hXo307 := (Old.step hXo230 s244)
        have hS308 := (Sub.trans hS232 (Step.up s244))
        refine then_normal (hJ228 _ _ _ ⟨[(0, (.bool false))], fit_mk (fun _ _ => rfl) (by kernel_rfl) (vs_cons (by kernel_rfl) vs_nil), ?_⟩)
        exact ⟨X243, false, rfl, E306, hXo307, hS308, hp⟩
    ·
      replace hp := hp.2 h253
      refine sq (o_pv (.bool false) rfl (x_df (p := (strOfNums r241 : ByteArray) = (ByteArray.mk #[172, 2, 1, 4, 97, 98])) (x_streq (by kernel_rfl) (by kernel_rfl)) h253) ?_)
      refine sq (o_pv (.bool false) rfl (by kernel_rfl) ?_)
      refine sq (o_not (by kernel_rfl) ?_)
      refine sq (o_not (by kernel_rfl) ?_)
      refine sq (o_pv (.bool false) rfl (by kernel_rfl) ?_)
      refine sq (o_pv (.bool false) rfl (by kernel_rfl) ?_)
      refine sq (o_not (by kernel_rfl) ?_)
      refine sq (o_not (by kernel_rfl) ?_)
      refine sq (o_pv (.bool false) rfl (by kernel_rfl) ?_)
      refine sq (o_pv (.bool false) rfl (by kernel_rfl) ?_)
      refine sq (o_not (by kernel_rfl) ?_)
      refine sq (o_not (by kernel_rfl) ?_)
      refine sq (o_pv (.bool false) rfl (by kernel_rfl) ?_)
      refine sq (o_pv (.bool false) rfl (by kernel_rfl) ?_)
      refine sq (o_not (by kernel_rfl) ?_)
      refine sq (o_not (by kernel_rfl) ?_)
      refine sq (o_not (by kernel_rfl) ?_)
      refine sq (o_pv (.bool false) rfl (by kernel_rfl) ?_)
      refine sq (o_pv (.bool false) rfl (by kernel_rfl) ?_)
      refine sq (o_not (by kernel_rfl) ?_)
      refine sq (o_not (by kernel_rfl) ?_)
      refine sq (o_not (by kernel_rfl) ?_)
      refine sq (o_pv (.bool false) rfl (by kernel_rfl) ?_)
      refine sq (o_pv (.bool false) rfl (by kernel_rfl) ?_)
      refine nil_ ?_
      have E309 := (Evo.thenW E231 (Step.evo s244) m235.wr)
      have hXo310 := (Old.step hXo230 s244)
      have hS311 := (Sub.trans hS232 (Step.up s244))
      refine then_normal (hJ228 _ _ _ ⟨[(0, (.bool false))], fit_mk (fun _ _ => rfl) (by kernel_rfl) (vs_cons (by kernel_rfl) vs_nil), ?_⟩)
      exact ⟨X243, false, rfl, E309, hXo310, hS311, hp⟩
  ·
    rintro _ w225 g312 ⟨X226, s222, rfl, E237, hXo238, hS239, hv229⟩
    replace hp := hk224 s222 hv229
    refine then_normal (K160 _ _ _ _ ?_)
    refine wp_ret ?_
    refine end_ret hQ (.bool s222) (by kernel_rfl) ?_
    exact ⟨s222, hp, E237, rfl⟩

def rectoref3_Int_p (v_ : Int) (Q : (List Int) → Prop) : Prop :=
  ((inR .i64 v_) → (∃ k13 : Int → Prop, (∀ (u_11 : Int), k13 u_11 → (inR .u64 u_11) → (∃ (I96 : Int → (List Int) → Prop) (m97 : Int → (List Int) → Nat), (I96 u_11 ([] : List Int)) ∧ ∀ (u_60 : Int) (out62 : (List Int)), (I96 u_60 out62) → (inR .u64 u_60) → (out62.length ≤ 9223372036854775807) → (((u_60 ≥ (128 : Int)) → (((out62.length + ([iwrap .u8 (ior .u64 (iand .u64 u_60 (127 : Int)) (128 : Int))]).length) * 1 ≤ 140737488355328) ∧ ((I96 (ishr .u64 u_60 (7 : Int)) (out62 ++ ([iwrap .u8 (ior .u64 (iand .u64 u_60 (127 : Int)) (128 : Int))]))) ∧ m97 (ishr .u64 u_60 (7 : Int)) (out62 ++ ([iwrap .u8 (ior .u64 (iand .u64 u_60 (127 : Int)) (128 : Int))])) < m97 u_60 out62))) ∧ ((¬ (u_60 ≥ (128 : Int))) → (((out62.length + ([iwrap .u8 u_60]).length) * 1 ≤ 140737488355328) ∧ Q (out62 ++ ([iwrap .u8 u_60]))))))) ∧ (((v_ < (0 : Int)) → ((inR .i64 (v_ + (1 : Int))) ∧ ((inR .i64 ((0 : Int) - (v_ + (1 : Int)))) ∧ (∀ y26 : Int, y26 = (ior .u64 (ishl .u64 (iwrap .u64 ((0 : Int) - (v_ + (1 : Int)))) (1 : Int)) (1 : Int)) → (k13 y26))))) ∧ ((¬ (v_ < (0 : Int))) → (k13 (ishl .u64 (iwrap .u64 v_) (1 : Int)))))))
set_option maxRecDepth 20000 in
set_option maxHeartbeats 4000000 in
theorem rectoref3_Int_w {X : List Nat} {w : World} {v_ : Int} {Q : (List Int) → Prop} (hX0 : Old X w) (rv_1 : inR .i64 v_) (hp : rectoref3_Int_p v_ Q) :
    Calls Try.prog 11 #[(.int .i64 v_)] w (Ret fun v w' => ∃ (r0 : (List Int)), Q r0 ∧ Evo [] w w' ∧ ∃ (a0 : Option Addr) (c0 : Nat), v = .slice a0 r0.length c0 ∧ OS (rInt .u8) [] w.heap.size (blkL a0 ++ X) w' 5 a0 r0.length c0 r0) := by
  have hXo := hX0
  have E0 : Evo [] w w := RB.refl _ _ _
  have hS : Sub X X := Sub.refl _
  unfold rectoref3_Int_p at hp
  refine enter_ Try.func11 rfl 32 [(0, (.int .i64 v_))] (by kernel_rfl) (fun Qe hQ => ?_)
  replace hp := hp rv_1
  refine seq_ (fun _ K2 => ?_)
  refine reg_ ?_
  refine sq (o_pv (.slice none 0 0) rfl (by kernel_rfl) ?_)
  refine nil_ ?_
  refine then_normal (K2 _ _ _ _ ?_)
  refine seq_ (fun _ K3 => ?_)
  refine reg_ ?_
  refine sq (o_pv (.int .i64 v_) rfl (by kernel_rfl) ?_)
  refine sq (o_pv (.int .u64 (iwrap .u64 v_)) rfl (x_convw (k := .i64) Try.underlying3 Try.underlying61 (by kernel_rfl)) ?_)
  refine sq (o_pv (.int .u64 (ishl .u64 (iwrap .u64 v_) (1 : Int))) rfl (x_shl (k := .u64) (k' := .u64) (a := iwrap .u64 v_) (b := (1 : Int)) (by kernel_rfl) (by kernel_rfl) (by decide)) ?_)
  refine sq (o_pv (.int .u64 (ishl .u64 (iwrap .u64 v_) (1 : Int))) rfl (by kernel_rfl) ?_)
  refine nil_ ?_
  refine then_normal (K3 _ _ _ _ ?_)
  refine seq_ (fun _ K4 => ?_)
  refine seq_ (fun _ K5 => ?_)
  refine reg_ ?_
  refine sq (o_pv (.int .i64 v_) rfl (by kernel_rfl) ?_)
  refine sq (o_pv (.bool (decide (v_ < (0 : Int)))) rfl (by kernel_rfl) ?_)
  refine nil_ ?_
  refine then_normal (K5 _ _ _ _ ?_)
  obtain ⟨k13, hk14, hp⟩ := hp
  refine ground_ ?_
  refine join_ 64520 (fun lq w15 => ∃ (X16 : List Nat) (u_11 : Int), (lq = [(3, (.int .u64 u_11))]) ∧ (Evo [] w w15) ∧ (Old X16 w15) ∧ (Sub X X16) ∧ (inR .u64 u_11) ∧ (k13 u_11)) (fun Kj17 hJ18 => ?_) ?_
  ·
    refine cond_d (v_ < (0 : Int)) (by kernel_rfl) (fun h23 => ?_) (fun h23 => ?_)
    ·
      replace hp := hp.1 h23
      refine reg_ ?_
      refine sq (o_pv (.int .i64 v_) rfl (by kernel_rfl) ?_)
      obtain ⟨h24, hp⟩ := hp
      refine sq (o_pv (.int .i64 (v_ + (1 : Int))) rfl (x_add2 (k := .i64) (a := v_) (b := (1 : Int)) (v_ + (1 : Int)) (by kernel_rfl) (by kernel_rfl) (wrap_inR h24)) ?_)
      obtain ⟨h25, hp⟩ := hp
      refine sq (o_pv (.int .i64 ((0 : Int) - (v_ + (1 : Int)))) rfl (x_sub2 (k := .i64) (a := (0 : Int)) (b := v_ + (1 : Int)) ((0 : Int) - (v_ + (1 : Int))) (by kernel_rfl) (by kernel_rfl) (wrap_inR h25)) ?_)
      refine sq (o_pv (.int .u64 (iwrap .u64 ((0 : Int) - (v_ + (1 : Int))))) rfl (x_convw (k := .i64) Try.underlying3 Try.underlying61 (by kernel_rfl)) ?_)
      refine sq (o_pv (.int .u64 (ishl .u64 (iwrap .u64 ((0 : Int) - (v_ + (1 : Int)))) (1 : Int))) rfl (x_shl (k := .u64) (k' := .u64) (a := iwrap .u64 ((0 : Int) - (v_ + (1 : Int)))) (b := (1 : Int)) (by kernel_rfl) (by kernel_rfl) (by decide)) ?_)
      obtain ⟨y26, qy26⟩ : ∃ y, y = (ior .u64 (ishl .u64 (iwrap .u64 ((0 : Int) - (v_ + (1 : Int)))) (1 : Int)) (1 : Int)) := ⟨_, rfl⟩
      replace hp := hp y26 qy26
      have r27 : inR .u64 y26 := by rw [qy26]; exact (inR_ior _ _ _)
      refine sq (o_pv (.int .u64 y26) rfl (by rw [qy26]; exact (x_or (k := .u64) (a := ishl .u64 (iwrap .u64 ((0 : Int) - (v_ + (1 : Int)))) (1 : Int)) (b := (1 : Int)) (by kernel_rfl) (by kernel_rfl))) ?_)
      refine sq (o_pv (.int .u64 y26) rfl (by kernel_rfl) ?_)
      refine nil_ ?_
      refine then_normal (hJ18 _ _ _ ⟨[(3, (.int .u64 y26))], fit_mk (fun _ _ => rfl) (by kernel_rfl) (vs_cons (by kernel_rfl) vs_nil), ?_⟩)
      exact ⟨X, y26, rfl, E0, hXo, hS, r27, hp⟩
    ·
      replace hp := hp.2 h23
      refine wp_skip ?_
      refine then_normal (hJ18 _ _ _ ⟨[(3, (.int .u64 (ishl .u64 (iwrap .u64 v_) (1 : Int))))], fit_mk (fun _ _ => rfl) (by kernel_rfl) (vs_cons (by kernel_rfl) vs_nil), ?_⟩)
      exact ⟨X, (ishl .u64 (iwrap .u64 v_) (1 : Int)), rfl, E0, hXo, hS, (inR_ishl _ _ _), hp⟩
  ·
    rintro _ w15 g28 ⟨X16, u_11, rfl, E20, hXo21, hS22, ru_12, hv19⟩
    replace hp := hk14 u_11 hv19 ru_12
    refine then_normal (K4 _ _ _ _ ?_)
    refine seq_ (fun _ K29 => ?_)
    refine reg_ ?_
    refine sq (o_pv (.slice none 0 0) rfl (by kernel_rfl) ?_)
    refine nil_ ?_
    refine then_normal (K29 _ _ _ _ ?_)
    refine seq_ (fun _ K30 => ?_)
    refine wp_block ?_
    obtain ⟨I96, m97, hI98, hp⟩ := hp
    refine loop_ 134152216 (fun kq lq w100 => ∃ (X101 : List Nat) (u_60 : Int) (out62 : (List Int)) (a63 : Option Addr) (n64 : Nat) (c65 : Nat), (lq = [(3, (.int .u64 u_60)), (4, (.slice a63 n64 c65))]) ∧ (kq = m97 u_60 out62) ∧ (Evo [] w w100) ∧ (Old X101 w100) ∧ (Sub X X101) ∧ (OS (rInt .u8) ([]) w.heap.size X101 w100 5 a63 n64 c65 out62) ∧ (inR .u64 u_60) ∧ (I96 u_60 out62)) (m97 u_11 ([] : List Int)) [(3, (.int .u64 u_11)), (4, (.slice none 0 0))] (vs_cons (by kernel_rfl) (vs_cons (by kernel_rfl) vs_nil)) ⟨X16, u_11, ([] : List Int), none, 0, 0, rfl, rfl, E20, hXo21, hS22, (OS.nil _ _ _ _), ru_12, hI98⟩ ?_
    rintro _ _ w100 g103 ⟨X101, u_60, out62, a63, n64, c65, rfl, rfl, E106, hXo107, hS108, O66, ru_61, hI99⟩ Kl104 hA105
    replace hp := hp u_60 out62 hI99 ru_61 (OS.len O66)
    refine seq_ (fun _ K109 => ?_)
    refine seq_ (fun _ K110 => ?_)
    refine reg_ ?_
    refine sq (o_pv (.int .u64 u_60) rfl (by kernel_rfl) ?_)
    refine sq (o_pv (.bool (decide (u_60 ≥ (128 : Int)))) rfl (by kernel_rfl) ?_)
    refine nil_ ?_
    refine then_normal (K110 _ _ _ _ ?_)
    refine cond_d (u_60 ≥ (128 : Int)) (by kernel_rfl) (fun h111 => ?_) (fun h111 => ?_)
    ·
      replace hp := hp.1 h111
      refine wp_skip ?_
      refine then_normal (K109 _ _ _ _ ?_)
      refine wp_block ?_
      refine seq_ (fun _ K112 => ?_)
      refine reg_ ?_
      refine sq (o_pv (.slice a63 n64 c65) rfl (by kernel_rfl) ?_)
      refine sq (o_pv (.int .u64 u_60) rfl (by kernel_rfl) ?_)
      refine sq (o_pv (.int .u64 (iand .u64 u_60 (127 : Int))) rfl (x_and (k := .u64) (a := u_60) (b := (127 : Int)) (by kernel_rfl) (by kernel_rfl)) ?_)
      refine sq (o_pv (.int .u64 (ior .u64 (iand .u64 u_60 (127 : Int)) (128 : Int))) rfl (x_or (k := .u64) (a := iand .u64 u_60 (127 : Int)) (b := (128 : Int)) (by kernel_rfl) (by kernel_rfl)) ?_)
      refine sq (o_pv (.int .u8 (iwrap .u8 (ior .u64 (iand .u64 u_60 (127 : Int)) (128 : Int)))) rfl (x_convw (k := .u64) Try.underlying61 Try.underlying5 (by kernel_rfl)) ?_)
      refine sq (o_rowX (R := (rInt .u8)) [(.int .u8 (iwrap .u8 (ior .u64 (iand .u64 u_60 (127 : Int)) (128 : Int))))] [iwrap .u8 (ior .u64 (iand .u64 u_60 (127 : Int)) (128 : Int))] 5 1 (X := X101) (B := w.heap.size) E106.size rfl (by kernel_rfl) (Flat.cons (cs := [(.int .u8 (iwrap .u8 (ior .u64 (iand .u64 u_60 (127 : Int)) (128 : Int))))]) (rInt_mk (inR_iwrap _ _)) Flat.nil) rfl (by decide) ?_)
      intro b113 w114 X115 s116 O117 n118
      have p119 := n118 _ (OS.old O66)
      obtain ⟨h120, hp⟩ := hp
      have O121 := (OS.step0 O66 s116)
      have E122 := (Evo.then0 E106 (Step.evo s116))
      refine sq (o_appX (R := (rInt .u8)) (X := X115) (B := w.heap.size) (L := out62) (M := [iwrap .u8 (ior .u64 (iand .u64 u_60 (127 : Int)) (128 : Int))]) rfl elT25 rfl E122.size O121 (OS.src O117) O117.1 (by kernel_rfl) (by kernel_rfl) h120 ?_)
      intro a123 n124 c125 w126 X127 s128 O129 gr130
      refine sq (o_pv (.slice a123 n124 c125) rfl (by kernel_rfl) ?_)
      refine nil_ ?_
      refine then_normal (K112 _ _ _ _ ?_)
      refine reg_ ?_
      refine sq (o_pv (.int .u64 u_60) rfl (by kernel_rfl) ?_)
      refine sq (o_pv (.int .u64 (ishr .u64 u_60 (7 : Int))) rfl (x_shr (k := .u64) (k' := .u64) (a := u_60) (b := (7 : Int)) (by kernel_rfl) (by kernel_rfl) (by decide)) ?_)
      refine sq (o_pv (.int .u64 (ishr .u64 u_60 (7 : Int))) rfl (by kernel_rfl) ?_)
      refine nil_ ?_
      refine blk_normal ?_
      have E131 := (Evo.thenW E122 (Step.evo s128) O121.2.2)
      have hXo132 := (Old.step (Old.step hXo107 s116) s128)
      have hS133 := (Sub.trans (Sub.trans hS108 (Step.up s116)) (Step.up s128))
      refine then_normal (hA105 _ _ _ ⟨_, [(3, (.int .u64 (ishr .u64 u_60 (7 : Int)))), (4, (.slice a123 n124 c125))], hp.2, fit_mk (AgB.mix _ _ _) (by kernel_rfl) (vs_cons (by kernel_rfl) (vs_cons (by kernel_rfl) vs_nil)), ?_⟩)
      exact ⟨X127, (ishr .u64 u_60 (7 : Int)), (out62 ++ ([iwrap .u8 (ior .u64 (iand .u64 u_60 (127 : Int)) (128 : Int))])), a123, n124, c125, rfl, rfl, E131, hXo132, hS133, O129, (inR_ishr _ ru_61), hp.1⟩
    ·
      replace hp := hp.2 h111
      refine wp_exit ?_
      refine then_exit ?_
      refine then_exit ?_
      refine blk_exit ?_
      refine then_normal (K30 _ _ _ _ ?_)
      refine seq_ (fun _ K134 => ?_)
      refine reg_ ?_
      refine sq (o_pv (.slice a63 n64 c65) rfl (by kernel_rfl) ?_)
      refine sq (o_pv (.int .u64 u_60) rfl (by kernel_rfl) ?_)
      refine sq (o_pv (.int .u8 (iwrap .u8 u_60)) rfl (x_convw (k := .u64) Try.underlying61 Try.underlying5 (by kernel_rfl)) ?_)
      refine sq (o_rowX (R := (rInt .u8)) [(.int .u8 (iwrap .u8 u_60))] [iwrap .u8 u_60] 5 1 (X := X101) (B := w.heap.size) E106.size rfl (by kernel_rfl) (Flat.cons (cs := [(.int .u8 (iwrap .u8 u_60))]) (rInt_mk (inR_iwrap _ _)) Flat.nil) rfl (by decide) ?_)
      intro b135 w136 X137 s138 O139 n140
      have p141 := n140 _ (OS.old O66)
      obtain ⟨h142, hp⟩ := hp
      have O143 := (OS.step0 O66 s138)
      have E144 := (Evo.then0 E106 (Step.evo s138))
      refine sq (o_appX (R := (rInt .u8)) (X := X137) (B := w.heap.size) (L := out62) (M := [iwrap .u8 u_60]) rfl elT25 rfl E144.size O143 (OS.src O139) O139.1 (by kernel_rfl) (by kernel_rfl) h142 ?_)
      intro a145 n146 c147 w148 X149 s150 O151 gr152
      refine sq (o_pv (.slice a145 n146 c147) rfl (by kernel_rfl) ?_)
      refine nil_ ?_
      refine then_normal (K134 _ _ _ _ ?_)
      refine wp_ret ?_
      have hS153 := (Sub.trans (Sub.trans hS108 (Step.up s138)) (Step.up s150))
      have E154 := (Evo.thenW E144 (Step.evo s150) O143.2.2)
      refine end_ret hQ (.slice a145 n146 c147) (by kernel_rfl) ?_
      exact ⟨(out62 ++ ([iwrap .u8 u_60])), hp, E154, a145, c147, by rw [show n146 = (out62 ++ ([iwrap .u8 u_60])).length from O151.1], (OS.give O151 hS153)⟩

def rectoref3_Text_p (s : ByteArray) (Q : (List Int) → Prop) : Prop :=
  ((s.size ≤ maxLen) → (rectoref3_Int_p (s.size : Int) (fun (r4 : (List Int)) => ((r4.length ≤ 9223372036854775807) → ((r4.length + s.size ≤ 140737488355328) ∧ Q (r4 ++ bytesL s))))))
set_option maxRecDepth 20000 in
set_option maxHeartbeats 4000000 in
theorem rectoref3_Text_w {X : List Nat} {w : World} {s : ByteArray} {Q : (List Int) → Prop} (hX0 : Old X w) (zs1 : s.size ≤ maxLen) (hp : rectoref3_Text_p s Q) :
    Calls Try.prog 9 #[(.string s)] w (Ret fun v w' => ∃ (r0 : (List Int)), Q r0 ∧ Evo [] w w' ∧ ∃ (aq01 : Option Addr) (cq02 : Nat), v = (.slice aq01 r0.length cq02) ∧ Sl (rInt .u8) X w' aq01 cq02 r0) := by
  have hXo := hX0
  have E0 : Evo [] w w := RB.refl _ _ _
  have hS : Sub X X := Sub.refl _
  unfold rectoref3_Text_p at hp
  refine enter_ Try.func9 rfl 8 [(0, (.string s))] (by kernel_rfl) (fun Qe hQ => ?_)
  replace hp := hp zs1
  refine seq_ (fun _ K2 => ?_)
  refine reg_ ?_
  refine sq (o_pv (.slice none 0 0) rfl (by kernel_rfl) ?_)
  refine nil_ ?_
  refine then_normal (K2 _ _ _ _ ?_)
  refine seq_ (fun _ K3 => ?_)
  refine reg_ ?_
  refine sq (o_pv (.string s) rfl (by kernel_rfl) ?_)
  refine sq (o_pv (.int .i64 (s.size : Int)) rfl (by kernel_rfl) ?_)
  refine sq (o_call 11 #[(.int .i64 (s.size : Int))] rfl (x_call Try.call11 (by kernel_rfl)) (rectoref3_Int_w (X := X) (v_ := (s.size : Int)) hXo (inR_size zs1) hp) ?_)
  rintro _ w5 ⟨r4, hp, e6, a8, c9, rfl, O10⟩
  obtain ⟨X11, s7, O12, n13⟩ := OS.own_in O10 e6 E0.size
  replace hp := hp (OS.len O12)
  refine sq (o_pv (.string s) rfl (by kernel_rfl) ?_)
  obtain ⟨h14, hp⟩ := hp
  have E15 := (Evo.then0 E0 (Step.evo s7))
  refine sq (o_appS (X := X11) (B := w.heap.size) (L := r4) (sv := s) rfl Try.underlying25 Try.underlying9 (by kernel_rfl) E15.size O12 (by kernel_rfl) (by kernel_rfl) h14 ?_)
  intro a16 n17 c18 w19 X20 s21 O22 gr23
  refine sq (o_pv (.slice a16 n17 c18) rfl (by kernel_rfl) ?_)
  refine nil_ ?_
  refine then_normal (K3 _ _ _ _ ?_)
  refine wp_ret ?_
  have hS24 := (Sub.trans (Sub.trans hS (Step.up s7)) (Step.up s21))
  have E25 := (Evo.thenW E15 (Step.evo s21) O12.2.2)
  refine end_ret hQ (.slice a16 n17 c18) (by kernel_rfl) ?_
  exact ⟨(r4 ++ bytesL s), hp, E25, a16, c18, by rw [show n17 = (r4 ++ bytesL s).length from O22.1], (OS.out O22 hS24 hX0)⟩

def rectolaw3_CodeBack_p (l : (List S_rectolaw3_Item)) (Q : Bool → Prop) : Prop :=
  ((l.length ≤ 9223372036854775807) → (rectolaw3_known_p  (fun (r7 : Bool) => ((((!r7) = true) → Q false) ∧ (((!r7) = false) → ((((l.length : Int) > (60 : Int)) → Q true) ∧ ((¬ ((l.length : Int) > (60 : Int))) → (∃ (I894 : (List Int) → Int → S_codec_Enc → Prop) (m895 : (List Int) → Int → S_codec_Enc → Nat), (I894 ([] : List Int) (0 : Int) (S_codec_Enc.mk ([] : List Int))) ∧ ∀ (want454 : (List Int)) (i459 : Int) (o461 : S_codec_Enc), (I894 want454 i459 o461) → (want454.length ≤ 9223372036854775807) → (inR .i64 i459) → (((i459 < (l.length : Int)) → (∃ k1120 : (List Int) → S_codec_Enc → Prop, (∀ (want1112 : (List Int)) (o1117 : S_codec_Enc), k1120 want1112 o1117 → (want1112.length ≤ 9223372036854775807) → ((inR .i64 (i459 + (1 : Int))) ∧ ((I894 want1112 (i459 + (1 : Int)) o1117) ∧ m895 want1112 (i459 + (1 : Int)) o1117 < m895 want454 i459 o461))) ∧ ((inL l i459) ∧ ((inR .i64 ((lget l i459).I)) → ((((lget l i459).Text).size ≤ maxLen) → ((((((lget l i459).Text).size : Int) > (300 : Int)) → Q true) ∧ ((¬ ((((lget l i459).Text).size : Int) > (300 : Int))) → ((inL l i459) ∧ ((inR .i64 ((lget l i459).I)) → ((((lget l i459).Text).size ≤ maxLen) → (((((lget l i459).Is) = true) → ((inL l i459) ∧ ((inR .i64 ((lget l i459).I)) → ((((lget l i459).Text).size ≤ maxLen) → (codec_Enc_Text_p o461 ([(lget l i459).Text]) (fun (e1197 : S_codec_Enc) => ((inL l i459) ∧ ((inR .i64 ((lget l i459).I)) → ((((lget l i459).Text).size ≤ maxLen) → (rectoref3_Text_p ((lget l i459).Text) (fun (r1218 : (List Int)) => ((r1218.length ≤ 9223372036854775807) → (((want454.length + r1218.length) * 1 ≤ 140737488355328) ∧ (k1120 (want454 ++ r1218) e1197)))))))))))))) ∧ ((((lget l i459).Is) = false) → ((inL l i459) ∧ ((inR .i64 ((lget l i459).I)) → ((((lget l i459).Text).size ≤ maxLen) → (codec_Enc_Int_p o461 ([(lget l i459).I]) (fun (e1280 : S_codec_Enc) => ((inL l i459) ∧ ((inR .i64 ((lget l i459).I)) → ((((lget l i459).Text).size ≤ maxLen) → (rectoref3_Int_p ((lget l i459).I) (fun (r1301 : (List Int)) => ((r1301.length ≤ 9223372036854775807) → (((want454.length + r1301.length) * 1 ≤ 140737488355328) ∧ (k1120 (want454 ++ r1301) e1280))))))))))))))))))))))))) ∧ ((¬ (i459 < (l.length : Int))) → (codec_Enc_Bytes_p o461 (fun (e1352 : S_codec_Enc) (r1353 : (List Int)) => ((r1353.length ≤ 9223372036854775807) → (((¬ ((strOfNums r1353 : ByteArray) = strOfNums want454)) → Q false) ∧ (((strOfNums r1353 : ByteArray) = strOfNums want454) → (codec_Of_p want454 (fun (r1387 : S_codec_Dec) => (∃ (I1971 : Int → S_codec_Dec → Prop) (m1972 : Int → S_codec_Dec → Nat), (I1971 (0 : Int) r1387) ∧ ∀ (i1683 : Int) (o1685 : S_codec_Dec), (I1971 i1683 o1685) → (inR .i64 i1683) → (((i1683 < (l.length : Int)) → (∃ k2120 : Bool → S_codec_Dec → Prop, (∀ (s2116 : Bool) (o2117 : S_codec_Dec), k2120 s2116 o2117 → (((s2116 = true) → Q false) ∧ ((s2116 = false) → ((inR .i64 (i1683 + (1 : Int))) ∧ ((I1971 (i1683 + (1 : Int)) o2117) ∧ m1972 (i1683 + (1 : Int)) o2117 < m1972 i1683 o1685))))) ∧ ((inL l i1683) ∧ ((inR .i64 ((lget l i1683).I)) → ((((lget l i1683).Text).size ≤ maxLen) → (((((lget l i1683).Is) = true) → ((inL l i1683) ∧ ((inR .i64 ((lget l i1683).I)) → ((((lget l i1683).Text).size ≤ maxLen) → (codec_Dec_Text_p o1685 (fun (d2166 : S_codec_Dec) (r2167 : ByteArray) => ((r2167.size ≤ maxLen) → ((((r2167 : ByteArray) = (lget l i1683).Text) → ((inL l i1683) ∧ ((inR .i64 ((lget l i1683).I)) → ((((lget l i1683).Text).size ≤ maxLen) → (((((lget l i1683).Is) = true) → (k2120 false d2166)) ∧ ((¬ (((lget l i1683).Is) = true)) → ((inL l i1683) ∧ ((inR .i64 ((lget l i1683).I)) → ((((lget l i1683).Text).size ≤ maxLen) → (codec_Dec_Int_p d2166 (fun (d2209 : S_codec_Dec) (r2210 : Int) => ((inR .i64 r2210) → (k2120 (!decide (r2210 = ((lget l i1683).I))) d2209))))))))))))) ∧ ((¬ ((r2167 : ByteArray) = (lget l i1683).Text)) → (k2120 true d2166)))))))))) ∧ ((¬ (((lget l i1683).Is) = true)) → ((inL l i1683) ∧ ((inR .i64 ((lget l i1683).I)) → ((((lget l i1683).Text).size ≤ maxLen) → (((((lget l i1683).Is) = true) → (k2120 false o1685)) ∧ ((¬ (((lget l i1683).Is) = true)) → ((inL l i1683) ∧ ((inR .i64 ((lget l i1683).I)) → ((((lget l i1683).Text).size ≤ maxLen) → (codec_Dec_Int_p o1685 (fun (d2251 : S_codec_Dec) (r2252 : Int) => ((inR .i64 r2252) → (k2120 (!decide (r2252 = ((lget l i1683).I))) d2251))))))))))))))))))) ∧ ((¬ (i1683 < (l.length : Int))) → (∃ k2296 : Bool → Prop, (∀ (s2295 : Bool), k2296 s2295 → Q s2295) ∧ (codec_Dec_Left_p o1685 (fun (d2306 : S_codec_Dec) (r2307 : Int) => ((inR .i64 r2307) → (((r2307 = (0 : Int)) → (codec_Dec_Err_p d2306 (fun (d2320 : S_codec_Dec) (r2321 : PErr) => (k2296 r2321.isNil)))) ∧ ((¬ (r2307 = (0 : Int))) → (k2296 false)))))))))))))))))))))))))))
set_option maxRecDepth 20000 in
set_option maxHeartbeats 4000000 in
theorem rectolaw3_CodeBack_w {X : List Nat} {w : World} {l : (List S_rectolaw3_Item)} {al1 : Option Addr} {cl2 : Nat} {Q : Bool → Prop} (hX0 : Old X w) (hl3 : Sl r_rectolaw3_Item X w al1 cl2 l) (hp : rectolaw3_CodeBack_p l Q) :
    Calls Try.prog 3 #[(.slice al1 l.length cl2)] w (Ret fun v w' => ∃ (r0 : Bool), Q r0 ∧ Evo [] w w' ∧ v = (.bool r0)) := by
  have hXo := hX0
  have E0 : Evo [] w w := RB.refl _ _ _
  have hS : Sub X X := Sub.refl _
  unfold rectolaw3_CodeBack_p at hp
  refine enter_ Try.func3 rfl 120 [(0, (.slice al1 l.length cl2))] (by kernel_rfl) (fun Qe hQ => ?_)
  replace hp := hp (Sl.len hl3)
  refine seq_ (fun _ K4 => ?_)
  refine reg_ ?_
  refine sq (o_pv (.bool false) rfl (by kernel_rfl) ?_)
  refine nil_ ?_
  refine then_normal (K4 _ _ _ _ ?_)
  refine seq_ (fun _ K5 => ?_)
  refine seq_ (fun _ K6 => ?_)
  refine reg_ ?_
  refine sq (o_call 7 #[] rfl (x_call Try.call7 (by kernel_rfl)) (rectolaw3_known_w (X := [])  (Old.nil _) hp) ?_)
  rintro _ w8 ⟨r7, hp, e9, rfl⟩
  have s10 := Step.of0 X e9
  refine sq (o_pv (.bool (!r7)) rfl (by kernel_rfl) ?_)
  refine nil_ ?_
  refine then_normal (K6 _ _ _ _ ?_)
  refine cond_b (!r7) (by kernel_rfl) (fun h11 => ?_) (fun h11 => ?_)
  ·
    replace hp := hp.1 h11
    refine seq_ (fun _ K12 => ?_)
    refine reg_ ?_
    refine sq (o_pv (.bool false) rfl (by kernel_rfl) ?_)
    refine nil_ ?_
    refine then_normal (K12 _ _ _ _ ?_)
    refine wp_ret ?_
    refine then_ret ?_
    have E13 := (Evo.then0 E0 e9)
    refine end_ret hQ (.bool false) (by kernel_rfl) ?_
    exact ⟨false, hp, E13, rfl⟩
  ·
    replace hp := hp.2 h11
    refine wp_skip ?_
    refine then_normal (K5 _ _ _ _ ?_)
    refine seq_ (fun _ K14 => ?_)
    refine seq_ (fun _ K15 => ?_)
    refine reg_ ?_
    refine sq (o_pv (.slice al1 l.length cl2) rfl (by kernel_rfl) ?_)
    refine sq (o_pv (.int .i64 (l.length : Int)) rfl (by kernel_rfl) ?_)
    refine sq (o_pv (.bool (decide ((l.length : Int) > (60 : Int)))) rfl (by kernel_rfl) ?_)
    refine nil_ ?_
    refine then_normal (K15 _ _ _ _ ?_)
    refine cond_d ((l.length : Int) > (60 : Int)) (by kernel_rfl) (fun h16 => ?_) (fun h16 => ?_)
    ·
      replace hp := hp.1 h16
      refine seq_ (fun _ K17 => ?_)
      refine reg_ ?_
      refine sq (o_pv (.bool true) rfl (by kernel_rfl) ?_)
      refine nil_ ?_
      refine then_normal (K17 _ _ _ _ ?_)
      refine wp_ret ?_
      refine then_ret ?_
      have E18 := (Evo.then0 E0 e9)
      refine end_ret hQ (.bool true) (by kernel_rfl) ?_
      exact ⟨true, hp, E18, rfl⟩
    ·
      replace hp := hp.2 h16
      refine wp_skip ?_
      refine then_normal (K14 _ _ _ _ ?_)
      refine seq_ (fun _ K19 => ?_)
      refine reg_ ?_
      refine sq (o_pv (.agg #[(.slice none 0 0)]) rfl (by kernel_rfl) ?_)
      have E26 := (Evo.then0 E0 e9)
      refine sq (o_newX [(.slice none 0 0)] 27 (X := X) (B := w.heap.size) E26.size rfl (by kernel_rfl) ?_)
      intro b20 w21 X22 s23 k24 n25
      refine sq (o_pv (.pointer (some ⟨b20, 0, none⟩)) rfl (by kernel_rfl) ?_)
      refine nil_ ?_
      refine then_normal (K19 _ _ _ _ ?_)
      refine seq_ (fun _ K27 => ?_)
      refine reg_ ?_
      refine sq (o_pv (.slice none 0 0) rfl (by kernel_rfl) ?_)
      refine nil_ ?_
      refine then_normal (K27 _ _ _ _ ?_)
      refine seq_ (fun _ K28 => ?_)
      refine seq_ (fun _ K29 => ?_)
      refine reg_ ?_
      refine sq (o_pv (.int .i64 (0 : Int)) rfl (by kernel_rfl) ?_)
      refine nil_ ?_
      refine then_normal (K29 _ _ _ _ ?_)
      refine wp_block ?_
      have hl904 := (Sl.step (Sl.step hl3 s10) s23)
      have hXo905 := (Old.step (Old.step hXo s10) s23)
      have E906 := (Evo.then0 E26 (Step.evo s23))
      have hS907 := (Sub.trans (Sub.trans hS (Step.up s10)) (Step.up s23))
      obtain ⟨I894, m895, hI896, hp⟩ := hp
      obtain ⟨F913, m914, hs915⟩ := MO.pack (o_codec_Enc_mk k24 (OS.nil2 _ _ _ _ _) (Ap.nil_r _))
      refine loop_ 36893488147419070516 (fun kq lq w898 => ∃ (X899 : List Nat) (want454 : (List Int)) (i459 : Int) (o461 : S_codec_Enc) (a455 : Option Addr) (n456 : Nat) (c457 : Nat) (F462 : List Nat), (lq = [(4, (.slice a455 n456 c457)), (5, (.int .i64 i459))]) ∧ (kq = m895 want454 i459 o461) ∧ (Evo [] w w898) ∧ (Old X899 w898) ∧ (Sub X X899) ∧ (Sl r_rectolaw3_Item X899 w898 al1 cl2 l) ∧ (OS (rInt .u8) ([]) w.heap.size X899 w898 5 a455 n456 c457 want454) ∧ (MO o_codec_Enc 27 ([]) w.heap.size X899 w898 F462 b20 o461) ∧ (Ap (blkL a455) (F462)) ∧ (inR .i64 i459) ∧ (I894 want454 i459 o461)) (m895 ([] : List Int) (0 : Int) (S_codec_Enc.mk ([] : List Int))) [(4, (.slice none 0 0)), (5, (.int .i64 (0 : Int)))] (vs_cons (by kernel_rfl) (vs_cons (by kernel_rfl) vs_nil)) ⟨X22, ([] : List Int), (0 : Int), (S_codec_Enc.mk ([] : List Int)), none, 0, 0, F913, rfl, rfl, E906, hXo905, hS907, hl904, (OS.nil _ _ _ _), m914, (Ap.nil_l _), (by decide), hI896⟩ ?_
      rintro _ _ w898 g901 ⟨X899, want454, i459, o461, a455, n456, c457, F462, rfl, rfl, E908, hXo909, hS910, hl911, O458, m463, p912, ri460, hI897⟩ Kl902 hA903
      replace hp := hp want454 i459 o461 hI897 (OS.len O458) ri460
      refine seq_ (fun _ K916 => ?_)
      refine seq_ (fun _ K917 => ?_)
      refine reg_ ?_
      refine sq (o_pv (.int .i64 i459) rfl (by kernel_rfl) ?_)
      refine sq (o_pv (.slice al1 l.length cl2) rfl (by kernel_rfl) ?_)
      refine sq (o_pv (.int .i64 (l.length : Int)) rfl (by kernel_rfl) ?_)
      refine sq (o_pv (.bool (decide (i459 < (l.length : Int)))) rfl (by kernel_rfl) ?_)
      refine nil_ ?_
      refine then_normal (K917 _ _ _ _ ?_)
      refine cond_d (i459 < (l.length : Int)) (by kernel_rfl) (fun h918 => ?_) (fun h918 => ?_)
      ·
        replace hp := hp.1 h918
        refine wp_skip ?_
        refine then_normal (K916 _ _ _ _ ?_)
        refine seq_ (fun _ K919 => ?_)
        obtain ⟨k1120, hk1121, hp⟩ := hp
        refine ground_ ?_
        refine join_ 36893488147417006100 (fun lq w1122 => ∃ (X1123 : List Nat) (want1112 : (List Int)) (o1117 : S_codec_Enc) (a1113 : Option Addr) (n1114 : Nat) (c1115 : Nat) (F1118 : List Nat), (lq = [(4, (.slice a1113 n1114 c1115))]) ∧ (Evo [] w w1122) ∧ (Old X1123 w1122) ∧ (Sub X X1123) ∧ (Sl r_rectolaw3_Item X1123 w1122 al1 cl2 l) ∧ (OS (rInt .u8) ([]) w.heap.size X1123 w1122 5 a1113 n1114 c1115 want1112) ∧ (MO o_codec_Enc 27 ([]) w.heap.size X1123 w1122 F1118 b20 o1117) ∧ (Ap (blkL a1113) (F1118)) ∧ (k1120 want1112 o1117)) (fun Kj1124 hJ1125 => ?_) ?_
        ·
          refine wp_block ?_
          refine seq_ (fun _ K1132 => ?_)
          refine seq_ (fun _ K1133 => ?_)
          refine reg_ ?_
          refine sq (o_pv (.slice al1 l.length cl2) rfl (by kernel_rfl) ?_)
          refine sq (o_pv (.int .i64 i459) rfl (by kernel_rfl) ?_)
          obtain ⟨h1134, hp⟩ := hp
          obtain ⟨b1135, o1136, cs1137, ha1138, nx1139, lt1140, ok1141, hc1142⟩ := Sl.atI hl911 i459 h1134
          obtain ⟨rfl, reI1143, zeText1144⟩ := r_rectolaw3_Item_open ok1141
          replace hp := hp reI1143
          replace hp := hp zeText1144
          refine sq (o_pv (.pointer (some ⟨b1135, o1136 + i459.toNat * 3, none⟩)) rfl (x_ixA (m := l.length) (c := cl2) (k := .i64) (i := i459) Try.underlying22 Try.sizeOf29 (by rw [← ha1138]; kernel_rfl) (by kernel_rfl) h1134) ?_)
          refine sq (o_pv (.pointer (some ⟨b1135, o1136 + i459.toNat * 3 + 2, none⟩)) rfl (by kernel_rfl) ?_)
          refine sq (o_pv (.string ((lget l i459).Text)) rfl (x_load1 (by kernel_rfl) Try.isAgg9 (hc1142 2 _ rfl)) ?_)
          refine sq (o_pv (.int .i64 (((lget l i459).Text).size : Int)) rfl (by kernel_rfl) ?_)
          refine sq (o_pv (.bool (decide ((((lget l i459).Text).size : Int) > (300 : Int)))) rfl (by kernel_rfl) ?_)
          refine nil_ ?_
          refine then_normal (K1133 _ _ _ _ ?_)
          refine cond_d ((((lget l i459).Text).size : Int) > (300 : Int)) (by kernel_rfl) (fun h1145 => ?_) (fun h1145 => ?_)
          ·
            replace hp := hp.1 h1145
            refine seq_ (fun _ K1146 => ?_)
            refine reg_ ?_
            refine sq (o_pv (.bool true) rfl (by kernel_rfl) ?_)
            refine nil_ ?_
            refine then_normal (K1146 _ _ _ _ ?_)
            refine wp_ret ?_
            refine then_ret ?_
            refine blk_ret ?_
            refine then_ret ?_
            refine then_ret ?_
            refine then_ret ?_
            refine blk_ret ?_
            refine then_ret ?_
            refine end_ret hQ (.bool true) (by kernel_rfl) ?_
            exact ⟨true, hp, E908, rfl⟩
          ·
            replace hp := hp.2 h1145
            refine wp_skip ?_
            refine then_normal (K1132 _ _ _ _ ?_)
            refine seq_ (fun _ K1147 => ?_)
            refine reg_ ?_
            refine sq (o_pv (.slice al1 l.length cl2) rfl (by kernel_rfl) ?_)
            refine sq (o_pv (.int .i64 i459) rfl (by kernel_rfl) ?_)
            obtain ⟨h1148, hp⟩ := hp
            obtain ⟨b1149, o1150, cs1151, ha1152, nx1153, lt1154, ok1155, hc1156⟩ := Sl.atI hl911 i459 h1148
            obtain ⟨rfl, reI1157, zeText1158⟩ := r_rectolaw3_Item_open ok1155
            replace hp := hp reI1157
            replace hp := hp zeText1158
            refine sq (o_pv (.pointer (some ⟨b1149, o1150 + i459.toNat * 3, none⟩)) rfl (x_ixA (m := l.length) (c := cl2) (k := .i64) (i := i459) Try.underlying22 Try.sizeOf29 (by rw [← ha1152]; kernel_rfl) (by kernel_rfl) h1148) ?_)
            refine sq (o_pv (.pointer (some ⟨b1149, o1150 + i459.toNat * 3, none⟩)) rfl (by kernel_rfl) ?_)
            refine sq (o_pv (.bool ((lget l i459).Is)) rfl (x_load1 (by kernel_rfl) Try.isAgg4 (hc1156 0 _ rfl)) ?_)
            refine nil_ ?_
            refine then_normal (K1147 _ _ _ _ ?_)
            refine cond_b ((lget l i459).Is) (by kernel_rfl) (fun h1159 => ?_) (fun h1159 => ?_)
            ·
              replace hp := hp.1 h1159
              refine seq_ (fun _ K1160 => ?_)
              refine reg_ ?_
              refine sq (o_pv (.pointer (some ⟨b20, 0, none⟩)) rfl (by kernel_rfl) ?_)
              refine sq (o_pv (.slice al1 l.length cl2) rfl (by kernel_rfl) ?_)
              refine sq (o_pv (.int .i64 i459) rfl (by kernel_rfl) ?_)
              obtain ⟨h1161, hp⟩ := hp
              obtain ⟨b1162, o1163, cs1164, ha1165, nx1166, lt1167, ok1168, hc1169⟩ := Sl.atI hl911 i459 h1161
              obtain ⟨rfl, reI1170, zeText1171⟩ := r_rectolaw3_Item_open ok1168
              replace hp := hp reI1170
              replace hp := hp zeText1171
              refine sq (o_pv (.pointer (some ⟨b1162, o1163 + i459.toNat * 3, none⟩)) rfl (x_ixA (m := l.length) (c := cl2) (k := .i64) (i := i459) Try.underlying22 Try.sizeOf29 (by rw [← ha1165]; kernel_rfl) (by kernel_rfl) h1161) ?_)
              refine sq (o_pv (.pointer (some ⟨b1162, o1163 + i459.toNat * 3 + 2, none⟩)) rfl (by kernel_rfl) ?_)
              refine sq (o_pv (.string ((lget l i459).Text)) rfl (x_load1 (by kernel_rfl) Try.isAgg9 (hc1169 2 _ rfl)) ?_)
              refine sq (o_rowX (R := rStr) [(.string ((lget l i459).Text))] [(lget l i459).Text] 9 1 (X := X899) (B := w.heap.size) E908.size rfl (by kernel_rfl) (Flat.cons (cs := [(.string ((lget l i459).Text))]) (rStr_mk zeText1171) Flat.nil) rfl (by decide) ?_)
              intro b1172 w1173 X1174 s1175 O1176 n1177
              have p1178 := n1177 _ (OS.old O458)
              have p1179 := n1177 _ (MO.old m463)
              have hS1180 := (Sub.trans hS910 (Step.up s1175))
              have E1186 := (Evo.then0 E908 (Step.evo s1175))
              have hXo1187 := (Old.step hXo909 s1175)
              have hl1188 := (Sl.step hl911 s1175)
              have O1189 := (OS.step0 O458 s1175)
              have m1190 := (MO.step0 m463 s1175)
              have ax1185 := OS.apold O1176 hX0
              obtain ⟨X1181, u1182, r1183, hm1184⟩ := OS.release O1176
              have E1191 := E1186
              have hXo1192 := (Old.less hXo1187 u1182)
              have hS1193 := (hm1184 _ ax1185 hS1180)
              have hl1194 := (Sl.less hl1188 u1182)
              have O1195 := (OS.less O1189 u1182 (hm1184 _ p1178 (OS.mem O1189)))
              have m1196 := (MO.less m1190 u1182 (hm1184 _ p1179 (MO.mem m1190)))
              refine sq (o_call 8 #[(.pointer (some ⟨b20, 0, none⟩)), (.slice (some ⟨b1172, 0, none⟩) ([(lget l i459).Text]).length 1)] rfl (x_call Try.call8 (by rw [← show 1 = ([(lget l i459).Text]).length from O1176.1]; kernel_rfl)) (codec_Enc_Text_w (X := X1181) (e := o461) (l := [(lget l i459).Text]) hXo1192 (MO.re m1196 (Wr.self _ _ (Sub.refl _))) r1183 hp) ?_)
              rintro _ w1198 ⟨e1197, hp, X1199, F1201, s1200, rfl, m1202⟩
              have m1203 := MO.re m1202 (Wr.trans m1202.wr m1196.wr E1191.size)
              have p1204 := Ap.grow m1202.wr p912 (OS.old O1195) (Nat.le_refl _)
              refine nil_ ?_
              refine then_normal (K1160 _ _ _ _ ?_)
              refine reg_ ?_
              refine sq (o_pv (.slice a455 n456 c457) rfl (by kernel_rfl) ?_)
              refine sq (o_pv (.slice al1 l.length cl2) rfl (by kernel_rfl) ?_)
              refine sq (o_pv (.int .i64 i459) rfl (by kernel_rfl) ?_)
              obtain ⟨h1205, hp⟩ := hp
              have hl1206 := (Sl.step hl1194 s1200)
              obtain ⟨b1207, o1208, cs1209, ha1210, nx1211, lt1212, ok1213, hc1214⟩ := Sl.atI hl1206 i459 h1205
              obtain ⟨rfl, reI1215, zeText1216⟩ := r_rectolaw3_Item_open ok1213
              replace hp := hp reI1215
              replace hp := hp zeText1216
              refine sq (o_pv (.pointer (some ⟨b1207, o1208 + i459.toNat * 3, none⟩)) rfl (x_ixA (m := l.length) (c := cl2) (k := .i64) (i := i459) Try.underlying22 Try.sizeOf29 (by rw [← ha1210]; kernel_rfl) (by kernel_rfl) h1205) ?_)
              refine sq (o_pv (.pointer (some ⟨b1207, o1208 + i459.toNat * 3 + 2, none⟩)) rfl (by kernel_rfl) ?_)
              refine sq (o_pv (.string ((lget l i459).Text)) rfl (x_load1 (by kernel_rfl) Try.isAgg9 (hc1214 2 _ rfl)) ?_)
              have hXo1217 := (Old.step hXo1192 s1200)
              refine sq (o_call 9 #[(.string ((lget l i459).Text))] rfl (x_call Try.call9 (by kernel_rfl)) (rectoref3_Text_w (X := X1199) (s := (lget l i459).Text) hXo1217 zeText1216 hp) ?_)
              rintro _ w1219 ⟨r1218, hp, e1220, ar1222, cr1223, rfl, hr1224⟩
              have s1221 := Step.of0 X1199 e1220
              replace hp := hp (Sl.len hr1224)
              obtain ⟨h1225, hp⟩ := hp
              have O1226 := (OS.step0 (OS.step O1195 s1200 p912) s1221)
              have m1227 := (MO.step0 m1203 s1221)
              have E1228 := (Evo.then0 (Evo.thenW E1191 (Step.evo s1200) m1196.wr) e1220)
              refine sq (o_appX (R := (rInt .u8)) (X := X1199) (B := w.heap.size) (L := want454) (M := r1218) rfl elT25 rfl E1228.size O1226 (Sl.src hr1224) rfl (by kernel_rfl) (by kernel_rfl) h1225 ?_)
              intro a1229 n1230 c1231 w1232 X1233 s1234 O1235 gr1236
              have p1237 := gr1236 _ (Ap.symm p1204) (MO.old m1227)
              refine sq (o_pv (.slice a1229 n1230 c1231) rfl (by kernel_rfl) ?_)
              refine nil_ ?_
              refine blk_normal ?_
              have E1238 := (Evo.thenW E1228 (Step.evo s1234) O1226.2.2)
              have hXo1239 := (Old.step (Old.step hXo1217 s1221) s1234)
              have hS1240 := (Sub.trans (Sub.trans (Sub.trans hS1193 (Step.up s1200)) (Step.up s1221)) (Step.up s1234))
              have hl1241 := (Sl.step (Sl.step hl1206 s1221) s1234)
              have m1242 := (MO.step m1227 s1234 (Ap.symm p1204))
              refine then_normal (hJ1125 _ _ _ ⟨[(4, (.slice a1229 n1230 c1231))], fit_mk (fun _ _ => rfl) (by kernel_rfl) (vs_cons (by kernel_rfl) vs_nil), ?_⟩)
              exact ⟨X1233, (want454 ++ r1218), e1197, a1229, n1230, c1231, F1201, rfl, E1238, hXo1239, hS1240, hl1241, O1235, m1242, (Ap.symm p1237), hp⟩
            ·
              replace hp := hp.2 h1159
              refine seq_ (fun _ K1243 => ?_)
              refine reg_ ?_
              refine sq (o_pv (.pointer (some ⟨b20, 0, none⟩)) rfl (by kernel_rfl) ?_)
              refine sq (o_pv (.slice al1 l.length cl2) rfl (by kernel_rfl) ?_)
              refine sq (o_pv (.int .i64 i459) rfl (by kernel_rfl) ?_)
              obtain ⟨h1244, hp⟩ := hp
              obtain ⟨b1245, o1246, cs1247, ha1248, nx1249, lt1250, ok1251, hc1252⟩ := Sl.atI hl911 i459 h1244
              obtain ⟨rfl, reI1253, zeText1254⟩ := r_rectolaw3_Item_open ok1251
              replace hp := hp reI1253
              replace hp := hp zeText1254
              refine sq (o_pv (.pointer (some ⟨b1245, o1246 + i459.toNat * 3, none⟩)) rfl (x_ixA (m := l.length) (c := cl2) (k := .i64) (i := i459) Try.underlying22 Try.sizeOf29 (by rw [← ha1248]; kernel_rfl) (by kernel_rfl) h1244) ?_)
              refine sq (o_pv (.pointer (some ⟨b1245, o1246 + i459.toNat * 3 + 1, none⟩)) rfl (by kernel_rfl) ?_)
              refine sq (o_pv (.int .i64 ((lget l i459).I)) rfl (x_load1 (by kernel_rfl) Try.isAgg3 (hc1252 1 _ rfl)) ?_)
              refine sq (o_rowX (R := (rInt .i64)) [(.int .i64 ((lget l i459).I))] [(lget l i459).I] 3 1 (X := X899) (B := w.heap.size) E908.size rfl (by kernel_rfl) (Flat.cons (cs := [(.int .i64 ((lget l i459).I))]) (rInt_mk reI1253) Flat.nil) rfl (by decide) ?_)
              intro b1255 w1256 X1257 s1258 O1259 n1260
              have p1261 := n1260 _ (OS.old O458)
              have p1262 := n1260 _ (MO.old m463)
              have hS1263 := (Sub.trans hS910 (Step.up s1258))
              have E1269 := (Evo.then0 E908 (Step.evo s1258))
              have hXo1270 := (Old.step hXo909 s1258)
              have hl1271 := (Sl.step hl911 s1258)
              have O1272 := (OS.step0 O458 s1258)
              have m1273 := (MO.step0 m463 s1258)
              have ax1268 := OS.apold O1259 hX0
              obtain ⟨X1264, u1265, r1266, hm1267⟩ := OS.release O1259
              have E1274 := E1269
              have hXo1275 := (Old.less hXo1270 u1265)
              have hS1276 := (hm1267 _ ax1268 hS1263)
              have hl1277 := (Sl.less hl1271 u1265)
              have O1278 := (OS.less O1272 u1265 (hm1267 _ p1261 (OS.mem O1272)))
              have m1279 := (MO.less m1273 u1265 (hm1267 _ p1262 (MO.mem m1273)))
              refine sq (o_call 10 #[(.pointer (some ⟨b20, 0, none⟩)), (.slice (some ⟨b1255, 0, none⟩) ([(lget l i459).I]).length 1)] rfl (x_call Try.call10 (by rw [← show 1 = ([(lget l i459).I]).length from O1259.1]; kernel_rfl)) (codec_Enc_Int_w (X := X1264) (e := o461) (l := [(lget l i459).I]) hXo1275 (MO.re m1279 (Wr.self _ _ (Sub.refl _))) r1266 hp) ?_)
              rintro _ w1281 ⟨e1280, hp, X1282, F1284, s1283, rfl, m1285⟩
              have m1286 := MO.re m1285 (Wr.trans m1285.wr m1279.wr E1274.size)
              have p1287 := Ap.grow m1285.wr p912 (OS.old O1278) (Nat.le_refl _)
              refine nil_ ?_
              refine then_normal (K1243 _ _ _ _ ?_)
              refine reg_ ?_
              refine sq (o_pv (.slice a455 n456 c457) rfl (by kernel_rfl) ?_)
              refine sq (o_pv (.slice al1 l.length cl2) rfl (by kernel_rfl) ?_)
              refine sq (o_pv (.int .i64 i459) rfl (by kernel_rfl) ?_)
              obtain ⟨h1288, hp⟩ := hp
              have hl1289 := (Sl.step hl1277 s1283)
              obtain ⟨b1290, o1291, cs1292, ha1293, nx1294, lt1295, ok1296, hc1297⟩ := Sl.atI hl1289 i459 h1288
              obtain ⟨rfl, reI1298, zeText1299⟩ := r_rectolaw3_Item_open ok1296
              replace hp := hp reI1298
              replace hp := hp zeText1299
              refine sq (o_pv (.pointer (some ⟨b1290, o1291 + i459.toNat * 3, none⟩)) rfl (x_ixA (m := l.length) (c := cl2) (k := .i64) (i := i459) Try.underlying22 Try.sizeOf29 (by rw [← ha1293]; kernel_rfl) (by kernel_rfl) h1288) ?_)
              refine sq (o_pv (.pointer (some ⟨b1290, o1291 + i459.toNat * 3 + 1, none⟩)) rfl (by kernel_rfl) ?_)
              refine sq (o_pv (.int .i64 ((lget l i459).I)) rfl (x_load1 (by kernel_rfl) Try.isAgg3 (hc1297 1 _ rfl)) ?_)
              have hXo1300 := (Old.step hXo1275 s1283)
              have O1308 := (OS.step O1278 s1283 p912)
              refine sq (o_call 11 #[(.int .i64 ((lget l i459).I))] rfl (x_call Try.call11 (by kernel_rfl)) (rectoref3_Int_w (X := X1282) (v_ := (lget l i459).I) hXo1300 reI1298 hp) ?_)
              rintro _ w1302 ⟨r1301, hp, e1303, a1305, c1306, rfl, O1307⟩
              have E1312 := (Evo.thenW E1274 (Step.evo s1283) m1279.wr)
              obtain ⟨X1309, s1304, O1310, n1311⟩ := OS.own_in O1307 e1303 E1312.size
              have p1313 := n1311 _ (OS.old O1308)
              have p1314 := n1311 _ (MO.old m1286)
              replace hp := hp (OS.len O1310)
              obtain ⟨h1315, hp⟩ := hp
              have O1316 := (OS.step0 O1308 s1304)
              have m1317 := (MO.step0 m1286 s1304)
              have E1318 := (Evo.then0 E1312 (Step.evo s1304))
              refine sq (o_appX (R := (rInt .u8)) (X := X1309) (B := w.heap.size) (L := want454) (M := r1301) rfl elT25 rfl E1318.size O1316 (OS.src O1310) O1310.1 (by kernel_rfl) (by kernel_rfl) h1315 ?_)
              intro a1319 n1320 c1321 w1322 X1323 s1324 O1325 gr1326
              have p1327 := gr1326 _ (Ap.symm p1287) (MO.old m1317)
              have p1328 := gr1326 _ (Ap.symm p1313) (OS.old O1310)
              refine sq (o_pv (.slice a1319 n1320 c1321) rfl (by kernel_rfl) ?_)
              refine nil_ ?_
              refine blk_normal ?_
              have E1329 := (Evo.thenW E1318 (Step.evo s1324) O1316.2.2)
              have hXo1330 := (Old.step (Old.step hXo1300 s1304) s1324)
              have hS1331 := (Sub.trans (Sub.trans (Sub.trans hS1276 (Step.up s1283)) (Step.up s1304)) (Step.up s1324))
              have hl1332 := (Sl.step (Sl.step hl1289 s1304) s1324)
              have m1333 := (MO.step m1317 s1324 (Ap.symm p1287))
              refine then_normal (hJ1125 _ _ _ ⟨[(4, (.slice a1319 n1320 c1321))], fit_mk (fun _ _ => rfl) (by kernel_rfl) (vs_cons (by kernel_rfl) vs_nil), ?_⟩)
              exact ⟨X1323, (want454 ++ r1301), e1280, a1319, n1320, c1321, F1284, rfl, E1329, hXo1330, hS1331, hl1332, O1325, m1333, (Ap.symm p1327), hp⟩
        ·
          rintro _ w1122 g1334 ⟨X1123, want1112, o1117, a1113, n1114, c1115, F1118, rfl, E1127, hXo1128, hS1129, hl1130, O1116, m1119, p1131, hv1126⟩
          replace hp := hk1121 want1112 o1117 hv1126 (OS.len O1116)
          refine then_normal (K919 _ _ _ _ ?_)
          refine reg_ ?_
          refine sq (o_pv (.int .i64 i459) rfl (by kernel_rfl) ?_)
          obtain ⟨h1335, hp⟩ := hp
          refine sq (o_pv (.int .i64 (i459 + (1 : Int))) rfl (x_add2 (k := .i64) (a := i459) (b := (1 : Int)) (i459 + (1 : Int)) (by kernel_rfl) (by kernel_rfl) (wrap_inR h1335)) ?_)
          refine sq (o_pv (.int .i64 (i459 + (1 : Int))) rfl (by kernel_rfl) ?_)
          refine nil_ ?_
          refine then_normal (hA903 _ _ _ ⟨_, [(4, (.slice a1113 n1114 c1115)), (5, (.int .i64 (i459 + (1 : Int))))], hp.2, fit_mk (AgB.nest (AgB.look (AgB.mix _ _ _) (by kernel_rfl)) (by kernel_rfl) (by kernel_rfl)) (by kernel_rfl) (vs_cons (by kernel_rfl) (vs_cons (by kernel_rfl) vs_nil)), ?_⟩)
          exact ⟨X1123, want1112, (i459 + (1 : Int)), o1117, a1113, n1114, c1115, F1118, rfl, rfl, E1127, hXo1128, hS1129, hl1130, O1116, m1119, p1131, h1335, hp.1⟩
      ·
        replace hp := hp.2 h918
        refine wp_exit ?_
        refine then_exit ?_
        refine then_exit ?_
        refine blk_exit ?_
        refine then_normal (K28 _ _ _ _ ?_)
        refine seq_ (fun _ K1336 => ?_)
        refine seq_ (fun _ K1337 => ?_)
        have hFX1344 : Sub F462 X899 := (MO.mem m463)
        refine reg_drawn (RB w898.heap.size F462) 6 (by kernel_rfl) (fun w1338 hd1339 => ?_)
        have e1340 := Evo.of_drew hd1339
        have z1341 : w1338.heap.size = w898.heap.size := by rw [hd1339]
        clear hd1339
        have s1343 := Step.of0 X899 e1340
        have er1342 := RB.refl w898.heap.size F462 w1338
        have E1345 := (Evo.then0 E908 (Step.evo s1343))
        have hXo1346 := (Old.step hXo909 s1343)
        have hS1347 := (Sub.trans hS910 (Step.up s1343))
        have hl1348 := (Sl.step hl911 s1343)
        have O1349 := (OS.step0 O458 s1343)
        have m1350 := (MO.step0 m463 s1343)
        refine r_take 0 (.pointer (some ⟨b20, 0, none⟩)) (RB.pre _ _) rfl (by kernel_rfl) (fun _ _ _ h => hQ.panic _ _ _ _ _ h) (.inl ⟨rfl, fun wq hq => (by kernel_rfl)⟩) ?_
        refine r_take 3 (.slice a455 n456 c457) (RB.pre _ _) rfl (by kernel_rfl) (fun _ _ _ h => hQ.panic _ _ _ _ _ h) (.inl ⟨rfl, fun wq hq => (by kernel_rfl)⟩) ?_
        have hl1351 := OS.len O1349
        refine r_take 4 (.string (strOfNums want454)) (RB.pre _ _) rfl (by kernel_rfl) (fun _ _ _ h => hQ.panic _ _ _ _ _ h) (.inl ⟨rfl, fun wq hq => (x_b2s_sl (a := a455) (len := n456) (c := c457) want454 Try.underlying25 Try.underlying5 Try.underlying9 (by kernel_rfl) O1349.1 (OS.rd (OS.step O1349 (stepR (RB.trans er1342 hq) z1341 hFX1344) p912)))⟩) ?_
        refine r_ready [1] (by kernel_rfl) rfl (all_cons ⟨_, _, _, _, _, _, rfl, ?_⟩ all_nil)
        refine o_call 12 #[(.pointer (some ⟨b20, 0, none⟩))] rfl (x_call Try.call12 (by kernel_rfl)) (codec_Enc_Bytes_w (X := X899) (e := o461) hXo1346 (MO.re m1350 (Wr.self _ _ (Sub.refl _))) hp) ?_
        rintro _ w1354 ⟨e1352, r1353, hp, X1355, F1357, ar1359, cr1360, s1356, rfl, m1358, hr1361⟩
        have rm := RB.mono (F' := F462) (Step.evo s1356) (Nat.le_trans (Nat.le_of_eq z1341.symm) (RB.size er1342)) (Wr.self _ _ (Sub.refl _))
        have er1362 := RB.trans er1342 rm
        refine ⟨fun _ => rm, ?_⟩
        have wn1363 : Wr F462 w898.heap.size F1357 := Wr.trans m1358.wr (Wr.self _ _ (Sub.refl _)) (Nat.le_trans (Nat.le_of_eq z1341.symm) (RB.size er1342))
        have m1364 := MO.re m1358 (Wr.trans m1358.wr m1350.wr E1345.size)
        have p1365 := Ap.grow m1358.wr p912 (OS.old O1349) (Nat.le_refl _)
        replace hp := hp (Sl.len hr1361)
        refine r_ready [2] (by kernel_rfl) rfl (all_cons ⟨_, _, _, _, _, _, rfl, ?_⟩ all_nil)
        have hl1366 := Sl.len hr1361
        refine o_pv (.string (strOfNums r1353)) rfl (x_b2s_sl (a := ar1359) (len := r1353.length) (c := cr1360) r1353 Try.underlying25 Try.underlying5 Try.underlying9 (by kernel_rfl) rfl hr1361) ?_
        refine ⟨fun _ => RB.refl _ _ _, ?_⟩
        refine r_take 5 (.bool (!decide ((strOfNums r1353 : ByteArray) = strOfNums want454))) (RB.pre _ _) rfl (by kernel_rfl) (fun _ _ _ h => hQ.panic _ _ _ _ _ h) (.inl ⟨rfl, fun wq hq => (x_strne (by kernel_rfl) (by kernel_rfl))⟩) ?_
        refine r_done (by kernel_rfl) ?_
        refine then_normal (K1337 _ _ _ _ ?_)
        refine cond_nd ((strOfNums r1353 : ByteArray) = strOfNums want454) (by kernel_rfl) (fun h1367 => ?_) (fun h1367 => ?_)
        ·
          replace hp := hp.1 h1367
          refine seq_ (fun _ K1368 => ?_)
          refine reg_ ?_
          refine sq (o_pv (.bool false) rfl (by kernel_rfl) ?_)
          refine nil_ ?_
          refine then_normal (K1368 _ _ _ _ ?_)
          refine wp_ret ?_
          refine then_ret ?_
          have E1369 := (Evo.thenW E1345 (Step.evo s1356) m1350.wr)
          refine end_ret hQ (.bool false) (by kernel_rfl) ?_
          exact ⟨false, hp, E1369, rfl⟩
        ·
          replace hp := hp.2 h1367
          refine wp_skip ?_
          refine then_normal (K1336 _ _ _ _ ?_)
          refine seq_ (fun _ K1370 => ?_)
          refine reg_ ?_
          refine sq (o_pv (.slice a455 n456 c457) rfl (by kernel_rfl) ?_)
          have O1371 := (OS.step O1349 s1356 p912)
          have hS1372 := (Sub.trans hS1347 (Step.up s1356))
          have E1378 := (Evo.thenW E1345 (Step.evo s1356) m1350.wr)
          have hXo1379 := (Old.step hXo1346 s1356)
          have hl1380 := (Sl.step hl1348 s1356)
          have ax1377 := OS.apold O1371 hX0
          obtain ⟨X1373, u1374, r1375, hm1376⟩ := OS.release O1371
          have E1381 := E1378
          have hXo1382 := (Old.less hXo1379 u1374)
          have hS1383 := (hm1376 _ ax1377 hS1372)
          have hl1384 := (Sl.less hl1380 u1374)
          have m1385 := (MO.less m1364 u1374 (hm1376 _ (Ap.symm p1365) (MO.mem m1364)))
          have hr1386 := (Sl.less hr1361 u1374)
          refine sq (o_call 13 #[(.slice a455 want454.length c457)] rfl (x_call Try.call13 (by rw [← show n456 = want454.length from O1371.1]; kernel_rfl)) (codec_Of_w (X := X1373) (b := want454) hXo1382 r1375 hp) ?_)
          rintro _ w1388 ⟨r1387, hp, X1389, br1391, Fr1392, s1390, rfl, mr1393⟩
          have m1394 := MO.re mr1393 (Wr.trans mr1393.wr (Wr.nil [] _) E1381.size)
          have p1395 := Ap.grow mr1393.wr (Ap.nil_r _) (MO.old m1385) (Nat.le_refl _)
          refine sq (o_pv (.pointer (some ⟨br1391, 0, none⟩)) rfl (by kernel_rfl) ?_)
          refine nil_ ?_
          refine then_normal (K1370 _ _ _ _ ?_)
          refine seq_ (fun _ K1396 => ?_)
          refine seq_ (fun _ K1397 => ?_)
          refine reg_ ?_
          refine sq (o_pv (.int .i64 (0 : Int)) rfl (by kernel_rfl) ?_)
          refine nil_ ?_
          refine then_normal (K1397 _ _ _ _ ?_)
          refine wp_block ?_
          have E1981 := (Evo.then0 E1381 (Step.evo s1390))
          have hXo1982 := (Old.step hXo1382 s1390)
          have hS1983 := (Sub.trans hS1383 (Step.up s1390))
          have hl1984 := (Sl.step hl1384 s1390)
          have r1985 := (Sl.step r1375 s1390)
          have m1986 := (MO.step0 m1385 s1390)
          have hr1987 := (Sl.step hr1386 s1390)
          obtain ⟨I1971, m1972, hI1973, hp⟩ := hp
          refine loop_ 5192296858525382895564757038792836 (fun kq lq w1975 => ∃ (X1976 : List Nat) (i1683 : Int) (o1685 : S_codec_Dec) (F1686 : List Nat), (lq = [(7, (.int .i64 i1683))]) ∧ (kq = m1972 i1683 o1685) ∧ (Evo [] w w1975) ∧ (Old X1976 w1975) ∧ (Sub X X1976) ∧ (Sl r_rectolaw3_Item X1976 w1975 al1 cl2 l) ∧ (MO o_codec_Dec 65 ([]) w.heap.size X1976 w1975 F1686 br1391 o1685) ∧ (inR .i64 i1683) ∧ (I1971 i1683 o1685)) (m1972 (0 : Int) r1387) [(7, (.int .i64 (0 : Int)))] (vs_cons (by kernel_rfl) vs_nil) ⟨X1389, (0 : Int), r1387, Fr1392, rfl, rfl, E1981, hXo1982, hS1983, hl1984, m1394, (by decide), hI1973⟩ ?_
          rintro _ _ w1975 g1978 ⟨X1976, i1683, o1685, F1686, rfl, rfl, E1988, hXo1989, hS1990, hl1991, m1687, ri1684, hI1974⟩ Kl1979 hA1980
          replace hp := hp i1683 o1685 hI1974 ri1684
          refine seq_ (fun _ K1992 => ?_)
          refine seq_ (fun _ K1993 => ?_)
          refine reg_ ?_
          refine sq (o_pv (.int .i64 i1683) rfl (by kernel_rfl) ?_)
          refine sq (o_pv (.slice al1 l.length cl2) rfl (by kernel_rfl) ?_)
          refine sq (o_pv (.int .i64 (l.length : Int)) rfl (by kernel_rfl) ?_)
          refine sq (o_pv (.bool (decide (i1683 < (l.length : Int)))) rfl (by kernel_rfl) ?_)
          refine nil_ ?_
          refine then_normal (K1993 _ _ _ _ ?_)
          refine cond_d (i1683 < (l.length : Int)) (by kernel_rfl) (fun h1994 => ?_) (fun h1994 => ?_)
          ·
            replace hp := hp.1 h1994
            refine wp_skip ?_
            refine then_normal (K1992 _ _ _ _ ?_)
            refine seq_ (fun _ K1995 => ?_)
            refine wp_block ?_
            refine seq_ (fun _ K1996 => ?_)
            obtain ⟨k2120, hk2121, hp⟩ := hp
            refine ground_ ?_
            refine join_ 5192296857930364718723181741867008 (fun lq w2122 => ∃ (X2123 : List Nat) (s2116 : Bool) (o2117 : S_codec_Dec) (F2118 : List Nat), (lq = [(111, (.bool s2116))]) ∧ (Evo [] w w2122) ∧ (Old X2123 w2122) ∧ (Sub X X2123) ∧ (Sl r_rectolaw3_Item X2123 w2122 al1 cl2 l) ∧ (MO o_codec_Dec 65 ([]) w.heap.size X2123 w2122 F2118 br1391 o2117) ∧ (k2120 s2116 o2117)) (fun Kj2124 hJ2125 => ?_) ?_
            ·
              have hFX2137 : Sub F1686 X1976 := (MO.mem m1687)
              refine reg_drawn (RB w1975.heap.size F1686) 33 (by kernel_rfl) (fun w2131 hd2132 => ?_)
              have e2133 := Evo.of_drew hd2132
              have z2134 : w2131.heap.size = w1975.heap.size := by rw [hd2132]
              clear hd2132
              have s2136 := Step.of0 X1976 e2133
              have er2135 := RB.refl w1975.heap.size F1686 w2131
              have E2138 := (Evo.then0 E1988 (Step.evo s2136))
              have hXo2139 := (Old.step hXo1989 s2136)
              have hS2140 := (Sub.trans hS1990 (Step.up s2136))
              have hl2141 := (Sl.step hl1991 s2136)
              have m2142 := (MO.step0 m1687 s2136)
              refine r_take 0 (.slice al1 l.length cl2) (RB.pre _ _) rfl (by kernel_rfl) (fun _ _ _ h => hQ.panic _ _ _ _ _ h) (.inl ⟨rfl, fun wq hq => (by kernel_rfl)⟩) ?_
              refine r_take 1 (.int .i64 i1683) (RB.pre _ _) rfl (by kernel_rfl) (fun _ _ _ h => hQ.panic _ _ _ _ _ h) (.inl ⟨rfl, fun wq hq => (by kernel_rfl)⟩) ?_
              obtain ⟨h2143, hp⟩ := hp
              obtain ⟨b2144, o2145, cs2146, ha2147, nx2148, lt2149, ok2150, hc2151⟩ := Sl.atI hl2141 i1683 h2143
              obtain ⟨rfl, reI2152, zeText2153⟩ := r_rectolaw3_Item_open ok2150
              replace hp := hp reI2152
              replace hp := hp zeText2153
              refine r_take 2 (.pointer (some ⟨b2144, o2145 + i1683.toNat * 3, none⟩)) (RB.pre _ _) rfl (by kernel_rfl) (fun _ _ _ h => hQ.panic _ _ _ _ _ h) (.inl ⟨rfl, fun wq hq => (x_ixA (m := l.length) (c := cl2) (k := .i64) (i := i1683) Try.underlying22 Try.sizeOf29 (by rw [← ha2147]; kernel_rfl) (by kernel_rfl) h2143)⟩) ?_
              refine r_take 3 (.pointer (some ⟨b2144, o2145 + i1683.toNat * 3, none⟩)) (RB.pre _ _) rfl (by kernel_rfl) (fun _ _ _ h => hQ.panic _ _ _ _ _ h) (.inl ⟨rfl, fun wq hq => (by kernel_rfl)⟩) ?_
              by_cases h2154 : ((lget l i1683).Is) = true
              ·
                replace hp := hp.1 h2154
                refine r_take 4 (.bool true) (RB.pre _ _) rfl (by kernel_rfl) (fun _ _ _ h => hQ.panic _ _ _ _ _ h) (.inl ⟨rfl, fun wq hq => (x_bt (x_load1 (by kernel_rfl) Try.isAgg4 ((CellsAt.evo hc2151 (Step.evo (stepR (RB.trans er2135 hq) z2134 hFX2137)) (fun h => nx2148 (hFX2137 _ h))) 0 _ rfl)) h2154)⟩) ?_
                refine r_take 5 (.bool true) (RB.pre _ _) rfl (by kernel_rfl) (fun _ _ _ h => hQ.panic _ _ _ _ _ h) (.inl ⟨rfl, fun wq hq => (by kernel_rfl)⟩) ?_
                refine r_take 6 (.pointer (some ⟨br1391, 0, none⟩)) (RB.pre _ _) rfl (by kernel_rfl) (fun _ _ _ h => hQ.panic _ _ _ _ _ h) (.inl ⟨(by kernel_rfl), fun wq hq => (by kernel_rfl)⟩) ?_
                refine r_take 8 (.slice al1 l.length cl2) (RB.pre _ _) rfl (by kernel_rfl) (fun _ _ _ h => hQ.panic _ _ _ _ _ h) (.inl ⟨(by kernel_rfl), fun wq hq => (by kernel_rfl)⟩) ?_
                refine r_take 9 (.int .i64 i1683) (RB.pre _ _) rfl (by kernel_rfl) (fun _ _ _ h => hQ.panic _ _ _ _ _ h) (.inl ⟨(by kernel_rfl), fun wq hq => (by kernel_rfl)⟩) ?_
                obtain ⟨h2155, hp⟩ := hp
                obtain ⟨b2156, o2157, cs2158, ha2159, nx2160, lt2161, ok2162, hc2163⟩ := Sl.atI hl2141 i1683 h2155
                obtain ⟨rfl, reI2164, zeText2165⟩ := r_rectolaw3_Item_open ok2162
                replace hp := hp reI2164
                replace hp := hp zeText2165
                refine r_take 10 (.pointer (some ⟨b2156, o2157 + i1683.toNat * 3, none⟩)) (RB.pre _ _) rfl (by kernel_rfl) (fun _ _ _ h => hQ.panic _ _ _ _ _ h) (.inl ⟨(by kernel_rfl), fun wq hq => (x_ixA (m := l.length) (c := cl2) (k := .i64) (i := i1683) Try.underlying22 Try.sizeOf29 (by rw [← ha2159]; kernel_rfl) (by kernel_rfl) h2155)⟩) ?_
                refine r_take 11 (.pointer (some ⟨b2156, o2157 + i1683.toNat * 3 + 2, none⟩)) (RB.pre _ _) rfl (by kernel_rfl) (fun _ _ _ h => hQ.panic _ _ _ _ _ h) (.inl ⟨(by kernel_rfl), fun wq hq => (by kernel_rfl)⟩) ?_
                refine r_take 12 (.string ((lget l i1683).Text)) (RB.pre _ _) rfl (by kernel_rfl) (fun _ _ _ h => hQ.panic _ _ _ _ _ h) (.inl ⟨(by kernel_rfl), fun wq hq => (x_load1 (by kernel_rfl) Try.isAgg9 ((CellsAt.evo hc2163 (Step.evo (stepR (RB.trans er2135 hq) z2134 hFX2137)) (fun h => nx2160 (hFX2137 _ h))) 2 _ rfl))⟩) ?_
                refine r_ready [7] (by kernel_rfl) rfl (all_cons ⟨_, _, _, _, _, _, rfl, ?_⟩ all_nil)
                refine o_call 14 #[(.pointer (some ⟨br1391, 0, none⟩))] (by kernel_rfl) (x_call Try.call14 (by kernel_rfl)) (codec_Dec_Text_w (X := X1976) (d := o1685) hXo2139 (MO.re m2142 (Wr.self _ _ (Sub.refl _))) hp) ?_
                rintro _ w2168 ⟨d2166, r2167, hp, X2169, F2171, s2170, rfl, m2172, zr2173⟩
                have rm := RB.mono (F' := F1686) (Step.evo s2170) (Nat.le_trans (Nat.le_of_eq z2134.symm) (RB.size er2135)) (Wr.self _ _ (Sub.refl _))
                have er2174 := RB.trans er2135 rm
                refine ⟨fun _ => rm, ?_⟩
                have wn2175 : Wr F1686 w1975.heap.size F2171 := Wr.trans m2172.wr (Wr.self _ _ (Sub.refl _)) (Nat.le_trans (Nat.le_of_eq z2134.symm) (RB.size er2135))
                have m2176 := MO.re m2172 (Wr.trans m2172.wr m2142.wr E2138.size)
                replace hp := hp zr2173
                by_cases h2177 : (r2167 : ByteArray) = (lget l i1683).Text
                ·
                  replace hp := hp.1 h2177
                  refine r_take 13 (.bool false) (RB.pre _ _) rfl (by kernel_rfl) (fun _ _ _ h => hQ.panic _ _ _ _ _ h) (.inl ⟨(by kernel_rfl), fun wq hq => (x_ndf (p := (r2167 : ByteArray) = (lget l i1683).Text) (x_strne (by kernel_rfl) (by kernel_rfl)) h2177)⟩) ?_
                  refine r_take 14 (.bool false) (RB.pre _ _) rfl (by kernel_rfl) (fun _ _ _ h => hQ.panic _ _ _ _ _ h) (.inl ⟨rfl, fun wq hq => (by kernel_rfl)⟩) ?_
                  refine r_take 15 (.bool false) (RB.pre _ _) rfl (by kernel_rfl) (fun _ _ _ h => hQ.panic _ _ _ _ _ h) (.inl ⟨rfl, fun wq hq => (by kernel_rfl)⟩) ?_
                  refine r_take 16 (.slice al1 l.length cl2) (RB.pre _ _) rfl (by kernel_rfl) (fun _ _ _ h => hQ.panic _ _ _ _ _ h) (.inl ⟨(by kernel_rfl), fun wq hq => (by kernel_rfl)⟩) ?_
                  refine r_take 17 (.int .i64 i1683) (RB.pre _ _) rfl (by kernel_rfl) (fun _ _ _ h => hQ.panic _ _ _ _ _ h) (.inl ⟨(by kernel_rfl), fun wq hq => (by kernel_rfl)⟩) ?_
                  obtain ⟨h2178, hp⟩ := hp
                  obtain ⟨b2179, o2180, cs2181, ha2182, nx2183, lt2184, ok2185, hc2186⟩ := Sl.atI hl2141 i1683 h2178
                  obtain ⟨rfl, reI2187, zeText2188⟩ := r_rectolaw3_Item_open ok2185
                  replace hp := hp reI2187
                  replace hp := hp zeText2188
                  refine r_take 18 (.pointer (some ⟨b2179, o2180 + i1683.toNat * 3, none⟩)) (RB.pre _ _) rfl (by kernel_rfl) (fun _ _ _ h => hQ.panic _ _ _ _ _ h) (.inl ⟨(by kernel_rfl), fun wq hq => (x_ixA (m := l.length) (c := cl2) (k := .i64) (i := i1683) Try.underlying22 Try.sizeOf29 (by rw [← ha2182]; kernel_rfl) (by kernel_rfl) h2178)⟩) ?_
                  refine r_take 19 (.pointer (some ⟨b2179, o2180 + i1683.toNat * 3, none⟩)) (RB.pre _ _) rfl (by kernel_rfl) (fun _ _ _ h => hQ.panic _ _ _ _ _ h) (.inl ⟨(by kernel_rfl), fun wq hq => (by kernel_rfl)⟩) ?_
                  by_cases h2189 : ((lget l i1683).Is) = true
                  ·
                    replace hp := hp.1 h2189
                    refine r_take 20 (.bool true) (RB.pre _ _) rfl (by kernel_rfl) (fun _ _ _ h => hQ.panic _ _ _ _ _ h) (.inl ⟨(by kernel_rfl), fun wq hq => (x_bt (x_load1 (by kernel_rfl) Try.isAgg4 ((CellsAt.evo hc2186 (Step.evo (stepR (RB.trans er2174 hq) z2134 hFX2137)) (fun h => nx2183 (hFX2137 _ h))) 0 _ rfl)) h2189)⟩) ?_
                    refine r_take 21 (.bool false) (RB.pre _ _) rfl (by kernel_rfl) (fun _ _ _ h => hQ.panic _ _ _ _ _ h) (.inl ⟨(by kernel_rfl), fun wq hq => (by kernel_rfl)⟩) ?_
                    refine r_take 22 (.bool false) (RB.pre _ _) rfl (by kernel_rfl) (fun _ _ _ h => hQ.panic _ _ _ _ _ h) (.inl ⟨(by kernel_rfl), fun wq hq => (by kernel_rfl)⟩) ?_
                    refine r_take 23 undef (RB.pre _ _) rfl (by kernel_rfl) (fun _ _ _ h => hQ.panic _ _ _ _ _ h) (.inr ⟨by kernel_rfl, rfl⟩) ?_
                    refine r_take 24 undef (RB.pre _ _) rfl (by kernel_rfl) (fun _ _ _ h => hQ.panic _ _ _ _ _ h) (.inr ⟨by kernel_rfl, rfl⟩) ?_
                    refine r_take 25 undef (RB.pre _ _) rfl (by kernel_rfl) (fun _ _ _ h => hQ.panic _ _ _ _ _ h) (.inr ⟨by kernel_rfl, rfl⟩) ?_
                    refine r_take 26 undef (RB.pre _ _) rfl (by kernel_rfl) (fun _ _ _ h => hQ.panic _ _ _ _ _ h) (.inr ⟨by kernel_rfl, rfl⟩) ?_
                    refine r_take 27 undef (RB.pre _ _) rfl (by kernel_rfl) (fun _ _ _ h => hQ.panic _ _ _ _ _ h) (.inr ⟨by kernel_rfl, rfl⟩) ?_
                    refine r_take 28 undef (RB.pre _ _) rfl (by kernel_rfl) (fun _ _ _ h => hQ.panic _ _ _ _ _ h) (.inr ⟨by kernel_rfl, rfl⟩) ?_
                    refine r_take 29 undef (RB.pre _ _) rfl (by kernel_rfl) (fun _ _ _ h => hQ.panic _ _ _ _ _ h) (.inr ⟨by kernel_rfl, rfl⟩) ?_
                    refine r_take 30 undef (RB.pre _ _) rfl (by kernel_rfl) (fun _ _ _ h => hQ.panic _ _ _ _ _ h) (.inr ⟨by kernel_rfl, rfl⟩) ?_
                    refine r_take 31 (.bool false) (RB.pre _ _) rfl (by kernel_rfl) (fun _ _ _ h => hQ.panic _ _ _ _ _ h) (.inl ⟨(by kernel_rfl), fun wq hq => (by kernel_rfl)⟩) ?_
                    refine r_take 32 (.bool false) (RB.pre _ _) rfl (by kernel_rfl) (fun _ _ _ h => hQ.panic _ _ _ _ _ h) (.inl ⟨rfl, fun wq hq => (by kernel_rfl)⟩) ?_
                    refine r_done (by kernel_rfl) ?_
                    have E2190 := (Evo.thenW E2138 (Step.evo s2170) m2142.wr)
                    have hXo2191 := (Old.step hXo2139 s2170)
                    have hS2192 := (Sub.trans hS2140 (Step.up s2170))
                    have hl2193 := (Sl.step hl2141 s2170)
                    refine then_normal (hJ2125 _ _ _ ⟨[(111, (.bool false))], fit_mk (fun _ _ => rfl) (by kernel_rfl) (vs_cons (by kernel_rfl) vs_nil), ?_⟩)
                    exact ⟨X2169, false, d2166, F2171, rfl, E2190, hXo2191, hS2192, hl2193, m2176, hp⟩
                  ·
                    replace hp := hp.2 h2189
                    refine r_take 20 (.bool false) (RB.pre _ _) rfl (by kernel_rfl) (fun _ _ _ h => hQ.panic _ _ _ _ _ h) (.inl ⟨(by kernel_rfl), fun wq hq => (x_bf (x_load1 (by kernel_rfl) Try.isAgg4 ((CellsAt.evo hc2186 (Step.evo (stepR (RB.trans er2174 hq) z2134 hFX2137)) (fun h => nx2183 (hFX2137 _ h))) 0 _ rfl)) h2189)⟩) ?_
                    refine r_take 21 (.bool true) (RB.pre _ _) rfl (by kernel_rfl) (fun _ _ _ h => hQ.panic _ _ _ _ _ h) (.inl ⟨(by kernel_rfl), fun wq hq => (by kernel_rfl)⟩) ?_
                    refine r_take 22 (.bool true) (RB.pre _ _) rfl (by kernel_rfl) (fun _ _ _ h => hQ.panic _ _ _ _ _ h) (.inl ⟨(by kernel_rfl), fun wq hq => (by kernel_rfl)⟩) ?_
                    refine r_take 23 (.pointer (some ⟨br1391, 0, none⟩)) (RB.pre _ _) rfl (by kernel_rfl) (fun _ _ _ h => hQ.panic _ _ _ _ _ h) (.inl ⟨(by kernel_rfl), fun wq hq => (by kernel_rfl)⟩) ?_
                    refine r_take 25 (.slice al1 l.length cl2) (RB.pre _ _) rfl (by kernel_rfl) (fun _ _ _ h => hQ.panic _ _ _ _ _ h) (.inl ⟨(by kernel_rfl), fun wq hq => (by kernel_rfl)⟩) ?_
                    refine r_take 26 (.int .i64 i1683) (RB.pre _ _) rfl (by kernel_rfl) (fun _ _ _ h => hQ.panic _ _ _ _ _ h) (.inl ⟨(by kernel_rfl), fun wq hq => (by kernel_rfl)⟩) ?_
                    obtain ⟨h2194, hp⟩ := hp
                    obtain ⟨b2195, o2196, cs2197, ha2198, nx2199, lt2200, ok2201, hc2202⟩ := Sl.atI hl2141 i1683 h2194
                    obtain ⟨rfl, reI2203, zeText2204⟩ := r_rectolaw3_Item_open ok2201
                    replace hp := hp reI2203
                    replace hp := hp zeText2204
                    refine r_take 27 (.pointer (some ⟨b2195, o2196 + i1683.toNat * 3, none⟩)) (RB.pre _ _) rfl (by kernel_rfl) (fun _ _ _ h => hQ.panic _ _ _ _ _ h) (.inl ⟨(by kernel_rfl), fun wq hq => (x_ixA (m := l.length) (c := cl2) (k := .i64) (i := i1683) Try.underlying22 Try.sizeOf29 (by rw [← ha2198]; kernel_rfl) (by kernel_rfl) h2194)⟩) ?_
                    refine r_take 28 (.pointer (some ⟨b2195, o2196 + i1683.toNat * 3 + 1, none⟩)) (RB.pre _ _) rfl (by kernel_rfl) (fun _ _ _ h => hQ.panic _ _ _ _ _ h) (.inl ⟨(by kernel_rfl), fun wq hq => (by kernel_rfl)⟩) ?_
                    refine r_take 29 (.int .i64 ((lget l i1683).I)) (RB.pre _ _) rfl (by kernel_rfl) (fun _ _ _ h => hQ.panic _ _ _ _ _ h) (.inl ⟨(by kernel_rfl), fun wq hq => (x_load1 (by kernel_rfl) Try.isAgg3 ((CellsAt.evo hc2202 (Step.evo (stepR (RB.trans er2174 hq) z2134 hFX2137)) (fun h => nx2199 (hFX2137 _ h))) 1 _ rfl))⟩) ?_
                    refine r_ready [24] (by kernel_rfl) rfl (all_cons ⟨_, _, _, _, _, _, rfl, ?_⟩ all_nil)
                    have E2205 := (Evo.thenW E2138 (Step.evo s2170) m2142.wr)
                    have hXo2206 := (Old.step hXo2139 s2170)
                    have hS2207 := (Sub.trans hS2140 (Step.up s2170))
                    have hl2208 := (Sl.step hl2141 s2170)
                    refine o_call 15 #[(.pointer (some ⟨br1391, 0, none⟩))] (by kernel_rfl) (x_call Try.call15 (by kernel_rfl)) (codec_Dec_Int_w (X := X2169) (d := d2166) hXo2206 (MO.re m2176 (Wr.self _ _ (Sub.refl _))) hp) ?_
                    rintro _ w2211 ⟨d2209, r2210, hp, X2212, F2214, s2213, rfl, m2215, rr2216⟩
                    have rm := RB.mono (F' := F1686) (Step.evo s2213) (Nat.le_trans (Nat.le_of_eq z2134.symm) (RB.size er2174)) wn2175
                    have er2217 := RB.trans er2174 rm
                    refine ⟨fun _ => rm, ?_⟩
                    have wn2218 : Wr F1686 w1975.heap.size F2214 := Wr.trans m2215.wr wn2175 (Nat.le_trans (Nat.le_of_eq z2134.symm) (RB.size er2174))
                    have m2219 := MO.re m2215 (Wr.trans m2215.wr m2176.wr E2205.size)
                    replace hp := hp rr2216
                    refine r_take 30 (.bool (!decide (r2210 = ((lget l i1683).I)))) (RB.pre _ _) rfl (by kernel_rfl) (fun _ _ _ h => hQ.panic _ _ _ _ _ h) (.inl ⟨(by kernel_rfl), fun wq hq => (by kernel_rfl)⟩) ?_
                    refine r_take 31 (.bool (!decide (r2210 = ((lget l i1683).I)))) (RB.pre _ _) rfl (by kernel_rfl) (fun _ _ _ h => hQ.panic _ _ _ _ _ h) (.inl ⟨(by kernel_rfl), fun wq hq => (by kernel_rfl)⟩) ?_
                    refine r_take 32 (.bool (!decide (r2210 = ((lget l i1683).I)))) (RB.pre _ _) rfl (by kernel_rfl) (fun _ _ _ h => hQ.panic _ _ _ _ _ h) (.inl ⟨rfl, fun wq hq => (by kernel_rfl)⟩) ?_
                    refine r_done (by kernel_rfl) ?_
                    have E2220 := (Evo.thenW E2205 (Step.evo s2213) m2176.wr)
                    have hXo2221 := (Old.step hXo2206 s2213)
                    have hS2222 := (Sub.trans hS2207 (Step.up s2213))
                    have hl2223 := (Sl.step hl2208 s2213)
                    refine then_normal (hJ2125 _ _ _ ⟨[(111, (.bool (!decide (r2210 = ((lget l i1683).I)))))], fit_mk (fun _ _ => rfl) (by kernel_rfl) (vs_cons (by kernel_rfl) vs_nil), ?_⟩)
                    exact ⟨X2212, (!decide (r2210 = ((lget l i1683).I))), d2209, F2214, rfl, E2220, hXo2221, hS2222, hl2223, m2219, hp⟩
                ·
                  replace hp := hp.2 h2177
                  refine r_take 13 (.bool true) (RB.pre _ _) rfl (by kernel_rfl) (fun _ _ _ h => hQ.panic _ _ _ _ _ h) (.inl ⟨(by kernel_rfl), fun wq hq => (x_ndt (p := (r2167 : ByteArray) = (lget l i1683).Text) (x_strne (by kernel_rfl) (by kernel_rfl)) h2177)⟩) ?_
                  refine r_take 14 (.bool true) (RB.pre _ _) rfl (by kernel_rfl) (fun _ _ _ h => hQ.panic _ _ _ _ _ h) (.inl ⟨rfl, fun wq hq => (by kernel_rfl)⟩) ?_
                  refine r_take 15 (.bool true) (RB.pre _ _) rfl (by kernel_rfl) (fun _ _ _ h => hQ.panic _ _ _ _ _ h) (.inl ⟨rfl, fun wq hq => (by kernel_rfl)⟩) ?_
                  refine r_take 16 undef (RB.pre _ _) rfl (by kernel_rfl) (fun _ _ _ h => hQ.panic _ _ _ _ _ h) (.inr ⟨by kernel_rfl, rfl⟩) ?_
                  refine r_take 17 undef (RB.pre _ _) rfl (by kernel_rfl) (fun _ _ _ h => hQ.panic _ _ _ _ _ h) (.inr ⟨by kernel_rfl, rfl⟩) ?_
                  refine r_take 18 undef (RB.pre _ _) rfl (by kernel_rfl) (fun _ _ _ h => hQ.panic _ _ _ _ _ h) (.inr ⟨by kernel_rfl, rfl⟩) ?_
                  refine r_take 19 undef (RB.pre _ _) rfl (by kernel_rfl) (fun _ _ _ h => hQ.panic _ _ _ _ _ h) (.inr ⟨by kernel_rfl, rfl⟩) ?_
                  refine r_take 20 undef (RB.pre _ _) rfl (by kernel_rfl) (fun _ _ _ h => hQ.panic _ _ _ _ _ h) (.inr ⟨by kernel_rfl, rfl⟩) ?_
                  refine r_take 21 undef (RB.pre _ _) rfl (by kernel_rfl) (fun _ _ _ h => hQ.panic _ _ _ _ _ h) (.inr ⟨by kernel_rfl, rfl⟩) ?_
                  refine r_take 22 undef (RB.pre _ _) rfl (by kernel_rfl) (fun _ _ _ h => hQ.panic _ _ _ _ _ h) (.inr ⟨by kernel_rfl, rfl⟩) ?_
                  refine r_take 23 undef (RB.pre _ _) rfl (by kernel_rfl) (fun _ _ _ h => hQ.panic _ _ _ _ _ h) (.inr ⟨by kernel_rfl, rfl⟩) ?_
                  refine r_take 24 undef (RB.pre _ _) rfl (by kernel_rfl) (fun _ _ _ h => hQ.panic _ _ _ _ _ h) (.inr ⟨by kernel_rfl, rfl⟩) ?_
                  refine r_take 25 undef (RB.pre _ _) rfl (by kernel_rfl) (fun _ _ _ h => hQ.panic _ _ _ _ _ h) (.inr ⟨by kernel_rfl, rfl⟩) ?_
                  refine r_take 26 undef (RB.pre _ _) rfl (by kernel_rfl) (fun _ _ _ h => hQ.panic _ _ _ _ _ h) (.inr ⟨by kernel_rfl, rfl⟩) ?_
                  refine r_take 27 undef (RB.pre _ _) rfl (by kernel_rfl) (fun _ _ _ h => hQ.panic _ _ _ _ _ h) (.inr ⟨by kernel_rfl, rfl⟩) ?_
                  refine r_take 28 undef (RB.pre _ _) rfl (by kernel_rfl) (fun _ _ _ h => hQ.panic _ _ _ _ _ h) (.inr ⟨by kernel_rfl, rfl⟩) ?_
                  refine r_take 29 undef (RB.pre _ _) rfl (by kernel_rfl) (fun _ _ _ h => hQ.panic _ _ _ _ _ h) (.inr ⟨by kernel_rfl, rfl⟩) ?_
                  refine r_take 30 undef (RB.pre _ _) rfl (by kernel_rfl) (fun _ _ _ h => hQ.panic _ _ _ _ _ h) (.inr ⟨by kernel_rfl, rfl⟩) ?_
                  refine r_take 31 undef (RB.pre _ _) rfl (by kernel_rfl) (fun _ _ _ h => hQ.panic _ _ _ _ _ h) (.inr ⟨by kernel_rfl, rfl⟩) ?_
                  refine r_take 32 (.bool true) (RB.pre _ _) rfl (by kernel_rfl) (fun _ _ _ h => hQ.panic _ _ _ _ _ h) (.inl ⟨rfl, fun wq hq => (by kernel_rfl)⟩) ?_
                  refine r_done (by kernel_rfl) ?_
                  have E2224 := (Evo.thenW E2138 (Step.evo s2170) m2142.wr)
                  have hXo2225 := (Old.step hXo2139 s2170)
                  have hS2226 := (Sub.trans hS2140 (Step.up s2170))
                  have hl2227 := (Sl.step hl2141 s2170)
                  refine then_normal (hJ2125 _ _ _ ⟨[(111, (.bool true))], fit_mk (fun _ _ => rfl) (by kernel_rfl) (vs_cons (by kernel_rfl) vs_nil), ?_⟩)
                  exact ⟨X2169, true, d2166, F2171, rfl, E2224, hXo2225, hS2226, hl2227, m2176, hp⟩
              ·
                replace hp := hp.2 h2154
                refine r_take 4 (.bool false) (RB.pre _ _) rfl (by kernel_rfl) (fun _ _ _ h => hQ.panic _ _ _ _ _ h) (.inl ⟨rfl, fun wq hq => (x_bf (x_load1 (by kernel_rfl) Try.isAgg4 ((CellsAt.evo hc2151 (Step.evo (stepR (RB.trans er2135 hq) z2134 hFX2137)) (fun h => nx2148 (hFX2137 _ h))) 0 _ rfl)) h2154)⟩) ?_
                refine r_take 5 (.bool false) (RB.pre _ _) rfl (by kernel_rfl) (fun _ _ _ h => hQ.panic _ _ _ _ _ h) (.inl ⟨rfl, fun wq hq => (by kernel_rfl)⟩) ?_
                refine r_take 6 undef (RB.pre _ _) rfl (by kernel_rfl) (fun _ _ _ h => hQ.panic _ _ _ _ _ h) (.inr ⟨by kernel_rfl, rfl⟩) ?_
                refine r_take 7 undef (RB.pre _ _) rfl (by kernel_rfl) (fun _ _ _ h => hQ.panic _ _ _ _ _ h) (.inr ⟨by kernel_rfl, rfl⟩) ?_
                refine r_take 8 undef (RB.pre _ _) rfl (by kernel_rfl) (fun _ _ _ h => hQ.panic _ _ _ _ _ h) (.inr ⟨by kernel_rfl, rfl⟩) ?_
                refine r_take 9 undef (RB.pre _ _) rfl (by kernel_rfl) (fun _ _ _ h => hQ.panic _ _ _ _ _ h) (.inr ⟨by kernel_rfl, rfl⟩) ?_
                refine r_take 10 undef (RB.pre _ _) rfl (by kernel_rfl) (fun _ _ _ h => hQ.panic _ _ _ _ _ h) (.inr ⟨by kernel_rfl, rfl⟩) ?_
                refine r_take 11 undef (RB.pre _ _) rfl (by kernel_rfl) (fun _ _ _ h => hQ.panic _ _ _ _ _ h) (.inr ⟨by kernel_rfl, rfl⟩) ?_
                refine r_take 12 undef (RB.pre _ _) rfl (by kernel_rfl) (fun _ _ _ h => hQ.panic _ _ _ _ _ h) (.inr ⟨by kernel_rfl, rfl⟩) ?_
                refine r_take 13 undef (RB.pre _ _) rfl (by kernel_rfl) (fun _ _ _ h => hQ.panic _ _ _ _ _ h) (.inr ⟨by kernel_rfl, rfl⟩) ?_
                refine r_take 14 (.bool false) (RB.pre _ _) rfl (by kernel_rfl) (fun _ _ _ h => hQ.panic _ _ _ _ _ h) (.inl ⟨rfl, fun wq hq => (by kernel_rfl)⟩) ?_
                refine r_take 15 (.bool false) (RB.pre _ _) rfl (by kernel_rfl) (fun _ _ _ h => hQ.panic _ _ _ _ _ h) (.inl ⟨rfl, fun wq hq => (by kernel_rfl)⟩) ?_
                refine r_take 16 (.slice al1 l.length cl2) (RB.pre _ _) rfl (by kernel_rfl) (fun _ _ _ h => hQ.panic _ _ _ _ _ h) (.inl ⟨(by kernel_rfl), fun wq hq => (by kernel_rfl)⟩) ?_
                refine r_take 17 (.int .i64 i1683) (RB.pre _ _) rfl (by kernel_rfl) (fun _ _ _ h => hQ.panic _ _ _ _ _ h) (.inl ⟨(by kernel_rfl), fun wq hq => (by kernel_rfl)⟩) ?_
                obtain ⟨h2228, hp⟩ := hp
                obtain ⟨b2229, o2230, cs2231, ha2232, nx2233, lt2234, ok2235, hc2236⟩ := Sl.atI hl2141 i1683 h2228
                obtain ⟨rfl, reI2237, zeText2238⟩ := r_rectolaw3_Item_open ok2235
                replace hp := hp reI2237
                replace hp := hp zeText2238
                refine r_take 18 (.pointer (some ⟨b2229, o2230 + i1683.toNat * 3, none⟩)) (RB.pre _ _) rfl (by kernel_rfl) (fun _ _ _ h => hQ.panic _ _ _ _ _ h) (.inl ⟨(by kernel_rfl), fun wq hq => (x_ixA (m := l.length) (c := cl2) (k := .i64) (i := i1683) Try.underlying22 Try.sizeOf29 (by rw [← ha2232]; kernel_rfl) (by kernel_rfl) h2228)⟩) ?_
                refine r_take 19 (.pointer (some ⟨b2229, o2230 + i1683.toNat * 3, none⟩)) (RB.pre _ _) rfl (by kernel_rfl) (fun _ _ _ h => hQ.panic _ _ _ _ _ h) (.inl ⟨(by kernel_rfl), fun wq hq => (by kernel_rfl)⟩) ?_
                by_cases h2239 : ((lget l i1683).Is) = true
                ·
                  replace hp := hp.1 h2239
                  refine r_take 20 (.bool true) (RB.pre _ _) rfl (by kernel_rfl) (fun _ _ _ h => hQ.panic _ _ _ _ _ h) (.inl ⟨(by kernel_rfl), fun wq hq => (x_bt (x_load1 (by kernel_rfl) Try.isAgg4 ((CellsAt.evo hc2236 (Step.evo (stepR (RB.trans er2135 hq) z2134 hFX2137)) (fun h => nx2233 (hFX2137 _ h))) 0 _ rfl)) h2239)⟩) ?_
                  refine r_take 21 (.bool false) (RB.pre _ _) rfl (by kernel_rfl) (fun _ _ _ h => hQ.panic _ _ _ _ _ h) (.inl ⟨(by kernel_rfl), fun wq hq => (by kernel_rfl)⟩) ?_
                  refine r_take 22 (.bool false) (RB.pre _ _) rfl (by kernel_rfl) (fun _ _ _ h => hQ.panic _ _ _ _ _ h) (.inl ⟨(by kernel_rfl), fun wq hq => (by kernel_rfl)⟩) ?_
                  refine r_take 23 undef (RB.pre _ _) rfl (by kernel_rfl) (fun _ _ _ h => hQ.panic _ _ _ _ _ h) (.inr ⟨by kernel_rfl, rfl⟩) ?_
                  refine r_take 24 undef (RB.pre _ _) rfl (by kernel_rfl) (fun _ _ _ h => hQ.panic _ _ _ _ _ h) (.inr ⟨by kernel_rfl, rfl⟩) ?_
                  refine r_take 25 undef (RB.pre _ _) rfl (by kernel_rfl) (fun _ _ _ h => hQ.panic _ _ _ _ _ h) (.inr ⟨by kernel_rfl, rfl⟩) ?_
                  refine r_take 26 undef (RB.pre _ _) rfl (by kernel_rfl) (fun _ _ _ h => hQ.panic _ _ _ _ _ h) (.inr ⟨by kernel_rfl, rfl⟩) ?_
                  refine r_take 27 undef (RB.pre _ _) rfl (by kernel_rfl) (fun _ _ _ h => hQ.panic _ _ _ _ _ h) (.inr ⟨by kernel_rfl, rfl⟩) ?_
                  refine r_take 28 undef (RB.pre _ _) rfl (by kernel_rfl) (fun _ _ _ h => hQ.panic _ _ _ _ _ h) (.inr ⟨by kernel_rfl, rfl⟩) ?_
                  refine r_take 29 undef (RB.pre _ _) rfl (by kernel_rfl) (fun _ _ _ h => hQ.panic _ _ _ _ _ h) (.inr ⟨by kernel_rfl, rfl⟩) ?_
                  refine r_take 30 undef (RB.pre _ _) rfl (by kernel_rfl) (fun _ _ _ h => hQ.panic _ _ _ _ _ h) (.inr ⟨by kernel_rfl, rfl⟩) ?_
                  refine r_take 31 (.bool false) (RB.pre _ _) rfl (by kernel_rfl) (fun _ _ _ h => hQ.panic _ _ _ _ _ h) (.inl ⟨(by kernel_rfl), fun wq hq => (by kernel_rfl)⟩) ?_
                  refine r_take 32 (.bool false) (RB.pre _ _) rfl (by kernel_rfl) (fun _ _ _ h => hQ.panic _ _ _ _ _ h) (.inl ⟨rfl, fun wq hq => (by kernel_rfl)⟩) ?_
                  refine r_done (by kernel_rfl) ?_
                  refine then_normal (hJ2125 _ _ _ ⟨[(111, (.bool false))], fit_mk (fun _ _ => rfl) (by kernel_rfl) (vs_cons (by kernel_rfl) vs_nil), ?_⟩)
                  exact ⟨X1976, false, o1685, F1686, rfl, E2138, hXo2139, hS2140, hl2141, m2142, hp⟩
                ·
                  replace hp := hp.2 h2239
                  refine r_take 20 (.bool false) (RB.pre _ _) rfl (by kernel_rfl) (fun _ _ _ h => hQ.panic _ _ _ _ _ h) (.inl ⟨(by kernel_rfl), fun wq hq => (x_bf (x_load1 (by kernel_rfl) Try.isAgg4 ((CellsAt.evo hc2236 (Step.evo (stepR (RB.trans er2135 hq) z2134 hFX2137)) (fun h => nx2233 (hFX2137 _ h))) 0 _ rfl)) h2239)⟩) ?_
                  refine r_take 21 (.bool true) (RB.pre _ _) rfl (by kernel_rfl) (fun _ _ _ h => hQ.panic _ _ _ _ _ h) (.inl ⟨(by kernel_rfl), fun wq hq => (by kernel_rfl)⟩) ?_
                  refine r_take 22 (.bool true) (RB.pre _ _) rfl (by kernel_rfl) (fun _ _ _ h => hQ.panic _ _ _ _ _ h) (.inl ⟨(by kernel_rfl), fun wq hq => (by kernel_rfl)⟩) ?_
                  refine r_take 23 (.pointer (some ⟨br1391, 0, none⟩)) (RB.pre _ _) rfl (by kernel_rfl) (fun _ _ _ h => hQ.panic _ _ _ _ _ h) (.inl ⟨(by kernel_rfl), fun wq hq => (by kernel_rfl)⟩) ?_
                  refine r_take 25 (.slice al1 l.length cl2) (RB.pre _ _) rfl (by kernel_rfl) (fun _ _ _ h => hQ.panic _ _ _ _ _ h) (.inl ⟨(by kernel_rfl), fun wq hq => (by kernel_rfl)⟩) ?_
                  refine r_take 26 (.int .i64 i1683) (RB.pre _ _) rfl (by kernel_rfl) (fun _ _ _ h => hQ.panic _ _ _ _ _ h) (.inl ⟨(by kernel_rfl), fun wq hq => (by kernel_rfl)⟩) ?_
                  obtain ⟨h2240, hp⟩ := hp
                  obtain ⟨b2241, o2242, cs2243, ha2244, nx2245, lt2246, ok2247, hc2248⟩ := Sl.atI hl2141 i1683 h2240
                  obtain ⟨rfl, reI2249, zeText2250⟩ := r_rectolaw3_Item_open ok2247
                  replace hp := hp reI2249
                  replace hp := hp zeText2250
                  refine r_take 27 (.pointer (some ⟨b2241, o2242 + i1683.toNat * 3, none⟩)) (RB.pre _ _) rfl (by kernel_rfl) (fun _ _ _ h => hQ.panic _ _ _ _ _ h) (.inl ⟨(by kernel_rfl), fun wq hq => (x_ixA (m := l.length) (c := cl2) (k := .i64) (i := i1683) Try.underlying22 Try.sizeOf29 (by rw [← ha2244]; kernel_rfl) (by kernel_rfl) h2240)⟩) ?_
                  refine r_take 28 (.pointer (some ⟨b2241, o2242 + i1683.toNat * 3 + 1, none⟩)) (RB.pre _ _) rfl (by kernel_rfl) (fun _ _ _ h => hQ.panic _ _ _ _ _ h) (.inl ⟨(by kernel_rfl), fun wq hq => (by kernel_rfl)⟩) ?_
                  refine r_take 29 (.int .i64 ((lget l i1683).I)) (RB.pre _ _) rfl (by kernel_rfl) (fun _ _ _ h => hQ.panic _ _ _ _ _ h) (.inl ⟨(by kernel_rfl), fun wq hq => (x_load1 (by kernel_rfl) Try.isAgg3 ((CellsAt.evo hc2248 (Step.evo (stepR (RB.trans er2135 hq) z2134 hFX2137)) (fun h => nx2245 (hFX2137 _ h))) 1 _ rfl))⟩) ?_
                  refine r_ready [24] (by kernel_rfl) rfl (all_cons ⟨_, _, _, _, _, _, rfl, ?_⟩ all_nil)
                  refine o_call 15 #[(.pointer (some ⟨br1391, 0, none⟩))] (by kernel_rfl) (x_call Try.call15 (by kernel_rfl)) (codec_Dec_Int_w (X := X1976) (d := o1685) hXo2139 (MO.re m2142 (Wr.self _ _ (Sub.refl _))) hp) ?_
                  rintro _ w2253 ⟨d2251, r2252, hp, X2254, F2256, s2255, rfl, m2257, rr2258⟩
                  have rm := RB.mono (F' := F1686) (Step.evo s2255) (Nat.le_trans (Nat.le_of_eq z2134.symm) (RB.size er2135)) (Wr.self _ _ (Sub.refl _))
                  have er2259 := RB.trans er2135 rm
                  refine ⟨fun _ => rm, ?_⟩
                  have wn2260 : Wr F1686 w1975.heap.size F2256 := Wr.trans m2257.wr (Wr.self _ _ (Sub.refl _)) (Nat.le_trans (Nat.le_of_eq z2134.symm) (RB.size er2135))
                  have m2261 := MO.re m2257 (Wr.trans m2257.wr m2142.wr E2138.size)
                  replace hp := hp rr2258
                  refine r_take 30 (.bool (!decide (r2252 = ((lget l i1683).I)))) (RB.pre _ _) rfl (by kernel_rfl) (fun _ _ _ h => hQ.panic _ _ _ _ _ h) (.inl ⟨(by kernel_rfl), fun wq hq => (by kernel_rfl)⟩) ?_
                  refine r_take 31 (.bool (!decide (r2252 = ((lget l i1683).I)))) (RB.pre _ _) rfl (by kernel_rfl) (fun _ _ _ h => hQ.panic _ _ _ _ _ h) (.inl ⟨(by kernel_rfl), fun wq hq => (by kernel_rfl)⟩) ?_
                  refine r_take 32 (.bool (!decide (r2252 = ((lget l i1683).I)))) (RB.pre _ _) rfl (by kernel_rfl) (fun _ _ _ h => hQ.panic _ _ _ _ _ h) (.inl ⟨rfl, fun wq hq => (by kernel_rfl)⟩) ?_
                  refine r_done (by kernel_rfl) ?_
                  have E2262 := (Evo.thenW E2138 (Step.evo s2255) m2142.wr)
                  have hXo2263 := (Old.step hXo2139 s2255)
                  have hS2264 := (Sub.trans hS2140 (Step.up s2255))
                  have hl2265 := (Sl.step hl2141 s2255)
                  refine then_normal (hJ2125 _ _ _ ⟨[(111, (.bool (!decide (r2252 = ((lget l i1683).I)))))], fit_mk (fun _ _ => rfl) (by kernel_rfl) (vs_cons (by kernel_rfl) vs_nil), ?_⟩)
                  exact ⟨X2254, (!decide (r2252 = ((lget l i1683).I))), d2251, F2256, rfl, E2262, hXo2263, hS2264, hl2265, m2261, hp⟩
            ·
              rintro _ w2122 g2266 ⟨X2123, s2116, o2117, F2118, rfl, E2127, hXo2128, hS2129, hl2130, m2119, hv2126⟩
              replace hp := hk2121 s2116 o2117 hv2126
              refine then_normal (K1996 _ _ _ _ ?_)
              refine cond_b s2116 (by kernel_rfl) (fun h2267 => ?_) (fun h2267 => ?_)
              ·
                replace hp := hp.1 h2267
                refine seq_ (fun _ K2268 => ?_)
                refine reg_ ?_
                refine sq (o_pv (.bool false) rfl (by kernel_rfl) ?_)
                refine nil_ ?_
                refine then_normal (K2268 _ _ _ _ ?_)
                refine wp_ret ?_
                refine blk_ret ?_
                refine then_ret ?_
                refine then_ret ?_
                refine blk_ret ?_
                refine then_ret ?_
                refine end_ret hQ (.bool false) (by kernel_rfl) ?_
                exact ⟨false, hp, E2127, rfl⟩
              ·
                replace hp := hp.2 h2267
                refine wp_skip ?_
                refine blk_normal ?_
                refine then_normal (K1995 _ _ _ _ ?_)
                refine reg_ ?_
                refine sq (o_pv (.int .i64 i1683) rfl (by kernel_rfl) ?_)
                obtain ⟨h2269, hp⟩ := hp
                refine sq (o_pv (.int .i64 (i1683 + (1 : Int))) rfl (x_add2 (k := .i64) (a := i1683) (b := (1 : Int)) (i1683 + (1 : Int)) (by kernel_rfl) (by kernel_rfl) (wrap_inR h2269)) ?_)
                refine sq (o_pv (.int .i64 (i1683 + (1 : Int))) rfl (by kernel_rfl) ?_)
                refine nil_ ?_
                refine then_normal (hA1980 _ _ _ ⟨_, [(7, (.int .i64 (i1683 + (1 : Int))))], hp.2, fit_mk (AgB.nest (AgB.look (AgB.mix _ _ _) (by kernel_rfl)) (by kernel_rfl) (by kernel_rfl)) (by kernel_rfl) (vs_cons (by kernel_rfl) vs_nil), ?_⟩)
                exact ⟨X2123, (i1683 + (1 : Int)), o2117, F2118, rfl, rfl, E2127, hXo2128, hS2129, hl2130, m2119, h2269, hp.1⟩
          ·
            replace hp := hp.2 h1994
            refine wp_exit ?_
            refine then_exit ?_
            refine then_exit ?_
            refine blk_exit ?_
            refine then_normal (K1396 _ _ _ _ ?_)
            refine seq_ (fun _ K2270 => ?_)
            obtain ⟨k2296, hk2297, hp⟩ := hp
            refine ground_ ?_
            refine join_ 1324035698926381045275276563951124484 (fun lq w2298 => ∃ (X2299 : List Nat) (s2295 : Bool), (lq = [(2, (.bool s2295))]) ∧ (Evo [] w w2298) ∧ (Old X2299 w2298) ∧ (Sub X X2299) ∧ (k2296 s2295)) (fun Kj2300 hJ2301 => ?_) ?_
            ·
              refine reg_ ?_
              refine sq (o_pv (.pointer (some ⟨br1391, 0, none⟩)) rfl (by kernel_rfl) ?_)
              refine sq (o_call 16 #[(.pointer (some ⟨br1391, 0, none⟩))] rfl (x_call Try.call16 (by kernel_rfl)) (codec_Dec_Left_w (X := X1976) (d := o1685) hXo1989 (MO.re m1687 (Wr.self _ _ (Sub.refl _))) hp) ?_)
              rintro _ w2308 ⟨d2306, r2307, hp, X2309, F2311, s2310, rfl, m2312, rr2313⟩
              have m2314 := MO.re m2312 (Wr.trans m2312.wr m1687.wr E1988.size)
              replace hp := hp rr2313
              by_cases h2315 : r2307 = (0 : Int)
              ·
                replace hp := hp.1 h2315
                refine sq (o_pv (.bool true) rfl (x_dt (p := r2307 = (0 : Int)) (by kernel_rfl) h2315) ?_)
                refine sq (o_pv (.bool true) rfl (by kernel_rfl) ?_)
                refine sq (o_pv (.pointer (some ⟨br1391, 0, none⟩)) (by kernel_rfl) (by kernel_rfl) ?_)
                have E2316 := (Evo.thenW E1988 (Step.evo s2310) m1687.wr)
                have hXo2317 := (Old.step hXo1989 s2310)
                have hS2318 := (Sub.trans hS1990 (Step.up s2310))
                have hl2319 := (Sl.step hl1991 s2310)
                refine sq (o_call 17 #[(.pointer (some ⟨br1391, 0, none⟩))] (by kernel_rfl) (x_call Try.call17 (by kernel_rfl)) (codec_Dec_Err_w (X := X2309) (d := d2306) hXo2317 (MO.re m2314 (Wr.self _ _ (Sub.refl _))) hp) ?_)
                rintro _ w2322 ⟨d2320, r2321, hp, X2323, F2325, vr2327, s2324, rfl, m2326, hr2328⟩
                have m2329 := MO.re m2326 (Wr.trans m2326.wr m2314.wr E2316.size)
                refine sq (o_pv (.bool r2321.isNil) (by kernel_rfl) (x_err_eq r2321 hr2328 Try.underlying40 (by kernel_rfl)) ?_)
                refine sq (o_pv (.bool r2321.isNil) rfl (by kernel_rfl) ?_)
                refine sq (o_pv (.bool r2321.isNil) rfl (by kernel_rfl) ?_)
                refine nil_ ?_
                have E2330 := (Evo.thenW E2316 (Step.evo s2324) m2314.wr)
                have hXo2331 := (Old.step hXo2317 s2324)
                have hS2332 := (Sub.trans hS2318 (Step.up s2324))
                refine then_normal (hJ2301 _ _ _ ⟨[(2, (.bool r2321.isNil))], fit_mk (fun _ _ => rfl) (by kernel_rfl) (vs_cons (by kernel_rfl) vs_nil), ?_⟩)
                exact ⟨X2323, r2321.isNil, rfl, E2330, hXo2331, hS2332, hp⟩
              ·
                replace hp := hp.2 h2315
                refine sq (o_pv (.bool false) rfl (x_df (p := r2307 = (0 : Int)) (by kernel_rfl) h2315) ?_)
                refine sq (o_pv (.bool false) rfl (by kernel_rfl) ?_)
                refine sq (o_not (by kernel_rfl) ?_)
                refine sq (o_not (by kernel_rfl) ?_)
                refine sq (o_not (by kernel_rfl) ?_)
                refine sq (o_pv (.bool false) rfl (by kernel_rfl) ?_)
                refine sq (o_pv (.bool false) rfl (by kernel_rfl) ?_)
                refine nil_ ?_
                have E2333 := (Evo.thenW E1988 (Step.evo s2310) m1687.wr)
                have hXo2334 := (Old.step hXo1989 s2310)
                have hS2335 := (Sub.trans hS1990 (Step.up s2310))
                refine then_normal (hJ2301 _ _ _ ⟨[(2, (.bool false))], fit_mk (fun _ _ => rfl) (by kernel_rfl) (vs_cons (by kernel_rfl) vs_nil), ?_⟩)
                exact ⟨X2309, false, rfl, E2333, hXo2334, hS2335, hp⟩
            ·
              rintro _ w2298 g2336 ⟨X2299, s2295, rfl, E2303, hXo2304, hS2305, hv2302⟩
              replace hp := hk2297 s2295 hv2302
              refine then_normal (K2270 _ _ _ _ ?_)
              refine wp_ret ?_
              refine end_ret hQ (.bool s2295) (by kernel_rfl) ?_
              exact ⟨s2295, hp, E2303, rfl⟩

end Go.Proofs.Ytmeeabnhnbjikaa
