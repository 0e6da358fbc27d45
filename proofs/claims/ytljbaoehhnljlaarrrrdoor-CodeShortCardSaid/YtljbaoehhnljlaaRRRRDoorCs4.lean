/- Walks of functions: what each asks and computes, as a plain predicate, and the contract from it. -/
import Derived.Test.YtljbaoehhnljlaaRRRRDoorChecked
import Derived.Test.YtljbaoehhnljlaaRRRRDoorCs3
namespace Go.Proofs.YtljbaoehhnljlaaRRRRDoor
open Go


def rectolaw3_CodeShort_p (a : Int) (v_ : Int) (cut : Int) (Q : Bool → Prop) : Prop :=
  ((inR .i64 a) → ((inR .i64 v_) → ((inR .i64 cut) → (rectolaw3_known_p  (fun (r7 : Bool) => ((((!r7) = true) → Q false) ∧ (((!r7) = false) → (((cut < (0 : Int)) → Q true) ∧ ((¬ (cut < (0 : Int))) → (codec_Enc_Int_p (S_codec_Enc.mk ([] : List Int)) ([a]) (fun (e55 : S_codec_Enc) => (rectoref3_Int_p a (fun (r64 : (List Int)) => ((r64.length ≤ 9223372036854775807) → (rectoref3_Int_p v_ (fun (r78 : (List Int)) => ((r78.length ≤ 9223372036854775807) → (codec_Enc_Int_p e55 ([v_]) (fun (e126 : S_codec_Enc) => (codec_Enc_Bytes_p e126 (fun (e144 : S_codec_Enc) (r145 : (List Int)) => ((r145.length ≤ 9223372036854775807) → ((inR .i64 ((r64.length : Int) + (r78.length : Int))) ∧ (((¬ ((r145.length : Int) = ((r64.length : Int) + (r78.length : Int)))) → Q false) ∧ (((r145.length : Int) = ((r64.length : Int) + (r78.length : Int))) → ((0 < (r78.length : Int)) ∧ ((0 ≤ cut) ∧ ((inR .i64 ((r64.length : Int) + (cut % (r78.length : Int)))) ∧ (((0 : Int) ≤ ((r64.length : Int) + (cut % (r78.length : Int))) ∧ ((r64.length : Int) + (cut % (r78.length : Int))) ≤ (r145.length : Int)) ∧ (codec_Of_p (r145.take ((r64.length : Int) + (cut % (r78.length : Int))).toNat) (fun (r179 : S_codec_Dec) => (codec_Dec_Int_p r179 (fun (d202 : S_codec_Dec) (r203 : Int) => ((inR .i64 r203) → (codec_Dec_Int_p d202 (fun (d226 : S_codec_Dec) (r227 : Int) => ((inR .i64 r227) → (∃ k307 : Bool → Prop, (∀ (s306 : Bool), k307 s306 → Q s306) ∧ (((r203 = a) → (((r227 = (0 : Int)) → (codec_Dec_Err_p d226 (fun (d331 : S_codec_Dec) (r332 : PErr) => (rectoref3_At_p (ByteArray.mk #[98, 121, 116, 101]) (r64.length : Int) (3 : Int) (fun (r345 : S_rectoref3_Wrong) => ((r345.Parts.length ≤ 9223372036854775807) → ((inR .i64 r345.Err) → (rectolaw2_Tells_p r332 r345 (fun (r355 : Bool) => (((r355 = true) → (codec_Dec_Left_p d331 (fun (d377 : S_codec_Dec) (r378 : Int) => ((inR .i64 r378) → (k307 (decide (r378 = (0 : Int)))))))) ∧ ((r355 = false) → (k307 false)))))))))))) ∧ ((¬ (r227 = (0 : Int))) → (k307 false)))) ∧ ((¬ (r203 = a)) → (k307 false)))))))))))))))))))))))))))))))))))))))))
set_option maxRecDepth 20000 in
set_option maxHeartbeats 4000000 in
theorem rectolaw3_CodeShort_w {X : List Nat} {w : World} {a : Int} {v_ : Int} {cut : Int} {Q : Bool → Prop} (hX0 : Old X w) (ra1 : inR .i64 a) (rv_2 : inR .i64 v_) (rcut3 : inR .i64 cut) (gv0 : GV X w 0 [(.iface 132 (.agg #[typeHandle Tryd.prog 39]))]) (hp : rectolaw3_CodeShort_p a v_ cut Q) :
    Calls Tryd.prog 7 #[(.int .i64 a), (.int .i64 v_), (.int .i64 cut)] w (Ret fun v w' => ∃ (r0 : Bool), Q r0 ∧ Evo [] w w' ∧ v = (.bool r0)) := by
  have hXo := hX0
  have E0 : Evo [] w w := RB.refl _ _ _
  have hS : Sub X X := Sub.refl _
  unfold rectolaw3_CodeShort_p at hp
  refine enter_ Tryd.func7 rfl 73 [(0, (.int .i64 a)), (1, (.int .i64 v_)), (2, (.int .i64 cut))] (by kernel_rfl) (fun Qe hQ => ?_)
  replace hp := hp ra1
  replace hp := hp rv_2
  replace hp := hp rcut3
  refine seq_ (fun _ K4 => ?_)
  refine reg_ ?_
  refine sq (o_pv (.bool false) rfl (by kernel_rfl) ?_)
  refine nil_ ?_
  refine then_normal (K4 _ _ _ _ ?_)
  refine seq_ (fun _ K5 => ?_)
  refine seq_ (fun _ K6 => ?_)
  refine reg_ ?_
  refine sq (o_call 21 #[] rfl (x_call Tryd.call21 (by kernel_rfl)) (rectolaw3_known_w (X := [])  (Old.nil _) hp) ?_)
  rintro _ w8 ⟨r7, hp, e9, rfl⟩
  have s10 := Step.of0 X e9
  refine sq (o_pv (.bool (!r7)) rfl (by kernel_rfl) ?_)
  refine nil_ ?_
  refine then_normal (K6 _ _ _ _ ?_)
  refine cond_b (!r7) (by kernel_rfl) (fun h11 => ?_) (fun h11 => ?_)
  ·
    replace hp := hp.1 h11
    refine seq_ (fun _ K12 => ?_)
    refine reg_ ?_
    refine sq (o_pv (.bool false) rfl (by kernel_rfl) ?_)
    refine nil_ ?_
    refine then_normal (K12 _ _ _ _ ?_)
    refine wp_ret ?_
    refine then_ret ?_
    have E13 := (Evo.then0 E0 e9)
    refine end_ret hQ (.bool false) (by kernel_rfl) ?_
    exact ⟨false, hp, E13, rfl⟩
  ·
    replace hp := hp.2 h11
    refine wp_skip ?_
    refine then_normal (K5 _ _ _ _ ?_)
    refine seq_ (fun _ K14 => ?_)
    refine seq_ (fun _ K15 => ?_)
    refine reg_ ?_
    refine sq (o_pv (.int .i64 cut) rfl (by kernel_rfl) ?_)
    refine sq (o_pv (.bool (decide (cut < (0 : Int)))) rfl (by kernel_rfl) ?_)
    refine nil_ ?_
    refine then_normal (K15 _ _ _ _ ?_)
    refine cond_d (cut < (0 : Int)) (by kernel_rfl) (fun h16 => ?_) (fun h16 => ?_)
    ·
      replace hp := hp.1 h16
      refine seq_ (fun _ K17 => ?_)
      refine reg_ ?_
      refine sq (o_pv (.bool true) rfl (by kernel_rfl) ?_)
      refine nil_ ?_
      refine then_normal (K17 _ _ _ _ ?_)
      refine wp_ret ?_
      refine then_ret ?_
      have E18 := (Evo.then0 E0 e9)
      refine end_ret hQ (.bool true) (by kernel_rfl) ?_
      exact ⟨true, hp, E18, rfl⟩
    ·
      replace hp := hp.2 h16
      refine wp_skip ?_
      refine then_normal (K14 _ _ _ _ ?_)
      refine seq_ (fun _ K19 => ?_)
      refine reg_ ?_
      refine sq (o_pv (.agg #[(.slice none 0 0)]) rfl (by kernel_rfl) ?_)
      have E26 := (Evo.then0 E0 e9)
      refine sq (o_newX [(.slice none 0 0)] 68 (X := X) (B := w.heap.size) E26.size rfl (by kernel_rfl) ?_)
      intro b20 w21 X22 s23 k24 n25
      refine sq (o_pv (.pointer (some ⟨b20, 0, none⟩)) rfl (by kernel_rfl) ?_)
      refine nil_ ?_
      refine then_normal (K19 _ _ _ _ ?_)
      refine seq_ (fun _ K27 => ?_)
      refine reg_ ?_
      refine sq (o_pv (.pointer (some ⟨b20, 0, none⟩)) rfl (by kernel_rfl) ?_)
      refine sq (o_pv (.int .i64 a) rfl (by kernel_rfl) ?_)
      have E34 := (Evo.then0 E26 (Step.evo s23))
      refine sq (o_rowX (R := (rInt .i64)) [(.int .i64 a)] [a] 3 1 (X := X22) (B := w.heap.size) E34.size rfl (by kernel_rfl) (Flat.cons (cs := [(.int .i64 a)]) (rInt_mk ra1) Flat.nil) rfl (by decide) ?_)
      intro b28 w29 X30 s31 O32 n33
      have p35 := n33 _ (OB.old k24)
      have gv36 := (GV.step (GV.step (GV.step gv0 s10) s23) s31)
      have hXo37 := (Old.step (Old.step (Old.step hXo s10) s23) s31)
      have E38 := (Evo.then0 E34 (Step.evo s31))
      have hS39 := (Sub.trans (Sub.trans (Sub.trans hS (Step.up s10)) (Step.up s23)) (Step.up s31))
      have k40 := (OB.step0 k24 s31)
      obtain ⟨F41, m42, hs43⟩ := MO.pack (o_codec_Enc_mk k40 (OS.nil2 _ _ _ _ _) (Ap.nil_r _))
      have p44 := hs43 _ (Ap.cons (Ap.symm p35) (Ap.nil_r _))
      have ax49 := OS.apold O32 hX0
      obtain ⟨X45, u46, r47, hm48⟩ := OS.release O32
      have gv50 := (GV.less gv36 u46)
      have hXo51 := (Old.less hXo37 u46)
      have E52 := E38
      have hS53 := (hm48 _ ax49 hS39)
      have m54 := (MO.less m42 u46 (hm48 _ (Ap.symm p44) (MO.mem m42)))
      refine sq (o_call 30 #[(.pointer (some ⟨b20, 0, none⟩)), (.slice (some ⟨b28, 0, none⟩) ([a]).length 1)] rfl (x_call Tryd.call30 (by rw [← show 1 = ([a]).length from O32.1]; kernel_rfl)) (codec_Enc_Int_w (X := X45) (e := (S_codec_Enc.mk ([] : List Int))) (l := [a]) hXo51 (MO.re m54 (Wr.self _ _ (Sub.refl _))) r47 hp) ?_)
      rintro _ w56 ⟨e55, hp, X57, F59, s58, rfl, m60⟩
      have m61 := MO.re m60 (Wr.trans m60.wr m54.wr E52.size)
      refine nil_ ?_
      refine then_normal (K27 _ _ _ _ ?_)
      refine seq_ (fun _ K62 => ?_)
      refine reg_ ?_
      refine sq (o_pv (.int .i64 a) rfl (by kernel_rfl) ?_)
      have hXo63 := (Old.step hXo51 s58)
      refine sq (o_call 31 #[(.int .i64 a)] rfl (x_call Tryd.call31 (by kernel_rfl)) (rectoref3_Int_w (X := X57) (v_ := a) hXo63 ra1 hp) ?_)
      rintro _ w65 ⟨r64, hp, e66, a68, c69, rfl, O70⟩
      have E74 := (Evo.thenW E52 (Step.evo s58) m54.wr)
      obtain ⟨X71, s67, O72, n73⟩ := OS.own_in O70 e66 E74.size
      have p75 := n73 _ (MO.old m61)
      replace hp := hp (OS.len O72)
      refine sq (o_pv (.int .i64 (r64.length : Int)) rfl (by kernel_rfl) ?_)
      refine sq (o_pv (.int .i64 (r64.length : Int)) rfl (by kernel_rfl) ?_)
      refine nil_ ?_
      refine then_normal (K62 _ _ _ _ ?_)
      refine seq_ (fun _ K76 => ?_)
      refine reg_ ?_
      refine sq (o_pv (.int .i64 v_) rfl (by kernel_rfl) ?_)
      have hXo77 := (Old.step hXo63 s67)
      have m85 := (MO.step0 m61 s67)
      refine sq (o_call 31 #[(.int .i64 v_)] rfl (x_call Tryd.call31 (by kernel_rfl)) (rectoref3_Int_w (X := X71) (v_ := v_) hXo77 rv_2 hp) ?_)
      rintro _ w79 ⟨r78, hp, e80, a82, c83, rfl, O84⟩
      have E89 := (Evo.then0 E74 (Step.evo s67))
      obtain ⟨X86, s81, O87, n88⟩ := OS.own_in O84 e80 E89.size
      have p90 := n88 _ (MO.old m85)
      have p91 := n88 _ (OS.old O72)
      replace hp := hp (OS.len O87)
      refine sq (o_pv (.int .i64 (r78.length : Int)) rfl (by kernel_rfl) ?_)
      refine sq (o_pv (.int .i64 (r78.length : Int)) rfl (by kernel_rfl) ?_)
      refine nil_ ?_
      refine then_normal (K76 _ _ _ _ ?_)
      refine seq_ (fun _ K92 => ?_)
      refine reg_ ?_
      refine sq (o_pv (.pointer (some ⟨b20, 0, none⟩)) rfl (by kernel_rfl) ?_)
      refine sq (o_pv (.int .i64 v_) rfl (by kernel_rfl) ?_)
      have m93 := (MO.step0 m85 s81)
      have O94 := (OS.step0 O72 s81)
      have E101 := (Evo.then0 E89 (Step.evo s81))
      refine sq (o_rowX (R := (rInt .i64)) [(.int .i64 v_)] [v_] 3 1 (X := X86) (B := w.heap.size) E101.size rfl (by kernel_rfl) (Flat.cons (cs := [(.int .i64 v_)]) (rInt_mk rv_2) Flat.nil) rfl (by decide) ?_)
      intro b95 w96 X97 s98 O99 n100
      have p102 := n100 _ (MO.old m93)
      have p103 := n100 _ (OS.old O94)
      have p104 := n100 _ (OS.old O87)
      have hS105 := (Sub.trans (Sub.trans (Sub.trans (Sub.trans hS53 (Step.up s58)) (Step.up s67)) (Step.up s81)) (Step.up s98))
      have gv111 := (GV.step (GV.step (GV.step (GV.step gv50 s58) s67) s81) s98)
      have hXo112 := (Old.step (Old.step hXo77 s81) s98)
      have E113 := (Evo.then0 E101 (Step.evo s98))
      have r114 := (Sl.step (Sl.step (Sl.step (Sl.step r47 s58) s67) s81) s98)
      have m115 := (MO.step0 m93 s98)
      have O116 := (OS.step0 O94 s98)
      have O117 := (OS.step0 O87 s98)
      have ax110 := OS.apold O99 hX0
      obtain ⟨X106, u107, r108, hm109⟩ := OS.release O99
      have gv118 := (GV.less gv111 u107)
      have hXo119 := (Old.less hXo112 u107)
      have E120 := E113
      have hS121 := (hm109 _ ax110 hS105)
      have r122 := (Sl.less r114 u107)
      have m123 := (MO.less m115 u107 (hm109 _ p102 (MO.mem m115)))
      have O124 := (OS.less O116 u107 (hm109 _ p103 (OS.mem O116)))
      have O125 := (OS.less O117 u107 (hm109 _ p104 (OS.mem O117)))
      refine sq (o_call 30 #[(.pointer (some ⟨b20, 0, none⟩)), (.slice (some ⟨b95, 0, none⟩) ([v_]).length 1)] rfl (x_call Tryd.call30 (by rw [← show 1 = ([v_]).length from O99.1]; kernel_rfl)) (codec_Enc_Int_w (X := X106) (e := e55) (l := [v_]) hXo119 (MO.re m123 (Wr.self _ _ (Sub.refl _))) r108 hp) ?_)
      rintro _ w127 ⟨e126, hp, X128, F130, s129, rfl, m131⟩
      have m132 := MO.re m131 (Wr.trans m131.wr m123.wr E120.size)
      have p133 := Ap.grow m131.wr (Ap.symm p75) (OS.old O124) (Nat.le_refl _)
      have p134 := Ap.grow m131.wr (Ap.symm p90) (OS.old O125) (Nat.le_refl _)
      refine nil_ ?_
      refine then_normal (K92 _ _ _ _ ?_)
      refine seq_ (fun _ K135 => ?_)
      refine reg_ ?_
      refine sq (o_pv (.pointer (some ⟨b20, 0, none⟩)) rfl (by kernel_rfl) ?_)
      have gv136 := (GV.step gv118 s129)
      have hXo137 := (Old.step hXo119 s129)
      have E138 := (Evo.thenW E120 (Step.evo s129) m123.wr)
      have hS139 := (Sub.trans hS121 (Step.up s129))
      have r140 := (Sl.step r122 s129)
      have O141 := (OS.step O124 s129 (Ap.symm p75))
      have O142 := (OS.step O125 s129 (Ap.symm p90))
      have r143 := (Sl.step r108 s129)
      refine sq (o_call 32 #[(.pointer (some ⟨b20, 0, none⟩))] rfl (x_call Tryd.call32 (by kernel_rfl)) (codec_Enc_Bytes_w (X := X128) (e := e126) hXo137 (MO.re m132 (Wr.self _ _ (Sub.refl _))) hp) ?_)
      rintro _ w146 ⟨e144, r145, hp, X147, F149, ar151, cr152, s148, rfl, m150, hr153⟩
      have m154 := MO.re m150 (Wr.trans m150.wr m132.wr E138.size)
      have p155 := Ap.grow m150.wr p133 (OS.old O141) (Nat.le_refl _)
      have p156 := Ap.grow m150.wr p134 (OS.old O142) (Nat.le_refl _)
      replace hp := hp (Sl.len hr153)
      refine sq (o_pv (.slice ar151 r145.length cr152) rfl (by kernel_rfl) ?_)
      refine nil_ ?_
      refine then_normal (K135 _ _ _ _ ?_)
      refine seq_ (fun _ K157 => ?_)
      refine seq_ (fun _ K158 => ?_)
      refine reg_ ?_
      refine sq (o_pv (.slice ar151 r145.length cr152) rfl (by kernel_rfl) ?_)
      refine sq (o_pv (.int .i64 (r145.length : Int)) rfl (by kernel_rfl) ?_)
      refine sq (o_pv (.int .i64 (r64.length : Int)) rfl (by kernel_rfl) ?_)
      refine sq (o_pv (.int .i64 (r78.length : Int)) rfl (by kernel_rfl) ?_)
      obtain ⟨h159, hp⟩ := hp
      refine sq (o_pv (.int .i64 ((r64.length : Int) + (r78.length : Int))) rfl (x_add2 (k := .i64) (a := (r64.length : Int)) (b := (r78.length : Int)) ((r64.length : Int) + (r78.length : Int)) (by kernel_rfl) (by kernel_rfl) (wrap_inR h159)) ?_)
      refine sq (o_pv (.bool (!decide ((r145.length : Int) = ((r64.length : Int) + (r78.length : Int))))) rfl (by kernel_rfl) ?_)
      refine nil_ ?_
      refine then_normal (K158 _ _ _ _ ?_)
      refine cond_nd ((r145.length : Int) = ((r64.length : Int) + (r78.length : Int))) (by kernel_rfl) (fun h160 => ?_) (fun h160 => ?_)
      ·
        replace hp := hp.1 h160
        refine seq_ (fun _ K161 => ?_)
        refine reg_ ?_
        refine sq (o_pv (.bool false) rfl (by kernel_rfl) ?_)
        refine nil_ ?_
        refine then_normal (K161 _ _ _ _ ?_)
        refine wp_ret ?_
        refine then_ret ?_
        have E162 := (Evo.thenW E138 (Step.evo s148) m132.wr)
        refine end_ret hQ (.bool false) (by kernel_rfl) ?_
        exact ⟨false, hp, E162, rfl⟩
      ·
        replace hp := hp.2 h160
        refine wp_skip ?_
        refine then_normal (K157 _ _ _ _ ?_)
        refine seq_ (fun _ K163 => ?_)
        refine reg_ ?_
        refine sq (o_pv (.slice ar151 r145.length cr152) rfl (by kernel_rfl) ?_)
        refine sq (o_pv (.int .i64 (r64.length : Int)) rfl (by kernel_rfl) ?_)
        refine sq (o_pv (.int .i64 cut) rfl (by kernel_rfl) ?_)
        refine sq (o_pv (.int .i64 (r78.length : Int)) rfl (by kernel_rfl) ?_)
        obtain ⟨h164, hp⟩ := hp
        obtain ⟨h165, hp⟩ := hp
        refine sq (o_pv (.int .i64 (cut % (r78.length : Int))) rfl (x_rem2 (k := .i64) (a := cut) (b := (r78.length : Int)) (cut % (r78.length : Int)) (by kernel_rfl) (by kernel_rfl) h165 h164 rfl (wrap_inR (inR_rem h165 h164 rcut3 (inR_len (OS.len O87))))) ?_)
        obtain ⟨h166, hp⟩ := hp
        refine sq (o_pv (.int .i64 ((r64.length : Int) + (cut % (r78.length : Int)))) rfl (x_add2 (k := .i64) (a := (r64.length : Int)) (b := cut % (r78.length : Int)) ((r64.length : Int) + (cut % (r78.length : Int))) (by kernel_rfl) (by kernel_rfl) (wrap_inR h166)) ?_)
        obtain ⟨h170, hp⟩ := hp
        refine sq (o_slice (R := (rInt .u8)) (X := X147) (L := r145) 0 (((r64.length : Int) + (cut % (r78.length : Int))).toNat) (r145.take ((r64.length : Int) + (cut % (r78.length : Int))).toNat) rfl Tryd.underlying37 Tryd.sizeOf5 hr153 (by kernel_rfl) rfl (.inl ⟨rfl, rfl⟩) (.inr ⟨.i64, by rw [show ((((r64.length : Int) + (cut % (r78.length : Int))).toNat : Nat) : Int) = (r64.length : Int) + (cut % (r78.length : Int)) from by omega]; kernel_rfl⟩) (by omega) (by omega) (by rw [List.drop_zero]) ?_)
        intro a167 c168 h169
        have gv171 := (GV.step gv136 s148)
        have hXo172 := (Old.step hXo137 s148)
        have E173 := (Evo.thenW E138 (Step.evo s148) m132.wr)
        have hS174 := (Sub.trans hS139 (Step.up s148))
        have r175 := (Sl.step r140 s148)
        have O176 := (OS.step O141 s148 p133)
        have O177 := (OS.step O142 s148 p134)
        have r178 := (Sl.step r143 s148)
        refine sq (o_call 22 #[(.slice a167 (r145.take ((r64.length : Int) + (cut % (r78.length : Int))).toNat).length c168)] rfl (x_call Tryd.call22 (by rw []; kernel_rfl)) (codec_Of_w (X := X147) (b := r145.take ((r64.length : Int) + (cut % (r78.length : Int))).toNat) hXo172 h169 hp) ?_)
        rintro _ w180 ⟨r179, hp, X181, br183, Fr184, s182, rfl, mr185⟩
        have m186 := MO.re mr185 (Wr.trans mr185.wr (Wr.nil [] _) E173.size)
        have p187 := Ap.grow mr185.wr (Ap.nil_r _) (OS.old O176) (Nat.le_refl _)
        have p188 := Ap.grow mr185.wr (Ap.nil_r _) (OS.old O177) (Nat.le_refl _)
        have p189 := Ap.grow mr185.wr (Ap.nil_r _) (MO.old m154) (Nat.le_refl _)
        refine sq (o_pv (.pointer (some ⟨br183, 0, none⟩)) rfl (by kernel_rfl) ?_)
        refine nil_ ?_
        refine then_normal (K163 _ _ _ _ ?_)
        refine seq_ (fun _ K190 => ?_)
        refine reg_ ?_
        refine sq (o_pv (.pointer (some ⟨br183, 0, none⟩)) rfl (by kernel_rfl) ?_)
        have gv191 := (GV.step gv171 s182)
        have hXo192 := (Old.step hXo172 s182)
        have E193 := (Evo.then0 E173 (Step.evo s182))
        have hS194 := (Sub.trans hS174 (Step.up s182))
        have r195 := (Sl.step r175 s182)
        have O196 := (OS.step0 O176 s182)
        have O197 := (OS.step0 O177 s182)
        have r198 := (Sl.step r178 s182)
        have m199 := (MO.step0 m154 s182)
        have hr200 := (Sl.step hr153 s182)
        have h201 := (Sl.step h169 s182)
        refine sq (o_call 23 #[(.pointer (some ⟨br183, 0, none⟩))] rfl (x_call Tryd.call23 (by kernel_rfl)) (codec_Dec_Int_w (X := X181) (d := r179) hXo192 (MO.re m186 (Wr.self _ _ (Sub.refl _))) hp) ?_)
        rintro _ w204 ⟨d202, r203, hp, X205, F207, s206, rfl, m208, rr209⟩
        have m210 := MO.re m208 (Wr.trans m208.wr m186.wr E193.size)
        have p211 := Ap.grow m208.wr p187 (OS.old O196) (Nat.le_refl _)
        have p212 := Ap.grow m208.wr p188 (OS.old O197) (Nat.le_refl _)
        have p213 := Ap.grow m208.wr p189 (MO.old m199) (Nat.le_refl _)
        replace hp := hp rr209
        refine sq (o_pv (.int .i64 r203) rfl (by kernel_rfl) ?_)
        refine nil_ ?_
        refine then_normal (K190 _ _ _ _ ?_)
        refine seq_ (fun _ K214 => ?_)
        refine reg_ ?_
        refine sq (o_pv (.pointer (some ⟨br183, 0, none⟩)) rfl (by kernel_rfl) ?_)
        have gv215 := (GV.step gv191 s206)
        have hXo216 := (Old.step hXo192 s206)
        have E217 := (Evo.thenW E193 (Step.evo s206) m186.wr)
        have hS218 := (Sub.trans hS194 (Step.up s206))
        have r219 := (Sl.step r195 s206)
        have O220 := (OS.step O196 s206 p187)
        have O221 := (OS.step O197 s206 p188)
        have r222 := (Sl.step r198 s206)
        have m223 := (MO.step m199 s206 p189)
        have hr224 := (Sl.step hr200 s206)
        have h225 := (Sl.step h201 s206)
        refine sq (o_call 23 #[(.pointer (some ⟨br183, 0, none⟩))] rfl (x_call Tryd.call23 (by kernel_rfl)) (codec_Dec_Int_w (X := X205) (d := d202) hXo216 (MO.re m210 (Wr.self _ _ (Sub.refl _))) hp) ?_)
        rintro _ w228 ⟨d226, r227, hp, X229, F231, s230, rfl, m232, rr233⟩
        have m234 := MO.re m232 (Wr.trans m232.wr m210.wr E217.size)
        have p235 := Ap.grow m232.wr p211 (OS.old O220) (Nat.le_refl _)
        have p236 := Ap.grow m232.wr p212 (OS.old O221) (Nat.le_refl _)
        have p237 := Ap.grow m232.wr p213 (MO.old m223) (Nat.le_refl _)
        replace hp := hp rr233
        refine sq (o_pv (.int .i64 r227) rfl (by kernel_rfl) ?_)
        refine nil_ ?_
        refine then_normal (K214 _ _ _ _ ?_)
        refine seq_ (fun _ K238 => ?_)
        have gv314 := (GV.step gv215 s230)
        have hXo315 := (Old.step hXo216 s230)
        have E316 := (Evo.thenW E217 (Step.evo s230) m210.wr)
        have hS317 := (Sub.trans hS218 (Step.up s230))
        have r318 := (Sl.step r219 s230)
        have O319 := (OS.step O220 s230 p211)
        have O320 := (OS.step O221 s230 p212)
        have r321 := (Sl.step r222 s230)
        have m322 := (MO.step m223 s230 p213)
        have hr323 := (Sl.step hr224 s230)
        have h324 := (Sl.step h225 s230)
        obtain ⟨k307, hk308, hp⟩ := hp
        refine ground_ ?_
        refine join_ 9444714951340780945472 (fun lq w309 => ∃ (X310 : List Nat) (s306 : Bool), (lq = [(6, (.bool s306))]) ∧ (Evo [] w w309) ∧ (Old X310 w309) ∧ (Sub X X310) ∧ (GV X310 w309 0 [(.iface 132 (.agg #[typeHandle Tryd.prog 39]))]) ∧ (k307 s306)) (fun Kj311 hJ312 => ?_) ?_
        ·
          refine reg_ ?_
          refine sq (o_pv (.int .i64 r203) rfl (by kernel_rfl) ?_)
          refine sq (o_pv (.int .i64 a) rfl (by kernel_rfl) ?_)
          by_cases h329 : r203 = a
          ·
            replace hp := hp.1 h329
            refine sq (o_pv (.bool true) rfl (x_dt (p := r203 = a) (by kernel_rfl) h329) ?_)
            refine sq (o_pv (.bool true) rfl (by kernel_rfl) ?_)
            refine sq (o_pv (.int .i64 r227) (by kernel_rfl) (by kernel_rfl) ?_)
            by_cases h330 : r227 = (0 : Int)
            ·
              replace hp := hp.1 h330
              refine sq (o_pv (.bool true) (by kernel_rfl) (x_dt (p := r227 = (0 : Int)) (by kernel_rfl) h330) ?_)
              refine sq (o_pv (.bool true) rfl (by kernel_rfl) ?_)
              refine sq (o_pv (.bool true) rfl (by kernel_rfl) ?_)
              refine sq (o_pv (.pointer (some ⟨br183, 0, none⟩)) (by kernel_rfl) (by kernel_rfl) ?_)
              refine sq (o_call 29 #[(.pointer (some ⟨br183, 0, none⟩))] (by kernel_rfl) (x_call Tryd.call29 (by kernel_rfl)) (codec_Dec_Err_w (X := X229) (d := d226) hXo315 (MO.re m234 (Wr.self _ _ (Sub.refl _))) hp) ?_)
              rintro vr338 w333 ⟨d331, r332, hp, X334, F336, _, s335, rfl, m337, hr339⟩
              have m340 := MO.re m337 (Wr.trans m337.wr m234.wr E316.size)
              have p341 := Ap.grow m337.wr p235 (OS.old O319) (Nat.le_refl _)
              have p342 := Ap.grow m337.wr p236 (OS.old O320) (Nat.le_refl _)
              have p343 := Ap.grow m337.wr p237 (MO.old m322) (Nat.le_refl _)
              refine sq (o_pv (.int .i64 (r64.length : Int)) (by kernel_rfl) (by kernel_rfl) ?_)
              have hXo344 := (Old.step hXo315 s335)
              refine sq (o_call 20 #[(.string (ByteArray.mk #[98, 121, 116, 101])), (.int .i64 (r64.length : Int)), (.int .i64 (3 : Int))] (by kernel_rfl) (x_call Tryd.call20 (by kernel_rfl)) (rectoref3_At_w (X := X334) (word := (ByteArray.mk #[98, 121, 116, 101])) (at_ := (r64.length : Int)) (e := (3 : Int)) hXo344 (by decide) (inR_len (OS.len O72)) (by decide) hp) ?_)
              rintro _ w346 ⟨r345, hp, e347, arParts349, crParts350, rfl, hrParts351, rrErr352⟩
              have s348 := Step.of0 X334 e347
              replace hp := hp (Sl.len hrParts351)
              replace hp := hp rrErr352
              have hr353 := (Rep.step (rErr 25 82 84) hr339 s348)
              have gv354 := (GV.step (GV.step gv314 s335) s348)
              refine sq (o_call 19 #[vr338, (.agg #[(.slice arParts349 r345.Parts.length crParts350), (.int .i64 r345.Err)])] (by kernel_rfl) (x_call Tryd.call19 (by kernel_rfl)) (rectolaw2_Tells_w (X := []) (err := r332) (w_ := r345) (Old.nil _) (Rep.less (rErr 25 82 84) hr353 (Sub.nil _)) (Sl.less hrParts351 (Sub.nil _)) rrErr352 (GV.less gv354 (Sub.nil _)) hp) ?_)
              rintro _ w356 ⟨r355, hp, e357, rfl⟩
              have s358 := Step.of0 X334 e357
              cases r355
              ·
                replace hp := hp.2 rfl
                refine sq (o_pv (.bool false) rfl (by kernel_rfl) ?_)
                refine sq (o_pv (.bool false) rfl (by kernel_rfl) ?_)
                refine sq (o_not (by kernel_rfl) ?_)
                refine sq (o_not (by kernel_rfl) ?_)
                refine sq (o_not (by kernel_rfl) ?_)
                refine sq (o_pv (.bool false) rfl (by kernel_rfl) ?_)
                refine sq (o_pv (.bool false) rfl (by kernel_rfl) ?_)
                refine nil_ ?_
                have E359 := (Evo.then0 (Evo.then0 (Evo.thenW E316 (Step.evo s335) m234.wr) e347) e357)
                have hXo360 := (Old.step (Old.step hXo344 s348) s358)
                have hS361 := (Sub.trans (Sub.trans (Sub.trans hS317 (Step.up s335)) (Step.up s348)) (Step.up s358))
                have gv362 := (GV.step gv354 s358)
                refine then_normal (hJ312 _ _ _ ⟨[(6, (.bool false))], fit_mk (fun _ _ => rfl) (by kernel_rfl) (vs_cons (by kernel_rfl) vs_nil), ?_⟩)
                exact ⟨X334, false, rfl, E359, hXo360, hS361, gv362, hp⟩
              ·
                replace hp := hp.1 rfl
                refine sq (o_pv (.bool true) rfl (by kernel_rfl) ?_)
                refine sq (o_pv (.bool true) rfl (by kernel_rfl) ?_)
                refine sq (o_pv (.pointer (some ⟨br183, 0, none⟩)) (by kernel_rfl) (by kernel_rfl) ?_)
                have gv363 := (GV.step gv354 s358)
                have hXo364 := (Old.step (Old.step hXo344 s348) s358)
                have E365 := (Evo.then0 (Evo.then0 (Evo.thenW E316 (Step.evo s335) m234.wr) e347) e357)
                have hS366 := (Sub.trans (Sub.trans (Sub.trans hS317 (Step.up s335)) (Step.up s348)) (Step.up s358))
                have r367 := (Sl.step (Sl.step (Sl.step r318 s335) s348) s358)
                have O368 := (OS.step0 (OS.step0 (OS.step O319 s335 p235) s348) s358)
                have O369 := (OS.step0 (OS.step0 (OS.step O320 s335 p236) s348) s358)
                have r370 := (Sl.step (Sl.step (Sl.step r321 s335) s348) s358)
                have m371 := (MO.step0 (MO.step0 (MO.step m322 s335 p237) s348) s358)
                have hr372 := (Sl.step (Sl.step (Sl.step hr323 s335) s348) s358)
                have h373 := (Sl.step (Sl.step (Sl.step h324 s335) s348) s358)
                have m374 := (MO.step0 (MO.step0 m340 s348) s358)
                have hr375 := (Rep.step (rErr 25 82 84) hr353 s358)
                have hrParts376 := (Sl.step hrParts351 s358)
                refine sq (o_call 27 #[(.pointer (some ⟨br183, 0, none⟩))] (by kernel_rfl) (x_call Tryd.call27 (by kernel_rfl)) (codec_Dec_Left_w (X := X334) (d := d331) hXo364 (MO.re m374 (Wr.self _ _ (Sub.refl _))) hp) ?_)
                rintro _ w379 ⟨d377, r378, hp, X380, F382, s381, rfl, m383, rr384⟩
                have m385 := MO.re m383 (Wr.trans m383.wr m374.wr E365.size)
                have p386 := Ap.grow m383.wr p341 (OS.old O368) (Nat.le_refl _)
                have p387 := Ap.grow m383.wr p342 (OS.old O369) (Nat.le_refl _)
                have p388 := Ap.grow m383.wr p343 (MO.old m371) (Nat.le_refl _)
                replace hp := hp rr384
                refine sq (o_pv (.bool (decide (r378 = (0 : Int)))) (by kernel_rfl) (by kernel_rfl) ?_)
                refine sq (o_pv (.bool (decide (r378 = (0 : Int)))) rfl (by kernel_rfl) ?_)
                refine sq (o_pv (.bool (decide (r378 = (0 : Int)))) rfl (by kernel_rfl) ?_)
                refine nil_ ?_
                have E389 := (Evo.thenW E365 (Step.evo s381) m374.wr)
                have hXo390 := (Old.step hXo364 s381)
                have hS391 := (Sub.trans hS366 (Step.up s381))
                have gv392 := (GV.step gv363 s381)
                refine then_normal (hJ312 _ _ _ ⟨[(6, (.bool (decide (r378 = (0 : Int)))))], fit_mk (fun _ _ => rfl) (by kernel_rfl) (vs_cons (by kernel_rfl) vs_nil), ?_⟩)
                exact ⟨X380, (decide (r378 = (0 : Int))), rfl, E389, hXo390, hS391, gv392, hp⟩
            ·
              replace hp := hp.2 h330
              refine sq (o_pv (.bool false) (by kernel_rfl) (x_df (p := r227 = (0 : Int)) (by kernel_rfl) h330) ?_)
              refine sq (o_pv (.bool false) rfl (by kernel_rfl) ?_)
              refine sq (o_pv (.bool false) rfl (by kernel_rfl) ?_)
              refine sq (o_not (by kernel_rfl) ?_)
              refine sq (o_not (by kernel_rfl) ?_)
              refine sq (o_not (by kernel_rfl) ?_)
              refine sq (o_not (by kernel_rfl) ?_)
              refine sq (o_not (by kernel_rfl) ?_)
              refine sq (o_pv (.bool false) rfl (by kernel_rfl) ?_)
              refine sq (o_pv (.bool false) rfl (by kernel_rfl) ?_)
              refine sq (o_not (by kernel_rfl) ?_)
              refine sq (o_not (by kernel_rfl) ?_)
              refine sq (o_not (by kernel_rfl) ?_)
              refine sq (o_pv (.bool false) rfl (by kernel_rfl) ?_)
              refine sq (o_pv (.bool false) rfl (by kernel_rfl) ?_)
              refine nil_ ?_
              refine then_normal (hJ312 _ _ _ ⟨[(6, (.bool false))], fit_mk (fun _ _ => rfl) (by kernel_rfl) (vs_cons (by kernel_rfl) vs_nil), ?_⟩)
              exact ⟨X229, false, rfl, E316, hXo315, hS317, gv314, hp⟩
          ·
            replace hp := hp.2 h329
            refine sq (o_pv (.bool false) rfl (x_df (p := r203 = a) (by kernel_rfl) h329) ?_)
            refine sq (o_pv (.bool false) rfl (by kernel_rfl) ?_)
            refine sq (o_not (by kernel_rfl) ?_)
            refine sq (o_not (by kernel_rfl) ?_)
            refine sq (o_pv (.bool false) rfl (by kernel_rfl) ?_)
            refine sq (o_pv (.bool false) rfl (by kernel_rfl) ?_)
            refine sq (o_not (by kernel_rfl) ?_)
            refine sq (o_not (by kernel_rfl) ?_)
            refine sq (o_not (by kernel_rfl) ?_)
            refine sq (o_not (by kernel_rfl) ?_)
            refine sq (o_not (by kernel_rfl) ?_)
            refine sq (o_pv (.bool false) rfl (by kernel_rfl) ?_)
            refine sq (o_pv (.bool false) rfl (by kernel_rfl) ?_)
            refine sq (o_not (by kernel_rfl) ?_)
            refine sq (o_not (by kernel_rfl) ?_)
            refine sq (o_not (by kernel_rfl) ?_)
            refine sq (o_pv (.bool false) rfl (by kernel_rfl) ?_)
            refine sq (o_pv (.bool false) rfl (by kernel_rfl) ?_)
            refine nil_ ?_
            refine then_normal (hJ312 _ _ _ ⟨[(6, (.bool false))], fit_mk (fun _ _ => rfl) (by kernel_rfl) (vs_cons (by kernel_rfl) vs_nil), ?_⟩)
            exact ⟨X229, false, rfl, E316, hXo315, hS317, gv314, hp⟩
        ·
          rintro _ w309 g393 ⟨X310, s306, rfl, E325, hXo326, hS327, gv328, hv313⟩
          replace hp := hk308 s306 hv313
          refine then_normal (K238 _ _ _ _ ?_)
          refine wp_ret ?_
          refine end_ret hQ (.bool s306) (by kernel_rfl) ?_
          exact ⟨s306, hp, E325, rfl⟩

end Go.Proofs.YtljbaoehhnljlaaRRRRDoor
