/- Walks of functions: what each asks and computes, as a plain predicate, and the contract from it. -/
import Derived.Test.YtjejeipdndddpaaChecked
import Derived.Test.YtjejeipdndddpaaSh1
namespace Go.Proofs.Ytjejeipdndddpaa
open Go


def sha_Sum_p (b : (List Int)) (Q : (List Int) → Prop) : Prop :=
  ((b.length ≤ 9223372036854775807) → (slices_Clone_byte_byte_p b (fun (r14 : (List Int)) => ((r14.length ≤ 9223372036854775807) → (((r14.length + ([(128 : Int)]).length) * 1 ≤ 140737488355328) ∧ (∃ (I115 : (List Int) → Prop) (m116 : (List Int) → Nat), (I115 (r14 ++ ([(128 : Int)]))) ∧ ∀ (x80 : (List Int)), (I115 x80) → (x80.length ≤ 9223372036854775807) → ((0 ≤ (x80.length : Int)) ∧ (((¬ (((x80.length : Int) % (64 : Int)) = (56 : Int))) → (((x80.length + ([(0 : Int)]).length) * 1 ≤ 140737488355328) ∧ ((I115 (x80 ++ ([(0 : Int)]))) ∧ m116 (x80 ++ ([(0 : Int)])) < m116 x80))) ∧ ((((x80.length : Int) % (64 : Int)) = (56 : Int)) → (∃ (I256 : (List Int) → Int → Prop) (m257 : (List Int) → Int → Nat), (I256 x80 (0 : Int)) ∧ ∀ (x210 : (List Int)) (s215 : Int), (I256 x210 s215) → (x210.length ≤ 9223372036854775807) → (inR .i64 s215) → (((s215 < (8 : Int)) → ((inR .i64 ((7 : Int) - s215)) ∧ ((inR .i64 ((8 : Int) * ((7 : Int) - s215))) ∧ ((0 ≤ ((8 : Int) * ((7 : Int) - s215))) ∧ (∀ y279 : Int, y279 = (ishr .u64 (((iwrap .u64 (b.length : Int)) * (8 : Int)) % 18446744073709551616) ((8 : Int) * ((7 : Int) - s215))) → (((x210.length + ([iwrap .u8 y279]).length) * 1 ≤ 140737488355328) ∧ ((inR .i64 (s215 + (1 : Int))) ∧ ((I256 (x210 ++ ([iwrap .u8 y279])) (s215 + (1 : Int))) ∧ m257 (x210 ++ ([iwrap .u8 y279])) (s215 + (1 : Int)) < m257 x210 s215)))))))) ∧ ((¬ (s215 < (8 : Int))) → (sha_first_p  (fun (r308 : (List Int)) => ((okArr .u32 8 r308) → (sha_table_p  (fun (r313 : (List Int)) => ((okArr .u32 64 r313) → (∃ (I510 : (List Int) → (List Int) → Prop) (m511 : (List Int) → (List Int) → Nat), (I510 x210 r308) ∧ ∀ (x473 : (List Int)) (f478 : (List Int)), (I510 x473 f478) → (x473.length ≤ 9223372036854775807) → (okArr .u32 8 f478) → ((((x473.length : Int) > (0 : Int)) → (sha_turn_p f478 x473 r313 (fun (r535 : (List Int)) => ((okArr .u32 8 r535) → (((64 : Int) ≤ (x473.length : Int)) ∧ ((I510 (x473.drop 64) r535) ∧ m511 (x473.drop 64) r535 < m511 x473 f478)))))) ∧ ((¬ ((x473.length : Int) > (0 : Int))) → (∃ (I675 : Int → (List Int) → Prop) (m676 : Int → (List Int) → Nat), (I675 (0 : Int) (List.replicate 32 (0 : Int))) ∧ ∀ (s621 : Int) (f623 : (List Int)), (I675 s621 f623) → (inR .i64 s621) → (okArr .u8 32 f623) → (((s621 < (8 : Int)) → ((0 ≤ s621 ∧ s621 < 8) ∧ ((inR .i64 ((4 : Int) * s621)) ∧ ((inR .i64 ((4 : Int) * s621)) ∧ ((inR .i64 (((4 : Int) * s621) + (1 : Int))) ∧ ((inR .i64 ((4 : Int) * s621)) ∧ ((inR .i64 (((4 : Int) * s621) + (2 : Int))) ∧ ((inR .i64 ((4 : Int) * s621)) ∧ ((inR .i64 (((4 : Int) * s621) + (3 : Int))) ∧ ((0 ≤ ((4 : Int) * s621) ∧ ((4 : Int) * s621) < 32) ∧ (∀ l712 : List Int, l712 = (lset f623 ((4 : Int) * s621) (iwrap .u8 (ishr .u32 (lget f478 s621) (24 : Int)))) → ((0 ≤ (((4 : Int) * s621) + (1 : Int)) ∧ (((4 : Int) * s621) + (1 : Int)) < 32) ∧ (∀ l720 : List Int, l720 = (lset l712 (((4 : Int) * s621) + (1 : Int)) (iwrap .u8 (ishr .u32 (lget f478 s621) (16 : Int)))) → ((0 ≤ (((4 : Int) * s621) + (2 : Int)) ∧ (((4 : Int) * s621) + (2 : Int)) < 32) ∧ (∀ l728 : List Int, l728 = (lset l720 (((4 : Int) * s621) + (2 : Int)) (iwrap .u8 (ishr .u32 (lget f478 s621) (8 : Int)))) → ((0 ≤ (((4 : Int) * s621) + (3 : Int)) ∧ (((4 : Int) * s621) + (3 : Int)) < 32) ∧ (∀ l736 : List Int, l736 = (lset l728 (((4 : Int) * s621) + (3 : Int)) (iwrap .u8 (lget f478 s621))) → ((inR .i64 (s621 + (1 : Int))) ∧ ((I675 (s621 + (1 : Int)) l736) ∧ m676 (s621 + (1 : Int)) l736 < m676 s621 f623))))))))))))))))))) ∧ ((¬ (s621 < (8 : Int))) → Q f623))))))))))))))))))))))))
set_option maxRecDepth 20000 in
set_option maxHeartbeats 4000000 in
theorem sha_Sum_w {X : List Nat} {w : World} {b : (List Int)} {ab1 : Option Addr} {cb2 : Nat} {Q : (List Int) → Prop} (hX0 : Old X w) (hb3 : Sl (rInt .u8) X w ab1 cb2 b) (hp : sha_Sum_p b Q) :
    Calls Try.prog 8 #[(.slice ab1 b.length cb2)] w (Ret fun v w' => ∃ (r0 : (List Int)), Q r0 ∧ Evo [] w w' ∧ v = (.agg (r0.map (Value.int .u8)).toArray) ∧ okArr .u8 32 r0) := by
  have hXo := hX0
  have E0 : Evo [] w w := RB.refl _ _ _
  have hS : Sub X X := Sub.refl _
  unfold sha_Sum_p at hp
  refine enter_ Try.func8 rfl 83 [(0, (.slice ab1 b.length cb2))] (by kernel_rfl) (fun Qe hQ => ?_)
  replace hp := hp (Sl.len hb3)
  refine seq_ (fun _ K4 => ?_)
  refine reg_ ?_
  refine sq (o_newX ((List.replicate 32 (0 : Int)).map (Value.int .u8)) 25 (X := X) (B := w.heap.size) E0.size rfl (by kernel_rfl) ?_)
  intro b5 w6 X7 s8 k9 n10
  refine nil_ ?_
  refine then_normal (K4 _ _ _ _ ?_)
  refine seq_ (fun _ K11 => ?_)
  refine reg_ ?_
  refine sq (o_pv (.slice ab1 b.length cb2) rfl (by kernel_rfl) ?_)
  have hb12 := (Sl.step hb3 s8)
  have hXo13 := (Old.step hXo s8)
  refine sq (o_call 21 #[(.slice ab1 b.length cb2)] rfl (x_call Try.call21 (by kernel_rfl)) (slices_Clone_byte_byte_w (X := X7) (s := b) hXo13 (Sl.sq hb12) hp) ?_)
  rintro _ w15 ⟨r14, hp, e16, a18, c19, rfl, O20⟩
  have E24 := (Evo.then0 E0 (Step.evo s8))
  obtain ⟨X21, s17, O22, n23⟩ := OS.own_in O20 e16 E24.size
  have p25 := n23 _ (OB.old k9)
  replace hp := hp (OS.len O22)
  have k26 := (OB.step0 k9 s17)
  have E33 := (Evo.then0 E24 (Step.evo s17))
  refine sq (o_rowX (R := (rInt .u8)) [(.int .u8 (128 : Int))] [(128 : Int)] 5 1 (X := X21) (B := w.heap.size) E33.size rfl (by kernel_rfl) (Flat.cons (cs := [(.int .u8 (128 : Int))]) (rInt_mk (by decide)) Flat.nil) rfl (by decide) ?_)
  intro b27 w28 X29 s30 O31 n32
  have p34 := n32 _ (OB.old k26)
  have p35 := n32 _ (OS.old O22)
  obtain ⟨h36, hp⟩ := hp
  have O37 := (OS.step0 O22 s30)
  have k38 := (OB.step0 k26 s30)
  have E39 := (Evo.then0 E33 (Step.evo s30))
  refine sq (o_appX (R := (rInt .u8)) (X := X29) (B := w.heap.size) (L := r14) (M := [(128 : Int)]) rfl elT22 rfl E39.size O37 (OS.src O31) O31.1 (by kernel_rfl) (by kernel_rfl) h36 ?_)
  intro a40 n41 c42 w43 X44 s45 O46 gr47
  have p48 := gr47 _ p25 (OB.old k38)
  refine sq (o_pv (.slice a40 n41 c42) rfl (by kernel_rfl) ?_)
  refine nil_ ?_
  refine then_normal (K11 _ _ _ _ ?_)
  refine seq_ (fun _ K49 => ?_)
  refine wp_block ?_
  have hb125 := (Sl.step (Sl.step (Sl.step hb12 s17) s30) s45)
  have hXo126 := (Old.step (Old.step (Old.step hXo13 s17) s30) s45)
  have E127 := (Evo.thenW E39 (Step.evo s45) O37.2.2)
  have hS128 := (Sub.trans (Sub.trans (Sub.trans (Sub.trans hS (Step.up s8)) (Step.up s17)) (Step.up s30)) (Step.up s45))
  have k129 := (OB.step k38 s45 p25)
  obtain ⟨I115, m116, hI117, hp⟩ := hp
  refine loop_ 4161544 (fun kq lq w119 => ∃ (X120 : List Nat) (x80 : (List Int)) (a81 : Option Addr) (n82 : Nat) (c83 : Nat), (lq = [(3, (.slice a81 n82 c83))]) ∧ (kq = m116 x80) ∧ (Evo [] w w119) ∧ (Old X120 w119) ∧ (Sub X X120) ∧ (Sl (rInt .u8) X120 w119 ab1 cb2 b) ∧ (OB ([]) w.heap.size X120 w119 b5 ((List.replicate 32 (0 : Int)).map (Value.int .u8)) 25) ∧ (OS (rInt .u8) ([]) w.heap.size X120 w119 5 a81 n82 c83 x80) ∧ (Ap ([b5]) (blkL a81)) ∧ (I115 x80)) (m116 (r14 ++ ([(128 : Int)]))) [(3, (.slice a40 n41 c42))] (vs_cons (by kernel_rfl) vs_nil) ⟨X44, (r14 ++ ([(128 : Int)])), a40, n41, c42, rfl, rfl, E127, hXo126, hS128, hb125, k129, O46, p48, hI117⟩ ?_
  rintro _ _ w119 g122 ⟨X120, x80, a81, n82, c83, rfl, rfl, E130, hXo131, hS132, hb133, k134, O84, p135, hI118⟩ Kl123 hA124
  replace hp := hp x80 hI118 (OS.len O84)
  refine seq_ (fun _ K136 => ?_)
  refine seq_ (fun _ K137 => ?_)
  refine reg_ ?_
  refine sq (o_pv (.slice a81 n82 c83) rfl (by kernel_rfl) ?_)
  refine sq (o_pv (.int .i64 (x80.length : Int)) rfl (by rw [← show n82 = x80.length from O84.1]; kernel_rfl) ?_)
  obtain ⟨h138, hp⟩ := hp
  refine sq (o_pv (.int .i64 ((x80.length : Int) % (64 : Int))) rfl (x_rem2 (k := .i64) (a := (x80.length : Int)) (b := (64 : Int)) ((x80.length : Int) % (64 : Int)) (by kernel_rfl) (by kernel_rfl) h138 (by decide) rfl (wrap_inR (inR_rem h138 (by decide) (inR_len (OS.len O84)) (by decide)))) ?_)
  refine sq (o_pv (.bool (!decide (((x80.length : Int) % (64 : Int)) = (56 : Int)))) rfl (by kernel_rfl) ?_)
  refine nil_ ?_
  refine then_normal (K137 _ _ _ _ ?_)
  refine cond_nd (((x80.length : Int) % (64 : Int)) = (56 : Int)) (by kernel_rfl) (fun h139 => ?_) (fun h139 => ?_)
  ·
    replace hp := hp.1 h139
    refine wp_skip ?_
    refine then_normal (K136 _ _ _ _ ?_)
    refine wp_block ?_
    refine reg_ ?_
    refine sq (o_pv (.slice a81 n82 c83) rfl (by kernel_rfl) ?_)
    refine sq (o_rowX (R := (rInt .u8)) [(.int .u8 (0 : Int))] [(0 : Int)] 5 1 (X := X120) (B := w.heap.size) E130.size rfl (by kernel_rfl) (Flat.cons (cs := [(.int .u8 (0 : Int))]) (rInt_mk (by decide)) Flat.nil) rfl (by decide) ?_)
    intro b140 w141 X142 s143 O144 n145
    have p146 := n145 _ (OB.old k134)
    have p147 := n145 _ (OS.old O84)
    obtain ⟨h148, hp⟩ := hp
    have O149 := (OS.step0 O84 s143)
    have k150 := (OB.step0 k134 s143)
    have E151 := (Evo.then0 E130 (Step.evo s143))
    refine sq (o_appX (R := (rInt .u8)) (X := X142) (B := w.heap.size) (L := x80) (M := [(0 : Int)]) rfl elT22 rfl E151.size O149 (OS.src O144) O144.1 (by kernel_rfl) (by kernel_rfl) h148 ?_)
    intro a152 n153 c154 w155 X156 s157 O158 gr159
    have p160 := gr159 _ p135 (OB.old k150)
    refine sq (o_pv (.slice a152 n153 c154) rfl (by kernel_rfl) ?_)
    refine nil_ ?_
    refine blk_normal ?_
    have E161 := (Evo.thenW E151 (Step.evo s157) O149.2.2)
    have hXo162 := (Old.step (Old.step hXo131 s143) s157)
    have hS163 := (Sub.trans (Sub.trans hS132 (Step.up s143)) (Step.up s157))
    have hb164 := (Sl.step (Sl.step hb133 s143) s157)
    have k165 := (OB.step k150 s157 p135)
    refine then_normal (hA124 _ _ _ ⟨_, [(3, (.slice a152 n153 c154))], hp.2, fit_mk (AgB.mix _ _ _) (by kernel_rfl) (vs_cons (by kernel_rfl) vs_nil), ?_⟩)
    exact ⟨X156, (x80 ++ ([(0 : Int)])), a152, n153, c154, rfl, rfl, E161, hXo162, hS163, hb164, k165, O158, p160, hp.1⟩
  ·
    replace hp := hp.2 h139
    refine wp_exit ?_
    refine then_exit ?_
    refine then_exit ?_
    refine blk_exit ?_
    refine then_normal (K49 _ _ _ _ ?_)
    refine seq_ (fun _ K166 => ?_)
    refine reg_ ?_
    refine sq (o_pv (.slice ab1 b.length cb2) rfl (by kernel_rfl) ?_)
    refine sq (o_pv (.int .i64 (b.length : Int)) rfl (by kernel_rfl) ?_)
    refine sq (o_pv (.int .u64 (iwrap .u64 (b.length : Int))) rfl (x_convw (k := .i64) Try.underlying3 Try.underlying49 (by kernel_rfl)) ?_)
    refine sq (o_pv (.int .u64 (((iwrap .u64 (b.length : Int)) * (8 : Int)) % 18446744073709551616)) rfl (x_mul2 (k := .u64) (a := iwrap .u64 (b.length : Int)) (b := (8 : Int)) (((iwrap .u64 (b.length : Int)) * (8 : Int)) % 18446744073709551616) (by kernel_rfl) (by kernel_rfl) (wrap_u64_mod _)) ?_)
    refine sq (o_pv (.int .u64 (((iwrap .u64 (b.length : Int)) * (8 : Int)) % 18446744073709551616)) rfl (by kernel_rfl) ?_)
    refine nil_ ?_
    refine then_normal (K166 _ _ _ _ ?_)
    refine seq_ (fun _ K167 => ?_)
    refine seq_ (fun _ K168 => ?_)
    refine reg_ ?_
    refine sq (o_pv (.int .i64 (0 : Int)) rfl (by kernel_rfl) ?_)
    refine nil_ ?_
    refine then_normal (K168 _ _ _ _ ?_)
    refine wp_block ?_
    obtain ⟨I256, m257, hI258, hp⟩ := hp
    refine loop_ 549688705064 (fun kq lq w260 => ∃ (X261 : List Nat) (x210 : (List Int)) (s215 : Int) (a211 : Option Addr) (n212 : Nat) (c213 : Nat), (lq = [(3, (.slice a211 n212 c213)), (26, (.int .i64 s215))]) ∧ (kq = m257 x210 s215) ∧ (Evo [] w w260) ∧ (Old X261 w260) ∧ (Sub X X261) ∧ (OB ([]) w.heap.size X261 w260 b5 ((List.replicate 32 (0 : Int)).map (Value.int .u8)) 25) ∧ (OS (rInt .u8) ([]) w.heap.size X261 w260 5 a211 n212 c213 x210) ∧ (Ap ([b5]) (blkL a211)) ∧ (inR .i64 s215) ∧ (I256 x210 s215)) (m257 x80 (0 : Int)) [(3, (.slice a81 n82 c83)), (26, (.int .i64 (0 : Int)))] (vs_cons (by kernel_rfl) (vs_cons (by kernel_rfl) vs_nil)) ⟨X120, x80, (0 : Int), a81, n82, c83, rfl, rfl, E130, hXo131, hS132, k134, O84, p135, (by decide), hI258⟩ ?_
    rintro _ _ w260 g263 ⟨X261, x210, s215, a211, n212, c213, rfl, rfl, E266, hXo267, hS268, k269, O214, p270, rs216, hI259⟩ Kl264 hA265
    replace hp := hp x210 s215 hI259 (OS.len O214) rs216
    refine seq_ (fun _ K271 => ?_)
    refine reg_ ?_
    refine sq (o_pv (.bool (decide (s215 < (8 : Int)))) rfl (by kernel_rfl) ?_)
    refine nil_ ?_
    refine then_normal (K271 _ _ _ _ ?_)
    refine seq_ (fun _ K272 => ?_)
    refine cond_d (s215 < (8 : Int)) (by kernel_rfl) (fun h273 => ?_) (fun h273 => ?_)
    ·
      replace hp := hp.1 h273
      refine wp_skip ?_
      refine then_normal (K272 _ _ _ _ ?_)
      refine seq_ (fun _ K274 => ?_)
      refine wp_block ?_
      refine seq_ (fun _ K275 => ?_)
      refine reg_ ?_
      refine sq (o_pv (.int .i64 s215) rfl (by kernel_rfl) ?_)
      refine sq (o_pv (.int .i64 s215) rfl (by kernel_rfl) ?_)
      refine nil_ ?_
      refine then_normal (K275 _ _ _ _ ?_)
      refine reg_ ?_
      refine sq (o_pv (.slice a211 n212 c213) rfl (by kernel_rfl) ?_)
      refine sq (o_pv (.int .u64 (((iwrap .u64 (b.length : Int)) * (8 : Int)) % 18446744073709551616)) rfl (by kernel_rfl) ?_)
      refine sq (o_pv (.int .i64 s215) rfl (by kernel_rfl) ?_)
      obtain ⟨h276, hp⟩ := hp
      refine sq (o_pv (.int .i64 ((7 : Int) - s215)) rfl (x_sub2 (k := .i64) (a := (7 : Int)) (b := s215) ((7 : Int) - s215) (by kernel_rfl) (by kernel_rfl) (wrap_inR h276)) ?_)
      obtain ⟨h277, hp⟩ := hp
      refine sq (o_pv (.int .i64 ((8 : Int) * ((7 : Int) - s215))) rfl (x_mul2 (k := .i64) (a := (8 : Int)) (b := (7 : Int) - s215) ((8 : Int) * ((7 : Int) - s215)) (by kernel_rfl) (by kernel_rfl) (wrap_inR h277)) ?_)
      obtain ⟨h278, hp⟩ := hp
      obtain ⟨y279, qy279⟩ : ∃ y, y = (ishr .u64 (((iwrap .u64 (b.length : Int)) * (8 : Int)) % 18446744073709551616) ((8 : Int) * ((7 : Int) - s215))) := ⟨_, rfl⟩
      replace hp := hp y279 qy279
      have r280 : inR .u64 y279 := by rw [qy279]; exact (inR_ishr _ (inR_u64_mod _))
      refine sq (o_pv (.int .u64 y279) rfl (by rw [qy279]; exact (x_shr (k := .u64) (k' := .i64) (a := ((iwrap .u64 (b.length : Int)) * (8 : Int)) % 18446744073709551616) (b := (8 : Int) * ((7 : Int) - s215)) (by kernel_rfl) (by kernel_rfl) h278)) ?_)
      refine sq (o_pv (.int .u8 (iwrap .u8 y279)) rfl (x_convw (k := .u64) Try.underlying49 Try.underlying5 (by kernel_rfl)) ?_)
      refine sq (o_rowX (R := (rInt .u8)) [(.int .u8 (iwrap .u8 y279))] [iwrap .u8 y279] 5 1 (X := X261) (B := w.heap.size) E266.size rfl (by kernel_rfl) (Flat.cons (cs := [(.int .u8 (iwrap .u8 y279))]) (rInt_mk (inR_iwrap _ _)) Flat.nil) rfl (by decide) ?_)
      intro b281 w282 X283 s284 O285 n286
      have p287 := n286 _ (OB.old k269)
      have p288 := n286 _ (OS.old O214)
      obtain ⟨h289, hp⟩ := hp
      have O290 := (OS.step0 O214 s284)
      have k291 := (OB.step0 k269 s284)
      have E292 := (Evo.then0 E266 (Step.evo s284))
      refine sq (o_appX (R := (rInt .u8)) (X := X283) (B := w.heap.size) (L := x210) (M := [iwrap .u8 y279]) rfl elT22 rfl E292.size O290 (OS.src O285) O285.1 (by kernel_rfl) (by kernel_rfl) h289 ?_)
      intro a293 n294 c295 w296 X297 s298 O299 gr300
      have p301 := gr300 _ p270 (OB.old k291)
      refine sq (o_pv (.slice a293 n294 c295) rfl (by kernel_rfl) ?_)
      refine nil_ ?_
      refine blk_normal ?_
      refine then_normal (K274 _ _ _ _ ?_)
      refine reg_ ?_
      obtain ⟨h302, hp⟩ := hp
      refine sq (o_pv (.int .i64 (s215 + (1 : Int))) rfl (x_add2 (k := .i64) (a := s215) (b := (1 : Int)) (s215 + (1 : Int)) (by kernel_rfl) (by kernel_rfl) (wrap_inR h302)) ?_)
      refine sq (o_pv (.int .i64 (s215 + (1 : Int))) rfl (by kernel_rfl) ?_)
      refine nil_ ?_
      have E303 := (Evo.thenW E292 (Step.evo s298) O290.2.2)
      have hXo304 := (Old.step (Old.step hXo267 s284) s298)
      have hS305 := (Sub.trans (Sub.trans hS268 (Step.up s284)) (Step.up s298))
      have k306 := (OB.step k291 s298 p270)
      refine then_normal (hA265 _ _ _ ⟨_, [(3, (.slice a293 n294 c295)), (26, (.int .i64 (s215 + (1 : Int))))], hp.2, fit_mk (AgB.mix _ _ _) (by kernel_rfl) (vs_cons (by kernel_rfl) (vs_cons (by kernel_rfl) vs_nil)), ?_⟩)
      exact ⟨X297, (x210 ++ ([iwrap .u8 y279])), (s215 + (1 : Int)), a293, n294, c295, rfl, rfl, E303, hXo304, hS305, k306, O299, p301, h302, hp.1⟩
    ·
      replace hp := hp.2 h273
      refine wp_exit ?_
      refine then_exit ?_
      refine then_exit ?_
      refine blk_exit ?_
      refine then_normal (K167 _ _ _ _ ?_)
      refine seq_ (fun _ K307 => ?_)
      refine reg_ ?_
      refine sq (o_call 22 #[] rfl (x_call Try.call22 (by kernel_rfl)) (sha_first_w (X := [])  (Old.nil _) hp) ?_)
      rintro _ w309 ⟨r308, hp, e310, rfl, kr312⟩
      have s311 := Step.of0 X261 e310
      replace hp := hp kr312
      refine sq (o_call 23 #[] rfl (x_call Try.call23 (by kernel_rfl)) (sha_table_w (X := [])  (Old.nil _) hp) ?_)
      rintro _ w314 ⟨r313, hp, e315, rfl, kr317⟩
      have s316 := Step.of0 X261 e315
      replace hp := hp kr317
      have k324 := (OB.step0 (OB.step0 k269 s311) s316)
      have O325 := (OS.step0 (OS.step0 O214 s311) s316)
      have E326 := (Evo.then0 (Evo.then0 E266 e310) e315)
      refine sq (o_newX ((List.replicate 8 (0 : Int)).map (Value.int .u32)) 51 (X := X261) (B := w.heap.size) E326.size rfl (by kernel_rfl) ?_)
      intro b318 w319 X320 s321 k322 n323
      have p327 := n323 _ (OB.old k324)
      have p328 := n323 _ (OS.old O325)
      have k335 := (OB.step0 k324 s321)
      have O336 := (OS.step0 O325 s321)
      have E337 := (Evo.then0 E326 (Step.evo s321))
      refine sq (o_newX ((List.replicate 64 (0 : Int)).map (Value.int .u32)) 53 (X := X320) (B := w.heap.size) E337.size rfl (by kernel_rfl) ?_)
      intro b329 w330 X331 s332 k333 n334
      have p338 := n334 _ (OB.old k335)
      have p339 := n334 _ (OS.old O336)
      have p340 := n334 _ (OB.old k322)
      have k341 := (OB.step0 k335 s332)
      have O342 := (OS.step0 O336 s332)
      have k343 := (OB.step0 k322 s332)
      have E344 := (Evo.then0 E337 (Step.evo s332))
      refine sq (o_stW (k := .u32) (e := (List.replicate 8 (0 : Int))) (e' := r308) rfl k343 (by kernel_rfl) (by kernel_rfl) Try.sizeOf51 (okArr_rep _ _) kr312 ?_)
      intro w345 s346 k347
      have k348 := (OB.step k341 s346 p327)
      have O349 := (OS.step O342 s346 p328)
      have k350 := (OB.step k333 s346 (Ap.symm p340))
      have E351 := (Evo.thenW E344 (Step.evo s346) k343.2.2)
      refine sq (o_stW (k := .u32) (e := (List.replicate 64 (0 : Int))) (e' := r313) rfl k350 (by kernel_rfl) (by kernel_rfl) Try.sizeOf53 (okArr_rep _ _) kr317 ?_)
      intro w352 s353 k354
      refine nil_ ?_
      refine then_normal (K307 _ _ _ _ ?_)
      refine seq_ (fun _ K355 => ?_)
      refine wp_block ?_
      have O433 := (OS.step O349 s353 p339)
      have hS434 := (Sub.trans (Sub.trans (Sub.trans (Sub.trans (Sub.trans (Sub.trans hS268 (Step.up s311)) (Step.up s316)) (Step.up s321)) (Step.up s332)) (Step.up s346)) (Step.up s353))
      have E440 := (Evo.thenW E351 (Step.evo s353) k350.2.2)
      have hXo441 := (Old.step (Old.step (Old.step (Old.step (Old.step (Old.step hXo267 s311) s316) s321) s332) s346) s353)
      have k442 := (OB.step k348 s353 p338)
      have k443 := (OB.step k347 s353 p340)
      have ax439 := OS.apold O433 hX0
      obtain ⟨X435, u436, r437, hm438⟩ := OS.release O433
      obtain rfl : n212 = x210.length := O433.1
      have E520 := E440
      have hXo521 := (Old.less hXo441 u436)
      have hS522 := (hm438 _ ax439 hS434)
      have k523 := (OB.less k442 (hm438 _ p270 (OB.mem k442)))
      have k524 := (OB.less k443 (hm438 _ (Ap.symm p328) (OB.mem k443)))
      have k525 := (OB.less k354 (hm438 _ (Ap.symm p339) (OB.mem k354)))
      obtain ⟨I510, m511, hI512, hp⟩ := hp
      refine loop_ 1123700883587080 (fun kq lq w514 => ∃ (X515 : List Nat) (x473 : (List Int)) (f478 : (List Int)) (a474 : Option Addr) (c476 : Nat), (lq = [(3, (.slice a474 x473.length c476))]) ∧ (kq = m511 x473 f478) ∧ (Evo [] w w514) ∧ (Old X515 w514) ∧ (Sub X X515) ∧ (OB ([]) w.heap.size X515 w514 b5 ((List.replicate 32 (0 : Int)).map (Value.int .u8)) 25) ∧ (OB ([]) w.heap.size X515 w514 b329 (r313.map (Value.int .u32)) 53) ∧ (Sl (rInt .u8) X515 w514 a474 c476 x473) ∧ (OB ([]) w.heap.size X515 w514 b318 (f478.map (Value.int .u32)) 51) ∧ (okArr .u32 8 f478) ∧ (I510 x473 f478)) (m511 x210 r308) [(3, (.slice a211 x210.length c213))] (vs_cons (by kernel_rfl) vs_nil) ⟨X435, x210, r308, a211, c213, rfl, rfl, E520, hXo521, hS522, k523, k525, r437, k524, kr312, hI512⟩ ?_
      rintro _ _ w514 g517 ⟨X515, x473, f478, a474, c476, rfl, rfl, E526, hXo527, hS528, k529, k530, h477, k480, kf479, hI513⟩ Kl518 hA519
      replace hp := hp x473 f478 hI513 (Sl.len h477) kf479
      refine seq_ (fun _ K531 => ?_)
      refine seq_ (fun _ K532 => ?_)
      refine reg_ ?_
      refine sq (o_pv (.slice a474 x473.length c476) rfl (by kernel_rfl) ?_)
      refine sq (o_pv (.int .i64 (x473.length : Int)) rfl (by kernel_rfl) ?_)
      refine sq (o_pv (.bool (decide ((x473.length : Int) > (0 : Int)))) rfl (by kernel_rfl) ?_)
      refine nil_ ?_
      refine then_normal (K532 _ _ _ _ ?_)
      refine cond_d ((x473.length : Int) > (0 : Int)) (by kernel_rfl) (fun h533 => ?_) (fun h533 => ?_)
      ·
        replace hp := hp.1 h533
        refine wp_skip ?_
        refine then_normal (K531 _ _ _ _ ?_)
        refine seq_ (fun _ K534 => ?_)
        refine wp_block ?_
        refine reg_ ?_
        refine sq (o_pv (.agg (f478.map (Value.int .u32)).toArray) rfl (x_loadA f478 (by kernel_rfl) Try.isAgg51 Try.sizeOf51 kf479 (Blk.awhole k480.2.1)) ?_)
        refine sq (o_pv (.slice a474 x473.length c476) rfl (by kernel_rfl) ?_)
        refine sq (o_pv (.agg (r313.map (Value.int .u32)).toArray) rfl (x_loadA r313 (by kernel_rfl) Try.isAgg53 Try.sizeOf53 kr317 (Blk.awhole k530.2.1)) ?_)
        refine sq (o_call 24 #[(.agg (f478.map (Value.int .u32)).toArray), (.slice a474 x473.length c476), (.agg (r313.map (Value.int .u32)).toArray)] rfl (x_call Try.call24 (by kernel_rfl)) (sha_turn_w (X := []) (h := f478) (b := x473) (k := r313) (Old.nil _) kf479 (Sl.less h477 (Sub.nil _)) kr317 hp) ?_)
        rintro _ w536 ⟨r535, hp, e537, rfl, kr539⟩
        have s538 := Step.of0 X515 e537
        replace hp := hp kr539
        have k540 := (OB.step0 k529 s538)
        have k541 := (OB.step0 k530 s538)
        have k542 := (OB.step0 k480 s538)
        have E543 := (Evo.then0 E526 e537)
        refine sq (o_stW (k := .u32) (e := f478) (e' := r535) rfl k542 (by kernel_rfl) (by kernel_rfl) Try.sizeOf51 kf479 kr539 ?_)
        intro w544 s545 k546
        refine nil_ ?_
        refine blk_normal ?_
        refine then_normal (K534 _ _ _ _ ?_)
        refine reg_ ?_
        refine sq (o_pv (.slice a474 x473.length c476) rfl (by kernel_rfl) ?_)
        have h547 := (Sl.step (Sl.step h477 s538) s545)
        obtain ⟨h551, hp⟩ := hp
        refine sq (o_slice (R := (rInt .u8)) (X := X515) (L := x473) 64 x473.length (x473.drop 64) rfl Try.underlying22 Try.sizeOf5 h547 (by kernel_rfl) rfl (.inr ⟨.i64, by kernel_rfl⟩) (.inl ⟨rfl, rfl, rfl⟩) (by omega) (by omega) (by rw [List.take_length]) ?_)
        intro a548 c549 h550
        refine sq (o_pv (.slice a548 ((x473.drop 64).length) c549) rfl (by kernel_rfl) ?_)
        refine nil_ ?_
        have E552 := (Evo.thenW E543 (Step.evo s545) k542.2.2)
        have hXo553 := (Old.step (Old.step hXo527 s538) s545)
        have hS554 := (Sub.trans (Sub.trans hS528 (Step.up s538)) (Step.up s545))
        have k555 := (OB.step k540 s545 p327)
        have k556 := (OB.step k541 s545 (Ap.symm p340))
        refine then_normal (hA519 _ _ _ ⟨_, [(3, (.slice a548 (x473.drop 64).length c549))], hp.2, fit_mk (AgB.mix _ _ _) (by kernel_rfl) (vs_cons (by kernel_rfl) vs_nil), ?_⟩)
        exact ⟨X515, (x473.drop 64), r535, a548, c549, rfl, rfl, E552, hXo553, hS554, k555, k556, h550, k546, kr539, hp.1⟩
      ·
        replace hp := hp.2 h533
        refine wp_exit ?_
        refine then_exit ?_
        refine then_exit ?_
        refine blk_exit ?_
        refine then_normal (K355 _ _ _ _ ?_)
        refine seq_ (fun _ K557 => ?_)
        refine reg_ ?_
        refine sq (o_newX ((List.replicate 32 (0 : Int)).map (Value.int .u8)) 25 (X := X515) (B := w.heap.size) E526.size rfl (by kernel_rfl) ?_)
        intro b558 w559 X560 s561 k562 n563
        have p564 := n563 _ (OB.old k529)
        have p565 := n563 _ (OB.old k530)
        have p566 := n563 _ (OB.old k480)
        refine nil_ ?_
        refine then_normal (K557 _ _ _ _ ?_)
        refine seq_ (fun _ K567 => ?_)
        refine seq_ (fun _ K568 => ?_)
        refine reg_ ?_
        have k569 := (OB.step0 k480 s561)
        refine sq (o_pv (.agg (f478.map (Value.int .u32)).toArray) rfl (x_loadA f478 (by kernel_rfl) Try.isAgg51 Try.sizeOf51 kf479 (Blk.awhole k569.2.1)) ?_)
        refine sq (o_pv (.int .i64 (0 : Int)) rfl (by kernel_rfl) ?_)
        refine nil_ ?_
        refine then_normal (K568 _ _ _ _ ?_)
        refine wp_block ?_
        have E685 := (Evo.then0 E526 (Step.evo s561))
        have hXo686 := (Old.step hXo527 s561)
        have hS687 := (Sub.trans hS528 (Step.up s561))
        have k688 := (OB.step0 k529 s561)
        have k689 := (OB.step0 k530 s561)
        have h690 := (Sl.step h477 s561)
        obtain ⟨I675, m676, hI677, hp⟩ := hp
        refine loop_ 4835703276206716885140992 (fun kq lq w679 => ∃ (X680 : List Nat) (s621 : Int) (f623 : (List Int)), (lq = [(51, (.int .i64 s621))]) ∧ (kq = m676 s621 f623) ∧ (Evo [] w w679) ∧ (Old X680 w679) ∧ (Sub X X680) ∧ (OB ([]) w.heap.size X680 w679 b5 ((List.replicate 32 (0 : Int)).map (Value.int .u8)) 25) ∧ (OB ([]) w.heap.size X680 w679 b558 (f623.map (Value.int .u8)) 25) ∧ (inR .i64 s621) ∧ (okArr .u8 32 f623) ∧ (I675 s621 f623)) (m676 (0 : Int) (List.replicate 32 (0 : Int))) [(51, (.int .i64 (0 : Int)))] (vs_cons (by kernel_rfl) vs_nil) ⟨X560, (0 : Int), (List.replicate 32 (0 : Int)), rfl, rfl, E685, hXo686, hS687, k688, k562, (by decide), (okArr_rep _ _), hI677⟩ ?_
        rintro _ _ w679 g682 ⟨X680, s621, f623, rfl, rfl, E691, hXo692, hS693, k694, k625, rs622, kf624, hI678⟩ Kl683 hA684
        replace hp := hp s621 f623 hI678 rs622 kf624
        refine seq_ (fun _ K695 => ?_)
        refine reg_ ?_
        refine sq (o_pv (.bool (decide (s621 < (8 : Int)))) rfl (by kernel_rfl) ?_)
        refine nil_ ?_
        refine then_normal (K695 _ _ _ _ ?_)
        refine seq_ (fun _ K696 => ?_)
        refine cond_d (s621 < (8 : Int)) (by kernel_rfl) (fun h697 => ?_) (fun h697 => ?_)
        ·
          replace hp := hp.1 h697
          refine wp_skip ?_
          refine then_normal (K696 _ _ _ _ ?_)
          refine seq_ (fun _ K698 => ?_)
          refine wp_block ?_
          refine seq_ (fun _ K699 => ?_)
          refine reg_ ?_
          refine sq (o_pv (.int .i64 s621) rfl (by kernel_rfl) ?_)
          obtain ⟨h700, hp⟩ := hp
          refine sq (o_pv (.int .u32 (lget f478 s621)) rfl (x_aget (k := .u32) (k' := .i64) (e := f478) (by kernel_rfl) (by kernel_rfl) Try.underlying51 Try.isAgg50 Try.sizeOf50 kf479 h700) ?_)
          refine sq (o_pv (.int .i64 s621) rfl (by kernel_rfl) ?_)
          refine sq (o_pv (.int .u32 (lget f478 s621)) rfl (by kernel_rfl) ?_)
          refine nil_ ?_
          refine then_normal (K699 _ _ _ _ ?_)
          refine reg_ ?_
          refine sq (o_pv (.int .i64 s621) rfl (by kernel_rfl) ?_)
          obtain ⟨h701, hp⟩ := hp
          refine sq (o_pv (.int .i64 ((4 : Int) * s621)) rfl (x_mul2 (k := .i64) (a := (4 : Int)) (b := s621) ((4 : Int) * s621) (by kernel_rfl) (by kernel_rfl) (wrap_inR h701)) ?_)
          refine sq (o_pv (.int .i64 s621) rfl (by kernel_rfl) ?_)
          obtain ⟨h702, hp⟩ := hp
          refine sq (o_pv (.int .i64 ((4 : Int) * s621)) rfl (x_mul2 (k := .i64) (a := (4 : Int)) (b := s621) ((4 : Int) * s621) (by kernel_rfl) (by kernel_rfl) (wrap_inR h702)) ?_)
          obtain ⟨h703, hp⟩ := hp
          refine sq (o_pv (.int .i64 (((4 : Int) * s621) + (1 : Int))) rfl (x_add2 (k := .i64) (a := (4 : Int) * s621) (b := (1 : Int)) (((4 : Int) * s621) + (1 : Int)) (by kernel_rfl) (by kernel_rfl) (wrap_inR h703)) ?_)
          refine sq (o_pv (.int .i64 s621) rfl (by kernel_rfl) ?_)
          obtain ⟨h704, hp⟩ := hp
          refine sq (o_pv (.int .i64 ((4 : Int) * s621)) rfl (x_mul2 (k := .i64) (a := (4 : Int)) (b := s621) ((4 : Int) * s621) (by kernel_rfl) (by kernel_rfl) (wrap_inR h704)) ?_)
          obtain ⟨h705, hp⟩ := hp
          refine sq (o_pv (.int .i64 (((4 : Int) * s621) + (2 : Int))) rfl (x_add2 (k := .i64) (a := (4 : Int) * s621) (b := (2 : Int)) (((4 : Int) * s621) + (2 : Int)) (by kernel_rfl) (by kernel_rfl) (wrap_inR h705)) ?_)
          refine sq (o_pv (.int .i64 s621) rfl (by kernel_rfl) ?_)
          obtain ⟨h706, hp⟩ := hp
          refine sq (o_pv (.int .i64 ((4 : Int) * s621)) rfl (x_mul2 (k := .i64) (a := (4 : Int)) (b := s621) ((4 : Int) * s621) (by kernel_rfl) (by kernel_rfl) (wrap_inR h706)) ?_)
          obtain ⟨h707, hp⟩ := hp
          refine sq (o_pv (.int .i64 (((4 : Int) * s621) + (3 : Int))) rfl (x_add2 (k := .i64) (a := (4 : Int) * s621) (b := (3 : Int)) (((4 : Int) * s621) + (3 : Int)) (by kernel_rfl) (by kernel_rfl) (wrap_inR h707)) ?_)
          refine sq (o_pv (.int .u32 (lget f478 s621)) rfl (by kernel_rfl) ?_)
          refine sq (o_pv (.int .u32 (ishr .u32 (lget f478 s621) (24 : Int))) rfl (x_shr (k := .u32) (k' := .u64) (a := lget f478 s621) (b := (24 : Int)) (by kernel_rfl) (by kernel_rfl) (by decide)) ?_)
          refine sq (o_pv (.int .u8 (iwrap .u8 (ishr .u32 (lget f478 s621) (24 : Int)))) rfl (x_convw (k := .u32) Try.underlying50 Try.underlying5 (by kernel_rfl)) ?_)
          refine sq (o_pv (.int .u32 (lget f478 s621)) rfl (by kernel_rfl) ?_)
          refine sq (o_pv (.int .u32 (ishr .u32 (lget f478 s621) (16 : Int))) rfl (x_shr (k := .u32) (k' := .u64) (a := lget f478 s621) (b := (16 : Int)) (by kernel_rfl) (by kernel_rfl) (by decide)) ?_)
          refine sq (o_pv (.int .u8 (iwrap .u8 (ishr .u32 (lget f478 s621) (16 : Int)))) rfl (x_convw (k := .u32) Try.underlying50 Try.underlying5 (by kernel_rfl)) ?_)
          refine sq (o_pv (.int .u32 (lget f478 s621)) rfl (by kernel_rfl) ?_)
          refine sq (o_pv (.int .u32 (ishr .u32 (lget f478 s621) (8 : Int))) rfl (x_shr (k := .u32) (k' := .u64) (a := lget f478 s621) (b := (8 : Int)) (by kernel_rfl) (by kernel_rfl) (by decide)) ?_)
          refine sq (o_pv (.int .u8 (iwrap .u8 (ishr .u32 (lget f478 s621) (8 : Int)))) rfl (x_convw (k := .u32) Try.underlying50 Try.underlying5 (by kernel_rfl)) ?_)
          refine sq (o_pv (.int .u32 (lget f478 s621)) rfl (by kernel_rfl) ?_)
          refine sq (o_pv (.int .u8 (iwrap .u8 (lget f478 s621))) rfl (x_convw (k := .u32) Try.underlying50 Try.underlying5 (by kernel_rfl)) ?_)
          obtain ⟨h708, hp⟩ := hp
          refine sq (o_pv (.pointer (some ⟨b558, ((4 : Int) * s621).toNat, none⟩)) rfl (x_ixR (k := .i64) (i := (4 : Int) * s621) Try.underlying25 Try.sizeOf5 (by kernel_rfl) (by kernel_rfl) h708) ?_)
          refine sq (o_stA (k := .u8) (i := (4 : Int) * s621) (v := iwrap .u8 (ishr .u32 (lget f478 s621) (24 : Int))) (e := f623) rfl k625 (by kernel_rfl) (by kernel_rfl) Try.sizeOf5 kf624 h708 ?_)
          intro w709 s710 k711
          obtain ⟨l712, ql712⟩ : ∃ y, y = (lset f623 ((4 : Int) * s621) (iwrap .u8 (ishr .u32 (lget f478 s621) (24 : Int)))) := ⟨_, rfl⟩
          replace hp := hp l712 ql712
          rw [← ql712] at k711
          have ok713 : okArr .u8 32 l712 := by rw [ql712]; exact (okArr_set kf624 (inR_iwrap _ _))
          obtain ⟨h714, hp⟩ := hp
          refine sq (o_pv (.pointer (some ⟨b558, (((4 : Int) * s621) + (1 : Int)).toNat, none⟩)) rfl (x_ixR (k := .i64) (i := ((4 : Int) * s621) + (1 : Int)) Try.underlying25 Try.sizeOf5 (by kernel_rfl) (by kernel_rfl) h714) ?_)
          have k715 := (OB.step k694 s710 p564)
          have E716 := (Evo.thenW E691 (Step.evo s710) k625.2.2)
          refine sq (o_stA (k := .u8) (i := ((4 : Int) * s621) + (1 : Int)) (v := iwrap .u8 (ishr .u32 (lget f478 s621) (16 : Int))) (e := l712) rfl k711 (by kernel_rfl) (by kernel_rfl) Try.sizeOf5 ok713 h714 ?_)
          intro w717 s718 k719
          obtain ⟨l720, ql720⟩ : ∃ y, y = (lset l712 (((4 : Int) * s621) + (1 : Int)) (iwrap .u8 (ishr .u32 (lget f478 s621) (16 : Int)))) := ⟨_, rfl⟩
          replace hp := hp l720 ql720
          rw [← ql720] at k719
          have ok721 : okArr .u8 32 l720 := by rw [ql720]; exact (okArr_set ok713 (inR_iwrap _ _))
          obtain ⟨h722, hp⟩ := hp
          refine sq (o_pv (.pointer (some ⟨b558, (((4 : Int) * s621) + (2 : Int)).toNat, none⟩)) rfl (x_ixR (k := .i64) (i := ((4 : Int) * s621) + (2 : Int)) Try.underlying25 Try.sizeOf5 (by kernel_rfl) (by kernel_rfl) h722) ?_)
          have k723 := (OB.step k715 s718 p564)
          have E724 := (Evo.thenW E716 (Step.evo s718) k711.2.2)
          refine sq (o_stA (k := .u8) (i := ((4 : Int) * s621) + (2 : Int)) (v := iwrap .u8 (ishr .u32 (lget f478 s621) (8 : Int))) (e := l720) rfl k719 (by kernel_rfl) (by kernel_rfl) Try.sizeOf5 ok721 h722 ?_)
          intro w725 s726 k727
          obtain ⟨l728, ql728⟩ : ∃ y, y = (lset l720 (((4 : Int) * s621) + (2 : Int)) (iwrap .u8 (ishr .u32 (lget f478 s621) (8 : Int)))) := ⟨_, rfl⟩
          replace hp := hp l728 ql728
          rw [← ql728] at k727
          have ok729 : okArr .u8 32 l728 := by rw [ql728]; exact (okArr_set ok721 (inR_iwrap _ _))
          obtain ⟨h730, hp⟩ := hp
          refine sq (o_pv (.pointer (some ⟨b558, (((4 : Int) * s621) + (3 : Int)).toNat, none⟩)) rfl (x_ixR (k := .i64) (i := ((4 : Int) * s621) + (3 : Int)) Try.underlying25 Try.sizeOf5 (by kernel_rfl) (by kernel_rfl) h730) ?_)
          have k731 := (OB.step k723 s726 p564)
          have E732 := (Evo.thenW E724 (Step.evo s726) k719.2.2)
          refine sq (o_stA (k := .u8) (i := ((4 : Int) * s621) + (3 : Int)) (v := iwrap .u8 (lget f478 s621)) (e := l728) rfl k727 (by kernel_rfl) (by kernel_rfl) Try.sizeOf5 ok729 h730 ?_)
          intro w733 s734 k735
          obtain ⟨l736, ql736⟩ : ∃ y, y = (lset l728 (((4 : Int) * s621) + (3 : Int)) (iwrap .u8 (lget f478 s621))) := ⟨_, rfl⟩
          replace hp := hp l736 ql736
          rw [← ql736] at k735
          have ok737 : okArr .u8 32 l736 := by rw [ql736]; exact (okArr_set ok729 (inR_iwrap _ _))
          refine nil_ ?_
          refine blk_normal ?_
          refine then_normal (K698 _ _ _ _ ?_)
          refine reg_ ?_
          obtain ⟨h738, hp⟩ := hp
          refine sq (o_pv (.int .i64 (s621 + (1 : Int))) rfl (x_add2 (k := .i64) (a := s621) (b := (1 : Int)) (s621 + (1 : Int)) (by kernel_rfl) (by kernel_rfl) (wrap_inR h738)) ?_)
          refine sq (o_pv (.int .i64 (s621 + (1 : Int))) rfl (by kernel_rfl) ?_)
          refine nil_ ?_
          have E739 := (Evo.thenW E732 (Step.evo s734) k727.2.2)
          have hXo740 := (Old.step (Old.step (Old.step (Old.step hXo692 s710) s718) s726) s734)
          have hS741 := (Sub.trans (Sub.trans (Sub.trans (Sub.trans hS693 (Step.up s710)) (Step.up s718)) (Step.up s726)) (Step.up s734))
          have k742 := (OB.step k731 s734 p564)
          refine then_normal (hA684 _ _ _ ⟨_, [(51, (.int .i64 (s621 + (1 : Int))))], hp.2, fit_mk (AgB.mix _ _ _) (by kernel_rfl) (vs_cons (by kernel_rfl) vs_nil), ?_⟩)
          exact ⟨X680, (s621 + (1 : Int)), l736, rfl, rfl, E739, hXo740, hS741, k742, k735, h738, ok737, hp.1⟩
        ·
          replace hp := hp.2 h697
          refine wp_exit ?_
          refine then_exit ?_
          refine then_exit ?_
          refine blk_exit ?_
          refine then_normal (K567 _ _ _ _ ?_)
          refine seq_ (fun _ K743 => ?_)
          refine reg_ ?_
          refine sq (o_pv (.agg (f623.map (Value.int .u8)).toArray) rfl (x_loadA f623 (by kernel_rfl) Try.isAgg25 Try.sizeOf25 kf624 (Blk.awhole k625.2.1)) ?_)
          refine sq (o_stW (k := .u8) (e := (List.replicate 32 (0 : Int))) (e' := f623) rfl k694 (by kernel_rfl) (by kernel_rfl) Try.sizeOf25 (okArr_rep _ _) kf624 ?_)
          intro w744 s745 k746
          refine nil_ ?_
          refine then_normal (K743 _ _ _ _ ?_)
          refine wp_ret ?_
          have E747 := (Evo.thenW E691 (Step.evo s745) k694.2.2)
          refine end_ret hQ (.agg (f623.map (Value.int .u8)).toArray) (rs_single Try.results8 (rs_aggA (e := f623) (by kernel_rfl) Try.isAgg25 Try.sizeOf25 kf624 k746.2.1)) ?_
          exact ⟨f623, hp, E747, rfl, kf624⟩

def sha_ID_digit_p (id : (List Int)) (i : Int) (Q : Int → Prop) : Prop :=
  ((okArr .u8 32 id) → ((inR .i64 i) → ((0 ≤ i) ∧ ((((i % (2 : Int)) = (0 : Int)) → ((0 ≤ i) ∧ ((0 ≤ (i / (2 : Int)) ∧ (i / (2 : Int)) < 32) ∧ Q (ishr .u8 (lget id (i / (2 : Int))) (4 : Int))))) ∧ ((¬ ((i % (2 : Int)) = (0 : Int))) → ((0 ≤ i) ∧ ((0 ≤ (i / (2 : Int)) ∧ (i / (2 : Int)) < 32) ∧ Q (iand .u8 (lget id (i / (2 : Int))) (15 : Int)))))))))
set_option maxRecDepth 20000 in
set_option maxHeartbeats 4000000 in
theorem sha_ID_digit_w {X : List Nat} {w : World} {id : (List Int)} {i : Int} {Q : Int → Prop} (hX0 : Old X w) (kid1 : okArr .u8 32 id) (ri2 : inR .i64 i) (hp : sha_ID_digit_p id i Q) :
    Calls Try.prog 27 #[(.agg (id.map (Value.int .u8)).toArray), (.int .i64 i)] w (Ret fun v w' => ∃ (r0 : Int), Q r0 ∧ Evo [] w w' ∧ v = (.int .u8 r0) ∧ inR .u8 r0) := by
  have hXo := hX0
  have E0 : Evo [] w w := RB.refl _ _ _
  have hS : Sub X X := Sub.refl _
  unfold sha_ID_digit_p at hp
  refine enter_ Try.func27 rfl 18 [(0, (.agg (id.map (Value.int .u8)).toArray)), (1, (.int .i64 i))] (by kernel_rfl) (fun Qe hQ => ?_)
  replace hp := hp kid1
  replace hp := hp ri2
  refine seq_ (fun _ K3 => ?_)
  refine reg_ ?_
  refine sq (o_newX (id.map (Value.int .u8)) 25 (X := X) (B := w.heap.size) E0.size rfl (by kernel_rfl) ?_)
  intro b4 w5 X6 s7 k8 n9
  refine sq (o_pv (.int .u8 (0 : Int)) rfl (by kernel_rfl) ?_)
  refine nil_ ?_
  refine then_normal (K3 _ _ _ _ ?_)
  refine seq_ (fun _ K10 => ?_)
  refine seq_ (fun _ K11 => ?_)
  refine reg_ ?_
  refine sq (o_pv (.int .i64 i) rfl (by kernel_rfl) ?_)
  obtain ⟨h12, hp⟩ := hp
  refine sq (o_pv (.int .i64 (i % (2 : Int))) rfl (x_rem2 (k := .i64) (a := i) (b := (2 : Int)) (i % (2 : Int)) (by kernel_rfl) (by kernel_rfl) h12 (by decide) rfl (wrap_inR (inR_rem h12 (by decide) ri2 (by decide)))) ?_)
  refine sq (o_pv (.bool (decide ((i % (2 : Int)) = (0 : Int)))) rfl (by kernel_rfl) ?_)
  refine nil_ ?_
  refine then_normal (K11 _ _ _ _ ?_)
  refine cond_d ((i % (2 : Int)) = (0 : Int)) (by kernel_rfl) (fun h13 => ?_) (fun h13 => ?_)
  ·
    replace hp := hp.1 h13
    refine seq_ (fun _ K14 => ?_)
    refine reg_ ?_
    refine sq (o_pv (.int .i64 i) rfl (by kernel_rfl) ?_)
    obtain ⟨h15, hp⟩ := hp
    refine sq (o_pv (.int .i64 (i / (2 : Int))) rfl (x_quo2 (k := .i64) (a := i) (b := (2 : Int)) (i / (2 : Int)) (by kernel_rfl) (by kernel_rfl) h15 (by decide) rfl (wrap_inR (inR_quo h15 (by decide) ri2 (by decide)))) ?_)
    obtain ⟨h16, hp⟩ := hp
    refine sq (o_pv (.pointer (some ⟨b4, (i / (2 : Int)).toNat, none⟩)) rfl (x_ixR (k := .i64) (i := i / (2 : Int)) Try.underlying25 Try.sizeOf5 (by kernel_rfl) (by kernel_rfl) h16) ?_)
    refine sq (o_pv (.int .u8 (lget id (i / (2 : Int)))) rfl (x_load1 (by kernel_rfl) Try.isAgg5 (Blk.acell k8.2.1 kid1 h16)) ?_)
    refine sq (o_pv (.int .u8 (ishr .u8 (lget id (i / (2 : Int))) (4 : Int))) rfl (x_shr (k := .u8) (k' := .u64) (a := lget id (i / (2 : Int))) (b := (4 : Int)) (by kernel_rfl) (by kernel_rfl) (by decide)) ?_)
    refine sq (o_pv (.int .u8 (ishr .u8 (lget id (i / (2 : Int))) (4 : Int))) rfl (by kernel_rfl) ?_)
    refine nil_ ?_
    refine then_normal (K14 _ _ _ _ ?_)
    refine wp_ret ?_
    refine then_ret ?_
    have E17 := (Evo.then0 E0 (Step.evo s7))
    refine end_ret hQ (.int .u8 (ishr .u8 (lget id (i / (2 : Int))) (4 : Int))) (by kernel_rfl) ?_
    exact ⟨(ishr .u8 (lget id (i / (2 : Int))) (4 : Int)), hp, E17, rfl, (inR_ishr _ (okArr_get kid1 h16))⟩
  ·
    replace hp := hp.2 h13
    refine wp_skip ?_
    refine then_normal (K10 _ _ _ _ ?_)
    refine seq_ (fun _ K18 => ?_)
    refine reg_ ?_
    refine sq (o_pv (.int .i64 i) rfl (by kernel_rfl) ?_)
    obtain ⟨h19, hp⟩ := hp
    refine sq (o_pv (.int .i64 (i / (2 : Int))) rfl (x_quo2 (k := .i64) (a := i) (b := (2 : Int)) (i / (2 : Int)) (by kernel_rfl) (by kernel_rfl) h19 (by decide) rfl (wrap_inR (inR_quo h19 (by decide) ri2 (by decide)))) ?_)
    obtain ⟨h20, hp⟩ := hp
    refine sq (o_pv (.pointer (some ⟨b4, (i / (2 : Int)).toNat, none⟩)) rfl (x_ixR (k := .i64) (i := i / (2 : Int)) Try.underlying25 Try.sizeOf5 (by kernel_rfl) (by kernel_rfl) h20) ?_)
    refine sq (o_pv (.int .u8 (lget id (i / (2 : Int)))) rfl (x_load1 (by kernel_rfl) Try.isAgg5 (Blk.acell k8.2.1 kid1 h20)) ?_)
    refine sq (o_pv (.int .u8 (iand .u8 (lget id (i / (2 : Int))) (15 : Int))) rfl (x_and (k := .u8) (a := lget id (i / (2 : Int))) (b := (15 : Int)) (by kernel_rfl) (by kernel_rfl)) ?_)
    refine sq (o_pv (.int .u8 (iand .u8 (lget id (i / (2 : Int))) (15 : Int))) rfl (by kernel_rfl) ?_)
    refine nil_ ?_
    refine then_normal (K18 _ _ _ _ ?_)
    refine wp_ret ?_
    have E21 := (Evo.then0 E0 (Step.evo s7))
    refine end_ret hQ (.int .u8 (iand .u8 (lget id (i / (2 : Int))) (15 : Int))) (by kernel_rfl) ?_
    exact ⟨(iand .u8 (lget id (i / (2 : Int))) (15 : Int)), hp, E21, rfl, (inR_iand _ _ _)⟩

def sha_ID_String_p (id : (List Int)) (Q : ByteArray → Prop) : Prop :=
  ((okArr .u8 32 id) → ((0 ≤ (64 : Int) ∧ (1 : Int) * (64 : Int) ≤ 281474976710656) ∧ (∃ (I92 : (List Int) → Int → Prop) (m93 : (List Int) → Int → Nat), (I92 (List.replicate (64 : Int).toNat (default : Int)) (0 : Int)) ∧ ∀ (s56 : (List Int)) (s58 : Int), (I92 s56 s58) → (s56.length ≤ 9223372036854775807) → (inR .i64 s58) → (((s58 < ((List.replicate (64 : Int).toNat (default : Int)).length : Int)) → (sha_ID_digit_p id s58 (fun (r115 : Int) => ((inR .u8 r115) → ((0 ≤ r115 ∧ r115 < ((ByteArray.mk #[48, 49, 50, 51, 52, 53, 54, 55, 56, 57, 97, 98, 99, 100, 101, 102]).size : Int)) ∧ ((inL s56 s58) ∧ ((inR .u8 (lget s56 s58)) → (∀ l136 : List Int, l136 = (lset s56 s58 (bget (ByteArray.mk #[48, 49, 50, 51, 52, 53, 54, 55, 56, 57, 97, 98, 99, 100, 101, 102]) r115)) → ((inR .i64 (s58 + (1 : Int))) ∧ ((I92 l136 (s58 + (1 : Int))) ∧ m93 l136 (s58 + (1 : Int)) < m93 s56 s58)))))))))) ∧ ((¬ (s58 < ((List.replicate (64 : Int).toNat (default : Int)).length : Int))) → Q (strOfNums s56))))))
set_option maxRecDepth 20000 in
set_option maxHeartbeats 4000000 in
theorem sha_ID_String_w {X : List Nat} {w : World} {id : (List Int)} {Q : ByteArray → Prop} (hX0 : Old X w) (kid1 : okArr .u8 32 id) (hp : sha_ID_String_p id Q) :
    Calls Try.prog 10 #[(.agg (id.map (Value.int .u8)).toArray)] w (Ret fun v w' => ∃ (r0 : ByteArray), Q r0 ∧ Evo [] w w' ∧ v = (.string r0) ∧ r0.size ≤ maxLen) := by
  have hXo := hX0
  have E0 : Evo [] w w := RB.refl _ _ _
  have hS : Sub X X := Sub.refl _
  unfold sha_ID_String_p at hp
  refine enter_ Try.func10 rfl 21 [(0, (.agg (id.map (Value.int .u8)).toArray))] (by kernel_rfl) (fun Qe hQ => ?_)
  replace hp := hp kid1
  refine seq_ (fun _ K2 => ?_)
  refine reg_ ?_
  refine sq (o_newX (id.map (Value.int .u8)) 25 (X := X) (B := w.heap.size) E0.size rfl (by kernel_rfl) ?_)
  intro b3 w4 X5 s6 k7 n8
  refine sq (o_pv (.string (ByteArray.mk #[])) rfl (by kernel_rfl) ?_)
  refine nil_ ?_
  refine then_normal (K2 _ _ _ _ ?_)
  refine seq_ (fun _ K9 => ?_)
  refine reg_ ?_
  obtain ⟨h10, hp⟩ := hp
  have E18 := (Evo.then0 E0 (Step.evo s6))
  refine sq (o_makeX (R := (rInt .u8)) (kl := .i64) (kc := .i64) (X := X5) (B := w.heap.size) (.int .u8 (0 : Int)) (64 : Int) E18.size rfl Try.underlying22 (by kernel_rfl) rfl rfl (fun _ _ => ⟨rfl, by decide⟩) (by kernel_rfl) (by kernel_rfl) h10 (by decide) ?_)
  intro a11 n12 w13 X14 s15 O16 n17
  have p19 := n17 _ (OB.old k7)
  refine sq (o_pv (.slice a11 n12 n12) rfl (by kernel_rfl) ?_)
  refine nil_ ?_
  refine then_normal (K9 _ _ _ _ ?_)
  refine seq_ (fun _ K20 => ?_)
  refine seq_ (fun _ K21 => ?_)
  refine reg_ ?_
  refine sq (o_pv (.slice a11 n12 n12) rfl (by kernel_rfl) ?_)
  refine sq (o_pv (.int .i64 ((List.replicate (64 : Int).toNat (default : Int)).length : Int)) rfl (by rw [← show n12 = (List.replicate (64 : Int).toNat (default : Int)).length from O16.1]; kernel_rfl) ?_)
  refine sq (o_pv (.int .i64 (0 : Int)) rfl (by kernel_rfl) ?_)
  refine nil_ ?_
  refine then_normal (K21 _ _ _ _ ?_)
  refine wp_block ?_
  have hXo102 := (Old.step (Old.step hXo s6) s15)
  have E103 := (Evo.then0 E18 (Step.evo s15))
  have hS104 := (Sub.trans (Sub.trans hS (Step.up s6)) (Step.up s15))
  have k105 := (OB.step0 k7 s15)
  obtain ⟨I92, m93, hI94, hp⟩ := hp
  refine loop_ 524048 (fun kq lq w96 => ∃ (X97 : List Nat) (s56 : (List Int)) (s58 : Int), (lq = [(8, (.int .i64 s58))]) ∧ (kq = m93 s56 s58) ∧ (Evo [] w w96) ∧ (Old X97 w96) ∧ (Sub X X97) ∧ (OB ([]) w.heap.size X97 w96 b3 (id.map (Value.int .u8)) 25) ∧ (OS (rInt .u8) ([]) w.heap.size X97 w96 5 a11 n12 n12 s56) ∧ (inR .i64 s58) ∧ (I92 s56 s58)) (m93 (List.replicate (64 : Int).toNat (default : Int)) (0 : Int)) [(8, (.int .i64 (0 : Int)))] (vs_cons (by kernel_rfl) vs_nil) ⟨X14, (List.replicate (64 : Int).toNat (default : Int)), (0 : Int), rfl, rfl, E103, hXo102, hS104, k105, O16, (by decide), hI94⟩ ?_
  rintro _ _ w96 g99 ⟨X97, s56, s58, rfl, rfl, E106, hXo107, hS108, k109, O57, rs59, hI95⟩ Kl100 hA101
  replace hp := hp s56 s58 hI95 (OS.len O57) rs59
  refine seq_ (fun _ K110 => ?_)
  refine reg_ ?_
  refine sq (o_pv (.bool (decide (s58 < ((List.replicate (64 : Int).toNat (default : Int)).length : Int)))) rfl (by kernel_rfl) ?_)
  refine nil_ ?_
  refine then_normal (K110 _ _ _ _ ?_)
  refine seq_ (fun _ K111 => ?_)
  refine cond_d (s58 < ((List.replicate (64 : Int).toNat (default : Int)).length : Int)) (by kernel_rfl) (fun h112 => ?_) (fun h112 => ?_)
  ·
    replace hp := hp.1 h112
    refine wp_skip ?_
    refine then_normal (K111 _ _ _ _ ?_)
    refine seq_ (fun _ K113 => ?_)
    refine wp_block ?_
    refine seq_ (fun _ K114 => ?_)
    refine reg_ ?_
    refine sq (o_pv (.int .i64 s58) rfl (by kernel_rfl) ?_)
    refine sq (o_pv (.int .i64 s58) rfl (by kernel_rfl) ?_)
    refine nil_ ?_
    refine then_normal (K114 _ _ _ _ ?_)
    refine reg_ ?_
    refine sq (o_pv (.slice a11 n12 n12) rfl (by kernel_rfl) ?_)
    refine sq (o_pv (.int .i64 s58) rfl (by kernel_rfl) ?_)
    refine sq (o_pv (.agg (id.map (Value.int .u8)).toArray) rfl (x_loadA id (by kernel_rfl) Try.isAgg25 Try.sizeOf25 kid1 (Blk.awhole k109.2.1)) ?_)
    refine sq (o_pv (.int .i64 s58) rfl (by kernel_rfl) ?_)
    refine sq (o_call 27 #[(.agg (id.map (Value.int .u8)).toArray), (.int .i64 s58)] rfl (x_call Try.call27 (by kernel_rfl)) (sha_ID_digit_w (X := []) (id := id) (i := s58) (Old.nil _) kid1 rs59 hp) ?_)
    rintro _ w116 ⟨r115, hp, e117, rfl, rr119⟩
    have s118 := Step.of0 X97 e117
    replace hp := hp rr119
    obtain ⟨h120, hp⟩ := hp
    refine sq (o_pv (.int .u8 (bget (ByteArray.mk #[48, 49, 50, 51, 52, 53, 54, 55, 56, 57, 97, 98, 99, 100, 101, 102]) r115)) rfl (x_bget (k := .u8) (by kernel_rfl) (by kernel_rfl) Try.underlying9 h120) ?_)
    obtain ⟨h121, hp⟩ := hp
    have O122 := (OS.step0 O57 s118)
    obtain ⟨b123, o124, cs125, ha126, nx127, lt128, ok129, hc130⟩ := Sl.atI (OS.rd O122) s58 h121
    obtain ⟨rfl, re131⟩ := ok129
    replace hp := hp re131
    refine sq (o_pv (.pointer (some ⟨b123, o124 + s58.toNat * 1, none⟩)) rfl (x_ixA (m := n12) (c := n12) (k := .i64) (i := s58) Try.underlying22 Try.sizeOf5 (by rw [← ha126]; kernel_rfl) (by kernel_rfl) ⟨h121.1, by rw [O122.1]; exact h121.2⟩) ?_)
    have E132 := (Evo.then0 E106 e117)
    refine sq (o_stS (o := o124) (v := (.int .u8 (bget (ByteArray.mk #[48, 49, 50, 51, 52, 53, 54, 55, 56, 57, 97, 98, 99, 100, 101, 102]) r115))) s58 (bget (ByteArray.mk #[48, 49, 50, 51, 52, 53, 54, 55, 56, 57, 97, 98, 99, 100, 101, 102]) r115) rfl O122 ha126 (h121) (by kernel_rfl) (by kernel_rfl) Try.sizeOf5 (fun _ => (rInt_mk (bget_u8 _ _))) ?_)
    intro w133 s134 O135
    obtain ⟨l136, ql136⟩ : ∃ y, y = (lset s56 s58 (bget (ByteArray.mk #[48, 49, 50, 51, 52, 53, 54, 55, 56, 57, 97, 98, 99, 100, 101, 102]) r115)) := ⟨_, rfl⟩
    replace hp := hp l136 ql136
    rw [← ql136] at O135
    refine nil_ ?_
    refine blk_normal ?_
    refine then_normal (K113 _ _ _ _ ?_)
    refine reg_ ?_
    obtain ⟨h137, hp⟩ := hp
    refine sq (o_pv (.int .i64 (s58 + (1 : Int))) rfl (x_add2 (k := .i64) (a := s58) (b := (1 : Int)) (s58 + (1 : Int)) (by kernel_rfl) (by kernel_rfl) (wrap_inR h137)) ?_)
    refine sq (o_pv (.int .i64 (s58 + (1 : Int))) rfl (by kernel_rfl) ?_)
    refine nil_ ?_
    have E138 := (Evo.thenW E132 (Step.evo s134) O122.2.2)
    have hXo139 := (Old.step (Old.step hXo107 s118) s134)
    have hS140 := (Sub.trans (Sub.trans hS108 (Step.up s118)) (Step.up s134))
    have k141 := (OB.step (OB.step0 k109 s118) s134 p19)
    refine then_normal (hA101 _ _ _ ⟨_, [(8, (.int .i64 (s58 + (1 : Int))))], hp.2, fit_mk (AgB.mix _ _ _) (by kernel_rfl) (vs_cons (by kernel_rfl) vs_nil), ?_⟩)
    exact ⟨X97, l136, (s58 + (1 : Int)), rfl, rfl, E138, hXo139, hS140, k141, O135, h137, hp.1⟩
  ·
    replace hp := hp.2 h112
    refine wp_exit ?_
    refine then_exit ?_
    refine then_exit ?_
    refine blk_exit ?_
    refine then_normal (K20 _ _ _ _ ?_)
    refine seq_ (fun _ K142 => ?_)
    refine reg_ ?_
    refine sq (o_pv (.slice a11 n12 n12) rfl (by kernel_rfl) ?_)
    have hl143 := OS.len O57
    refine sq (o_pv (.string (strOfNums s56)) rfl (x_b2s_sl (a := a11) (len := n12) (c := n12) s56 Try.underlying22 Try.underlying5 Try.underlying9 (by kernel_rfl) O57.1 (OS.rd O57)) ?_)
    refine sq (o_pv (.string (strOfNums s56)) rfl (by kernel_rfl) ?_)
    refine nil_ ?_
    refine then_normal (K142 _ _ _ _ ?_)
    refine wp_ret ?_
    refine end_ret hQ (.string (strOfNums s56)) (by kernel_rfl) ?_
    exact ⟨(strOfNums s56), hp, E106, rfl, (strOfNums_le hl143)⟩

def sha_fault_p (at_ : Int) (e : Int) (Q : PErr → Prop) : Prop :=
  ((inR .i64 at_) → ((inR .i64 e) → Q (PErr.fault (ByteArray.mk #[100, 105, 103, 105, 116]) at_ e)))
set_option maxRecDepth 20000 in
set_option maxHeartbeats 4000000 in
theorem sha_fault_w {X : List Nat} {w : World} {at_ : Int} {e : Int} {Q : PErr → Prop} (hX0 : Old X w) (rat_1 : inR .i64 at_) (re2 : inR .i64 e) (hp : sha_fault_p at_ e Q) :
    Calls Try.prog 25 #[(.int .i64 at_), (.int .i64 e)] w (Ret fun v w' => ∃ (r0 : PErr), Q r0 ∧ Evo [] w w' ∧ ∃ (vq01 : Value), v = vq01 ∧ (rErr 58 68 70).ok X w' ([vq01]) r0) := by
  have hXo := hX0
  have E0 : Evo [] w w := RB.refl _ _ _
  have hS : Sub X X := Sub.refl _
  unfold sha_fault_p at hp
  refine enter_ Try.func25 rfl 11 [(0, (.int .i64 at_)), (1, (.int .i64 e))] (by kernel_rfl) (fun Qe hQ => ?_)
  replace hp := hp rat_1
  replace hp := hp re2
  refine seq_ (fun _ K3 => ?_)
  refine reg_ ?_
  refine sq (o_pv .nilIface rfl (by kernel_rfl) ?_)
  refine nil_ ?_
  refine then_normal (K3 _ _ _ _ ?_)
  refine seq_ (fun _ K4 => ?_)
  refine reg_ ?_
  refine sq (o_pv (.int .i64 at_) rfl (by kernel_rfl) ?_)
  refine sq (o_pv (.int .i64 e) rfl (by kernel_rfl) ?_)
  refine sq (o_pv (.iface 58 (.int .i64 e)) rfl (by kernel_rfl) ?_)
  refine sq (o_pv (.agg #[(.string (ByteArray.mk #[100, 105, 103, 105, 116])), (.int .i64 at_), (.iface 58 (.int .i64 e))]) rfl (by kernel_rfl) ?_)
  refine sq (o_newX [(.string (ByteArray.mk #[100, 105, 103, 105, 116])), (.int .i64 at_), (.iface 58 (.int .i64 e))] 70 (X := X) (B := w.heap.size) E0.size rfl (by kernel_rfl) ?_)
  intro b5 w6 X7 s8 k9 n10
  refine sq (o_pv (.iface 68 (.pointer (some ⟨b5, 0, none⟩))) rfl (by kernel_rfl) ?_)
  refine sq (o_pv (.iface 68 (.pointer (some ⟨b5, 0, none⟩))) rfl (by kernel_rfl) ?_)
  refine nil_ ?_
  refine then_normal (K4 _ _ _ _ ?_)
  refine wp_ret ?_
  have E11 := (Evo.then0 E0 (Step.evo s8))
  refine end_ret hQ (.iface 68 (.pointer (some ⟨b5, 0, none⟩))) (by kernel_rfl) ?_
  exact ⟨(PErr.fault (ByteArray.mk #[100, 105, 103, 105, 116]) at_ e), hp, E11, (.iface 68 (.pointer (some ⟨b5, 0, none⟩))), rfl, (rErr_fault (OB.notin k9 hX0) k9.2.1 (by decide) rat_1 re2)⟩

def sha_value_p (c : Int) (Q : Int → Bool → Prop) : Prop :=
  ((inR .u8 c) → ((((c ≥ (48 : Int)) ∧ (c ≤ (57 : Int))) → Q ((c - (48 : Int)) % 256) true) ∧ ((¬ ((c ≥ (48 : Int)) ∧ (c ≤ (57 : Int)))) → ((((c ≥ (97 : Int)) ∧ (c ≤ (102 : Int))) → Q ((((c - (97 : Int)) % 256) + (10 : Int)) % 256) true) ∧ ((¬ ((c ≥ (97 : Int)) ∧ (c ≤ (102 : Int)))) → Q (0 : Int) false)))))
set_option maxRecDepth 20000 in
set_option maxHeartbeats 4000000 in
theorem sha_value_w {X : List Nat} {w : World} {c : Int} {Q : Int → Bool → Prop} (hX0 : Old X w) (rc1 : inR .u8 c) (hp : sha_value_p c Q) :
    Calls Try.prog 26 #[(.int .u8 c)] w (Ret fun v w' => ∃ (r0 : Int) (r1 : Bool), Q r0 r1 ∧ Evo [] w w' ∧ v = .tuple #[(.int .u8 r0), (.bool r1)] ∧ inR .u8 r0) := by
  have hXo := hX0
  have E0 : Evo [] w w := RB.refl _ _ _
  have hS : Sub X X := Sub.refl _
  unfold sha_value_p at hp
  refine enter_ Try.func26 rfl 23 [(0, (.int .u8 c))] (by kernel_rfl) (fun Qe hQ => ?_)
  replace hp := hp rc1
  refine seq_ (fun _ K2 => ?_)
  refine reg_ ?_
  refine sq (o_pv (.int .u8 (0 : Int)) rfl (by kernel_rfl) ?_)
  refine sq (o_pv (.bool false) rfl (by kernel_rfl) ?_)
  refine nil_ ?_
  refine then_normal (K2 _ _ _ _ ?_)
  refine seq_ (fun _ K3 => ?_)
  refine wp_block ?_
  refine seq_ (fun _ K4 => ?_)
  refine ground_ ?_
  refine join_ 2032 (fun lq w8 => lq = [(4, (.bool (decide ((c ≥ (48 : Int)) ∧ (c ≤ (57 : Int))))))] ∧ w = w8) (fun Kj6 hJ7 => ?_) ?_
  ·
    refine reg_ ?_
    refine sq (o_pv (.int .u8 c) rfl (by kernel_rfl) ?_)
    by_cases h10 : c ≥ (48 : Int)
    ·
      refine sq (o_pv (.bool true) rfl (x_dt (p := c ≥ (48 : Int)) (by kernel_rfl) h10) ?_)
      refine sq (o_pv (.bool true) rfl (by kernel_rfl) ?_)
      refine sq (o_pv (.int .u8 c) (by kernel_rfl) (by kernel_rfl) ?_)
      refine sq (o_pv (.bool (decide (c ≤ (57 : Int)))) (by kernel_rfl) (by kernel_rfl) ?_)
      refine sq (o_pv (.bool (decide (c ≤ (57 : Int)))) rfl (by kernel_rfl) ?_)
      refine sq (o_pv (.bool (decide (c ≤ (57 : Int)))) rfl (by kernel_rfl) ?_)
      refine nil_ ?_
      refine then_normal (hJ7 _ _ _ ⟨[(4, (.bool (decide ((c ≥ (48 : Int)) ∧ (c ≤ (57 : Int))))))], fit_mk (fun _ _ => rfl) (by kernel_rfl) (vs_cons (Eq.trans (b := (.bool (decide (c ≤ (57 : Int))))) (by kernel_rfl) (dec_d ((and_iff_right h10).trans Iff.rfl)).symm) vs_nil), rfl, rfl⟩)
    ·
      refine sq (o_pv (.bool false) rfl (x_df (p := c ≥ (48 : Int)) (by kernel_rfl) h10) ?_)
      refine sq (o_pv (.bool false) rfl (by kernel_rfl) ?_)
      refine sq (o_not (by kernel_rfl) ?_)
      refine sq (o_not (by kernel_rfl) ?_)
      refine sq (o_pv (.bool false) rfl (by kernel_rfl) ?_)
      refine sq (o_pv (.bool false) rfl (by kernel_rfl) ?_)
      refine nil_ ?_
      refine then_normal (hJ7 _ _ _ ⟨[(4, (.bool (decide ((c ≥ (48 : Int)) ∧ (c ≤ (57 : Int))))))], fit_mk (fun _ _ => rfl) (by kernel_rfl) (vs_cons (Eq.trans (b := (.bool false)) (by kernel_rfl) (dec_f (iff_false_intro (fun h => h10 h.1))).symm) vs_nil), rfl, rfl⟩)
  ·
    rintro _ w8 g9 ⟨rfl, hw⟩
    subst hw
    refine then_normal (K4 _ _ _ _ ?_)
    refine cond_d ((c ≥ (48 : Int)) ∧ (c ≤ (57 : Int))) (by kernel_rfl) (fun h11 => ?_) (fun h11 => ?_)
    ·
      replace hp := hp.1 h11
      refine seq_ (fun _ K12 => ?_)
      refine reg_ ?_
      refine sq (o_pv (.int .u8 c) rfl (by kernel_rfl) ?_)
      refine sq (o_pv (.int .u8 ((c - (48 : Int)) % 256)) rfl (x_sub2 (k := .u8) (a := c) (b := (48 : Int)) ((c - (48 : Int)) % 256) (by kernel_rfl) (by kernel_rfl) (wrap_u8_mod _)) ?_)
      refine sq (o_pv (.int .u8 ((c - (48 : Int)) % 256)) rfl (by kernel_rfl) ?_)
      refine sq (o_pv (.bool true) rfl (by kernel_rfl) ?_)
      refine nil_ ?_
      refine then_normal (K12 _ _ _ _ ?_)
      refine wp_ret ?_
      refine blk_ret ?_
      refine then_ret ?_
      refine end_ret hQ (.tuple #[(.int .u8 ((c - (48 : Int)) % 256)), (.bool true)]) (by kernel_rfl) ?_
      exact ⟨((c - (48 : Int)) % 256), true, hp, E0, rfl, (inR_u8_mod _)⟩
    ·
      replace hp := hp.2 h11
      refine seq_ (fun _ K13 => ?_)
      refine ground_ ?_
      refine join_ 1040384 (fun lq w17 => lq = [(13, (.bool (decide ((c ≥ (97 : Int)) ∧ (c ≤ (102 : Int))))))] ∧ w = w17) (fun Kj15 hJ16 => ?_) ?_
      ·
        refine reg_ ?_
        refine sq (o_pv (.int .u8 c) rfl (by kernel_rfl) ?_)
        by_cases h19 : c ≥ (97 : Int)
        ·
          refine sq (o_pv (.bool true) rfl (x_dt (p := c ≥ (97 : Int)) (by kernel_rfl) h19) ?_)
          refine sq (o_pv (.bool true) rfl (by kernel_rfl) ?_)
          refine sq (o_pv (.int .u8 c) (by kernel_rfl) (by kernel_rfl) ?_)
          refine sq (o_pv (.bool (decide (c ≤ (102 : Int)))) (by kernel_rfl) (by kernel_rfl) ?_)
          refine sq (o_pv (.bool (decide (c ≤ (102 : Int)))) rfl (by kernel_rfl) ?_)
          refine sq (o_pv (.bool (decide (c ≤ (102 : Int)))) rfl (by kernel_rfl) ?_)
          refine nil_ ?_
          refine then_normal (hJ16 _ _ _ ⟨[(13, (.bool (decide ((c ≥ (97 : Int)) ∧ (c ≤ (102 : Int))))))], fit_mk (fun _ _ => rfl) (by kernel_rfl) (vs_cons (Eq.trans (b := (.bool (decide (c ≤ (102 : Int))))) (by kernel_rfl) (dec_d ((and_iff_right h19).trans Iff.rfl)).symm) vs_nil), rfl, rfl⟩)
        ·
          refine sq (o_pv (.bool false) rfl (x_df (p := c ≥ (97 : Int)) (by kernel_rfl) h19) ?_)
          refine sq (o_pv (.bool false) rfl (by kernel_rfl) ?_)
          refine sq (o_not (by kernel_rfl) ?_)
          refine sq (o_not (by kernel_rfl) ?_)
          refine sq (o_pv (.bool false) rfl (by kernel_rfl) ?_)
          refine sq (o_pv (.bool false) rfl (by kernel_rfl) ?_)
          refine nil_ ?_
          refine then_normal (hJ16 _ _ _ ⟨[(13, (.bool (decide ((c ≥ (97 : Int)) ∧ (c ≤ (102 : Int))))))], fit_mk (fun _ _ => rfl) (by kernel_rfl) (vs_cons (Eq.trans (b := (.bool false)) (by kernel_rfl) (dec_f (iff_false_intro (fun h => h19 h.1))).symm) vs_nil), rfl, rfl⟩)
      ·
        rintro _ w17 g18 ⟨rfl, hw⟩
        subst hw
        refine then_normal (K13 _ _ _ _ ?_)
        refine cond_d ((c ≥ (97 : Int)) ∧ (c ≤ (102 : Int))) (by kernel_rfl) (fun h20 => ?_) (fun h20 => ?_)
        ·
          replace hp := hp.1 h20
          refine seq_ (fun _ K21 => ?_)
          refine reg_ ?_
          refine sq (o_pv (.int .u8 c) rfl (by kernel_rfl) ?_)
          refine sq (o_pv (.int .u8 ((c - (97 : Int)) % 256)) rfl (x_sub2 (k := .u8) (a := c) (b := (97 : Int)) ((c - (97 : Int)) % 256) (by kernel_rfl) (by kernel_rfl) (wrap_u8_mod _)) ?_)
          refine sq (o_pv (.int .u8 ((((c - (97 : Int)) % 256) + (10 : Int)) % 256)) rfl (x_add2 (k := .u8) (a := (c - (97 : Int)) % 256) (b := (10 : Int)) ((((c - (97 : Int)) % 256) + (10 : Int)) % 256) (by kernel_rfl) (by kernel_rfl) (wrap_u8_mod _)) ?_)
          refine sq (o_pv (.int .u8 ((((c - (97 : Int)) % 256) + (10 : Int)) % 256)) rfl (by kernel_rfl) ?_)
          refine sq (o_pv (.bool true) rfl (by kernel_rfl) ?_)
          refine nil_ ?_
          refine then_normal (K21 _ _ _ _ ?_)
          refine wp_ret ?_
          refine blk_ret ?_
          refine then_ret ?_
          refine end_ret hQ (.tuple #[(.int .u8 ((((c - (97 : Int)) % 256) + (10 : Int)) % 256)), (.bool true)]) (by kernel_rfl) ?_
          exact ⟨((((c - (97 : Int)) % 256) + (10 : Int)) % 256), true, hp, E0, rfl, (inR_u8_mod _)⟩
        ·
          replace hp := hp.2 h20
          refine wp_skip ?_
          refine blk_normal ?_
          refine then_normal (K3 _ _ _ _ ?_)
          refine seq_ (fun _ K22 => ?_)
          refine reg_ ?_
          refine sq (o_pv (.int .u8 (0 : Int)) rfl (by kernel_rfl) ?_)
          refine sq (o_pv (.bool false) rfl (by kernel_rfl) ?_)
          refine nil_ ?_
          refine then_normal (K22 _ _ _ _ ?_)
          refine wp_ret ?_
          refine end_ret hQ (.tuple #[(.int .u8 (0 : Int)), (.bool false)]) (by kernel_rfl) ?_
          exact ⟨(0 : Int), false, hp, E0, rfl, (by decide)⟩

def sha_Parse_p (s : ByteArray) (Q : (List Int) → PErr → Prop) : Prop :=
  ((s.size ≤ maxLen) → ((((s.size : Int) < (64 : Int)) → (sha_fault_p (s.size : Int) (3 : Int) (fun (r14 : PErr) => (∀ l25 : List Int, l25 = ([0, 0, 0, 0, 0, 0, 0, 0, 0, 0, 0, 0, 0, 0, 0, 0, 0, 0, 0, 0, 0, 0, 0, 0, 0, 0, 0, 0, 0, 0, 0, 0] : List Int) → Q l25 r14)))) ∧ ((¬ ((s.size : Int) < (64 : Int))) → ((((s.size : Int) > (64 : Int)) → (sha_fault_p (s.size : Int) (4 : Int) (fun (r35 : PErr) => (∀ l46 : List Int, l46 = ([0, 0, 0, 0, 0, 0, 0, 0, 0, 0, 0, 0, 0, 0, 0, 0, 0, 0, 0, 0, 0, 0, 0, 0, 0, 0, 0, 0, 0, 0, 0, 0] : List Int) → Q l46 r35)))) ∧ ((¬ ((s.size : Int) > (64 : Int))) → (∃ (I171 : Int → (List Int) → Prop) (m172 : Int → (List Int) → Nat), (I171 (0 : Int) (List.replicate 32 (0 : Int))) ∧ ∀ (s116 : Int) (f118 : (List Int)), (I171 s116 f118) → (inR .i64 s116) → (okArr .u8 32 f118) → (((s116 < (64 : Int)) → ((0 ≤ s116 ∧ s116 < (s.size : Int)) ∧ (sha_value_p (bget s s116) (fun (r196 : Int) (r197 : Bool) => ((inR .u8 r196) → ((((!r197) = true) → (sha_fault_p s116 (2 : Int) (fun (r207 : PErr) => (∀ l219 : List Int, l219 = ([0, 0, 0, 0, 0, 0, 0, 0, 0, 0, 0, 0, 0, 0, 0, 0, 0, 0, 0, 0, 0, 0, 0, 0, 0, 0, 0, 0, 0, 0, 0, 0] : List Int) → Q l219 r207)))) ∧ (((!r197) = false) → ((0 ≤ s116) ∧ ((0 ≤ s116) ∧ ((0 ≤ (s116 / (2 : Int)) ∧ (s116 / (2 : Int)) < 32) ∧ ((0 ≤ (s116 / (2 : Int)) ∧ (s116 / (2 : Int)) < 32) ∧ (∀ l234 : List Int, l234 = (lset f118 (s116 / (2 : Int)) (ior .u8 (ishl .u8 (lget f118 (s116 / (2 : Int))) (4 : Int)) r196)) → ((inR .i64 (s116 + (1 : Int))) ∧ ((I171 (s116 + (1 : Int)) l234) ∧ m172 (s116 + (1 : Int)) l234 < m172 s116 f118)))))))))))))) ∧ ((¬ (s116 < (64 : Int))) → Q f118 PErr.nil))))))))
set_option maxRecDepth 20000 in
set_option maxHeartbeats 4000000 in
theorem sha_Parse_w {X : List Nat} {w : World} {s : ByteArray} {Q : (List Int) → PErr → Prop} (hX0 : Old X w) (zs1 : s.size ≤ maxLen) (hp : sha_Parse_p s Q) :
    Calls Try.prog 9 #[(.string s)] w (Ret fun v w' => ∃ (r0 : (List Int)) (r1 : PErr), Q r0 r1 ∧ Evo [] w w' ∧ ∃ (vq12 : Value), v = .tuple #[(.agg (r0.map (Value.int .u8)).toArray), vq12] ∧ okArr .u8 32 r0 ∧ (rErr 58 68 70).ok X w' ([vq12]) r1) := by
  have hXo := hX0
  have E0 : Evo [] w w := RB.refl _ _ _
  have hS : Sub X X := Sub.refl _
  unfold sha_Parse_p at hp
  refine enter_ Try.func9 rfl 49 [(0, (.string s))] (by kernel_rfl) (fun Qe hQ => ?_)
  replace hp := hp zs1
  refine seq_ (fun _ K2 => ?_)
  refine reg_ ?_
  refine sq (o_newX ((List.replicate 32 (0 : Int)).map (Value.int .u8)) 25 (X := X) (B := w.heap.size) E0.size rfl (by kernel_rfl) ?_)
  intro b3 w4 X5 s6 k7 n8
  refine sq (o_pv .nilIface rfl (by kernel_rfl) ?_)
  refine nil_ ?_
  refine then_normal (K2 _ _ _ _ ?_)
  refine seq_ (fun _ K9 => ?_)
  refine seq_ (fun _ K10 => ?_)
  refine reg_ ?_
  refine sq (o_pv (.string s) rfl (by kernel_rfl) ?_)
  refine sq (o_pv (.int .i64 (s.size : Int)) rfl (by kernel_rfl) ?_)
  refine sq (o_pv (.bool (decide ((s.size : Int) < (64 : Int)))) rfl (by kernel_rfl) ?_)
  refine nil_ ?_
  refine then_normal (K10 _ _ _ _ ?_)
  refine cond_d ((s.size : Int) < (64 : Int)) (by kernel_rfl) (fun h11 => ?_) (fun h11 => ?_)
  ·
    replace hp := hp.1 h11
    refine seq_ (fun _ K12 => ?_)
    refine reg_ ?_
    refine sq (o_pv (.agg (([0, 0, 0, 0, 0, 0, 0, 0, 0, 0, 0, 0, 0, 0, 0, 0, 0, 0, 0, 0, 0, 0, 0, 0, 0, 0, 0, 0, 0, 0, 0, 0] : List Int).map (Value.int .u8)).toArray) rfl (by kernel_rfl) ?_)
    refine sq (o_pv (.string s) rfl (by kernel_rfl) ?_)
    refine sq (o_pv (.int .i64 (s.size : Int)) rfl (by kernel_rfl) ?_)
    have hXo13 := (Old.step hXo s6)
    refine sq (o_call 25 #[(.int .i64 (s.size : Int)), (.int .i64 (3 : Int))] rfl (x_call Try.call25 (by kernel_rfl)) (sha_fault_w (X := X5) (at_ := (s.size : Int)) (e := (3 : Int)) hXo13 (inR_size zs1) (by decide) hp) ?_)
    rintro vr18 w15 ⟨r14, hp, e16, _, rfl, hr19⟩
    have s17 := Step.of0 X5 e16
    have k20 := (OB.step0 k7 s17)
    have E21 := (Evo.then0 (Evo.then0 E0 (Step.evo s6)) e16)
    refine sq (o_stW (k := .u8) (e := (List.replicate 32 (0 : Int))) (e' := ([0, 0, 0, 0, 0, 0, 0, 0, 0, 0, 0, 0, 0, 0, 0, 0, 0, 0, 0, 0, 0, 0, 0, 0, 0, 0, 0, 0, 0, 0, 0, 0] : List Int)) rfl k20 (by kernel_rfl) (by kernel_rfl) Try.sizeOf25 (okArr_rep _ _) (okArr_lit (by decide)) ?_)
    intro w22 s23 k24
    obtain ⟨l25, ql25⟩ : ∃ y, y = ([0, 0, 0, 0, 0, 0, 0, 0, 0, 0, 0, 0, 0, 0, 0, 0, 0, 0, 0, 0, 0, 0, 0, 0, 0, 0, 0, 0, 0, 0, 0, 0] : List Int) := ⟨_, rfl⟩
    replace hp := hp l25 ql25
    rw [← ql25] at k24
    have ok26 : okArr .u8 32 l25 := by rw [ql25]; exact (okArr_lit (by decide))
    refine sq (o_pv vr18 rfl (by kernel_rfl) ?_)
    refine nil_ ?_
    refine then_normal (K12 _ _ _ _ ?_)
    refine wp_ret ?_
    refine then_ret ?_
    have hr27 := (Rep.step (rErr 58 68 70) hr19 s23)
    have hS28 := (Sub.trans (Sub.trans (Sub.trans hS (Step.up s6)) (Step.up s17)) (Step.up s23))
    have E29 := (Evo.thenW E21 (Step.evo s23) k20.2.2)
    refine end_ret hQ (.tuple #[(.agg (l25.map (Value.int .u8)).toArray), vr18]) (rs2 Try.results9 (rs_aggA (e := l25) (by kernel_rfl) Try.isAgg25 Try.sizeOf25 ok26 k24.2.1) (rs_tmp (by kernel_rfl))) ?_
    exact ⟨l25, r14, hp, E29, vr18, rfl, ok26, (Rep.less (rErr 58 68 70) hr27 hS28)⟩
  ·
    replace hp := hp.2 h11
    refine wp_skip ?_
    refine then_normal (K9 _ _ _ _ ?_)
    refine seq_ (fun _ K30 => ?_)
    refine seq_ (fun _ K31 => ?_)
    refine reg_ ?_
    refine sq (o_pv (.string s) rfl (by kernel_rfl) ?_)
    refine sq (o_pv (.int .i64 (s.size : Int)) rfl (by kernel_rfl) ?_)
    refine sq (o_pv (.bool (decide ((s.size : Int) > (64 : Int)))) rfl (by kernel_rfl) ?_)
    refine nil_ ?_
    refine then_normal (K31 _ _ _ _ ?_)
    refine cond_d ((s.size : Int) > (64 : Int)) (by kernel_rfl) (fun h32 => ?_) (fun h32 => ?_)
    ·
      replace hp := hp.1 h32
      refine seq_ (fun _ K33 => ?_)
      refine reg_ ?_
      refine sq (o_pv (.agg (([0, 0, 0, 0, 0, 0, 0, 0, 0, 0, 0, 0, 0, 0, 0, 0, 0, 0, 0, 0, 0, 0, 0, 0, 0, 0, 0, 0, 0, 0, 0, 0] : List Int).map (Value.int .u8)).toArray) rfl (by kernel_rfl) ?_)
      refine sq (o_pv (.string s) rfl (by kernel_rfl) ?_)
      refine sq (o_pv (.int .i64 (s.size : Int)) rfl (by kernel_rfl) ?_)
      have hXo34 := (Old.step hXo s6)
      refine sq (o_call 25 #[(.int .i64 (s.size : Int)), (.int .i64 (4 : Int))] rfl (x_call Try.call25 (by kernel_rfl)) (sha_fault_w (X := X5) (at_ := (s.size : Int)) (e := (4 : Int)) hXo34 (inR_size zs1) (by decide) hp) ?_)
      rintro vr39 w36 ⟨r35, hp, e37, _, rfl, hr40⟩
      have s38 := Step.of0 X5 e37
      have k41 := (OB.step0 k7 s38)
      have E42 := (Evo.then0 (Evo.then0 E0 (Step.evo s6)) e37)
      refine sq (o_stW (k := .u8) (e := (List.replicate 32 (0 : Int))) (e' := ([0, 0, 0, 0, 0, 0, 0, 0, 0, 0, 0, 0, 0, 0, 0, 0, 0, 0, 0, 0, 0, 0, 0, 0, 0, 0, 0, 0, 0, 0, 0, 0] : List Int)) rfl k41 (by kernel_rfl) (by kernel_rfl) Try.sizeOf25 (okArr_rep _ _) (okArr_lit (by decide)) ?_)
      intro w43 s44 k45
      obtain ⟨l46, ql46⟩ : ∃ y, y = ([0, 0, 0, 0, 0, 0, 0, 0, 0, 0, 0, 0, 0, 0, 0, 0, 0, 0, 0, 0, 0, 0, 0, 0, 0, 0, 0, 0, 0, 0, 0, 0] : List Int) := ⟨_, rfl⟩
      replace hp := hp l46 ql46
      rw [← ql46] at k45
      have ok47 : okArr .u8 32 l46 := by rw [ql46]; exact (okArr_lit (by decide))
      refine sq (o_pv vr39 rfl (by kernel_rfl) ?_)
      refine nil_ ?_
      refine then_normal (K33 _ _ _ _ ?_)
      refine wp_ret ?_
      refine then_ret ?_
      have hr48 := (Rep.step (rErr 58 68 70) hr40 s44)
      have hS49 := (Sub.trans (Sub.trans (Sub.trans hS (Step.up s6)) (Step.up s38)) (Step.up s44))
      have E50 := (Evo.thenW E42 (Step.evo s44) k41.2.2)
      refine end_ret hQ (.tuple #[(.agg (l46.map (Value.int .u8)).toArray), vr39]) (rs2 Try.results9 (rs_aggA (e := l46) (by kernel_rfl) Try.isAgg25 Try.sizeOf25 ok47 k45.2.1) (rs_tmp (by kernel_rfl))) ?_
      exact ⟨l46, r35, hp, E50, vr39, rfl, ok47, (Rep.less (rErr 58 68 70) hr48 hS49)⟩
    ·
      replace hp := hp.2 h32
      refine wp_skip ?_
      refine then_normal (K30 _ _ _ _ ?_)
      refine seq_ (fun _ K51 => ?_)
      refine reg_ ?_
      have E58 := (Evo.then0 E0 (Step.evo s6))
      refine sq (o_newX ((List.replicate 32 (0 : Int)).map (Value.int .u8)) 25 (X := X5) (B := w.heap.size) E58.size rfl (by kernel_rfl) ?_)
      intro b52 w53 X54 s55 k56 n57
      have p59 := n57 _ (OB.old k7)
      refine nil_ ?_
      refine then_normal (K51 _ _ _ _ ?_)
      refine seq_ (fun _ K60 => ?_)
      refine seq_ (fun _ K61 => ?_)
      refine reg_ ?_
      refine sq (o_pv (.int .i64 (0 : Int)) rfl (by kernel_rfl) ?_)
      refine nil_ ?_
      refine then_normal (K61 _ _ _ _ ?_)
      refine wp_block ?_
      have hXo181 := (Old.step (Old.step hXo s6) s55)
      have E182 := (Evo.then0 E58 (Step.evo s55))
      have hS183 := (Sub.trans (Sub.trans hS (Step.up s6)) (Step.up s55))
      have k184 := (OB.step0 k7 s55)
      obtain ⟨I171, m172, hI173, hp⟩ := hp
      refine loop_ 281474972516584 (fun kq lq w175 => ∃ (X176 : List Nat) (s116 : Int) (f118 : (List Int)), (lq = [(22, (.int .i64 s116))]) ∧ (kq = m172 s116 f118) ∧ (Evo [] w w175) ∧ (Old X176 w175) ∧ (Sub X X176) ∧ (OB ([]) w.heap.size X176 w175 b3 ((List.replicate 32 (0 : Int)).map (Value.int .u8)) 25) ∧ (OB ([]) w.heap.size X176 w175 b52 (f118.map (Value.int .u8)) 25) ∧ (inR .i64 s116) ∧ (okArr .u8 32 f118) ∧ (I171 s116 f118)) (m172 (0 : Int) (List.replicate 32 (0 : Int))) [(22, (.int .i64 (0 : Int)))] (vs_cons (by kernel_rfl) vs_nil) ⟨X54, (0 : Int), (List.replicate 32 (0 : Int)), rfl, rfl, E182, hXo181, hS183, k184, k56, (by decide), (okArr_rep _ _), hI173⟩ ?_
      rintro _ _ w175 g178 ⟨X176, s116, f118, rfl, rfl, E185, hXo186, hS187, k188, k120, rs117, kf119, hI174⟩ Kl179 hA180
      replace hp := hp s116 f118 hI174 rs117 kf119
      refine seq_ (fun _ K189 => ?_)
      refine reg_ ?_
      refine sq (o_pv (.bool (decide (s116 < (64 : Int)))) rfl (by kernel_rfl) ?_)
      refine nil_ ?_
      refine then_normal (K189 _ _ _ _ ?_)
      refine seq_ (fun _ K190 => ?_)
      refine cond_d (s116 < (64 : Int)) (by kernel_rfl) (fun h191 => ?_) (fun h191 => ?_)
      ·
        replace hp := hp.1 h191
        refine wp_skip ?_
        refine then_normal (K190 _ _ _ _ ?_)
        refine seq_ (fun _ K192 => ?_)
        refine wp_block ?_
        refine seq_ (fun _ K193 => ?_)
        refine reg_ ?_
        refine sq (o_pv (.int .i64 s116) rfl (by kernel_rfl) ?_)
        refine sq (o_pv (.int .i64 s116) rfl (by kernel_rfl) ?_)
        refine nil_ ?_
        refine then_normal (K193 _ _ _ _ ?_)
        refine seq_ (fun _ K194 => ?_)
        refine reg_ ?_
        refine sq (o_pv (.string s) rfl (by kernel_rfl) ?_)
        refine sq (o_pv (.int .i64 s116) rfl (by kernel_rfl) ?_)
        obtain ⟨h195, hp⟩ := hp
        refine sq (o_pv (.int .u8 (bget s s116)) rfl (x_bget (k := .i64) (by kernel_rfl) (by kernel_rfl) Try.underlying9 h195) ?_)
        refine sq (o_call 26 #[(.int .u8 (bget s s116))] rfl (x_call Try.call26 (by kernel_rfl)) (sha_value_w (X := []) (c := bget s s116) (Old.nil _) (bget_u8 _ _) hp) ?_)
        rintro _ w198 ⟨r196, r197, hp, e199, rfl, rr201⟩
        have s200 := Step.of0 X176 e199
        replace hp := hp rr201
        refine sq (o_pv (.tuple #[(.int .u8 r196), (.bool r197)]) rfl (by kernel_rfl) ?_)
        refine sq (o_pv (.int .u8 r196) rfl (by kernel_rfl) ?_)
        refine sq (o_pv (.bool r197) rfl (by kernel_rfl) ?_)
        refine sq (o_pv (.int .u8 r196) rfl (by kernel_rfl) ?_)
        refine sq (o_pv (.bool r197) rfl (by kernel_rfl) ?_)
        refine nil_ ?_
        refine then_normal (K194 _ _ _ _ ?_)
        refine seq_ (fun _ K202 => ?_)
        refine seq_ (fun _ K203 => ?_)
        refine reg_ ?_
        refine sq (o_pv (.bool r197) rfl (by kernel_rfl) ?_)
        refine sq (o_pv (.bool (!r197)) rfl (by kernel_rfl) ?_)
        refine nil_ ?_
        refine then_normal (K203 _ _ _ _ ?_)
        refine cond_b (!r197) (by kernel_rfl) (fun h204 => ?_) (fun h204 => ?_)
        ·
          replace hp := hp.1 h204
          refine seq_ (fun _ K205 => ?_)
          refine reg_ ?_
          refine sq (o_pv (.agg (([0, 0, 0, 0, 0, 0, 0, 0, 0, 0, 0, 0, 0, 0, 0, 0, 0, 0, 0, 0, 0, 0, 0, 0, 0, 0, 0, 0, 0, 0, 0, 0] : List Int).map (Value.int .u8)).toArray) rfl (by kernel_rfl) ?_)
          refine sq (o_pv (.int .i64 s116) rfl (by kernel_rfl) ?_)
          have hXo206 := (Old.step hXo186 s200)
          refine sq (o_call 25 #[(.int .i64 s116), (.int .i64 (2 : Int))] rfl (x_call Try.call25 (by kernel_rfl)) (sha_fault_w (X := X176) (at_ := s116) (e := (2 : Int)) hXo206 rs117 (by decide) hp) ?_)
          rintro vr211 w208 ⟨r207, hp, e209, _, rfl, hr212⟩
          have s210 := Step.of0 X176 e209
          have k213 := (OB.step0 (OB.step0 k188 s200) s210)
          have k214 := (OB.step0 (OB.step0 k120 s200) s210)
          have E215 := (Evo.then0 (Evo.then0 E185 e199) e209)
          refine sq (o_stW (k := .u8) (e := (List.replicate 32 (0 : Int))) (e' := ([0, 0, 0, 0, 0, 0, 0, 0, 0, 0, 0, 0, 0, 0, 0, 0, 0, 0, 0, 0, 0, 0, 0, 0, 0, 0, 0, 0, 0, 0, 0, 0] : List Int)) rfl k213 (by kernel_rfl) (by kernel_rfl) Try.sizeOf25 (okArr_rep _ _) (okArr_lit (by decide)) ?_)
          intro w216 s217 k218
          obtain ⟨l219, ql219⟩ : ∃ y, y = ([0, 0, 0, 0, 0, 0, 0, 0, 0, 0, 0, 0, 0, 0, 0, 0, 0, 0, 0, 0, 0, 0, 0, 0, 0, 0, 0, 0, 0, 0, 0, 0] : List Int) := ⟨_, rfl⟩
          replace hp := hp l219 ql219
          rw [← ql219] at k218
          have ok220 : okArr .u8 32 l219 := by rw [ql219]; exact (okArr_lit (by decide))
          refine sq (o_pv vr211 rfl (by kernel_rfl) ?_)
          refine nil_ ?_
          refine then_normal (K205 _ _ _ _ ?_)
          refine wp_ret ?_
          refine then_ret ?_
          refine blk_ret ?_
          refine then_ret ?_
          refine then_ret ?_
          refine blk_ret ?_
          refine then_ret ?_
          have hr221 := (Rep.step (rErr 58 68 70) hr212 s217)
          have hS222 := (Sub.trans (Sub.trans (Sub.trans hS187 (Step.up s200)) (Step.up s210)) (Step.up s217))
          have E223 := (Evo.thenW E215 (Step.evo s217) k213.2.2)
          refine end_ret hQ (.tuple #[(.agg (l219.map (Value.int .u8)).toArray), vr211]) (rs2 Try.results9 (rs_aggA (e := l219) (by kernel_rfl) Try.isAgg25 Try.sizeOf25 ok220 k218.2.1) (rs_tmp (by kernel_rfl))) ?_
          exact ⟨l219, r207, hp, E223, vr211, rfl, ok220, (Rep.less (rErr 58 68 70) hr221 hS222)⟩
        ·
          replace hp := hp.2 h204
          refine wp_skip ?_
          refine then_normal (K202 _ _ _ _ ?_)
          refine reg_ ?_
          refine sq (o_pv (.int .i64 s116) rfl (by kernel_rfl) ?_)
          obtain ⟨h224, hp⟩ := hp
          refine sq (o_pv (.int .i64 (s116 / (2 : Int))) rfl (x_quo2 (k := .i64) (a := s116) (b := (2 : Int)) (s116 / (2 : Int)) (by kernel_rfl) (by kernel_rfl) h224 (by decide) rfl (wrap_inR (inR_quo h224 (by decide) rs117 (by decide)))) ?_)
          refine sq (o_pv (.int .i64 s116) rfl (by kernel_rfl) ?_)
          obtain ⟨h225, hp⟩ := hp
          refine sq (o_pv (.int .i64 (s116 / (2 : Int))) rfl (x_quo2 (k := .i64) (a := s116) (b := (2 : Int)) (s116 / (2 : Int)) (by kernel_rfl) (by kernel_rfl) h225 (by decide) rfl (wrap_inR (inR_quo h225 (by decide) rs117 (by decide)))) ?_)
          obtain ⟨h226, hp⟩ := hp
          refine sq (o_pv (.pointer (some ⟨b52, (s116 / (2 : Int)).toNat, none⟩)) rfl (x_ixR (k := .i64) (i := s116 / (2 : Int)) Try.underlying25 Try.sizeOf5 (by kernel_rfl) (by kernel_rfl) h226) ?_)
          have k227 := (OB.step0 k120 s200)
          refine sq (o_pv (.int .u8 (lget f118 (s116 / (2 : Int)))) rfl (x_load1 (by kernel_rfl) Try.isAgg5 (Blk.acell k227.2.1 kf119 h226)) ?_)
          refine sq (o_pv (.int .u8 (ishl .u8 (lget f118 (s116 / (2 : Int))) (4 : Int))) rfl (x_shl (k := .u8) (k' := .u64) (a := lget f118 (s116 / (2 : Int))) (b := (4 : Int)) (by kernel_rfl) (by kernel_rfl) (by decide)) ?_)
          refine sq (o_pv (.int .u8 r196) rfl (by kernel_rfl) ?_)
          refine sq (o_pv (.int .u8 (ior .u8 (ishl .u8 (lget f118 (s116 / (2 : Int))) (4 : Int)) r196)) rfl (x_or (k := .u8) (a := ishl .u8 (lget f118 (s116 / (2 : Int))) (4 : Int)) (b := r196) (by kernel_rfl) (by kernel_rfl)) ?_)
          obtain ⟨h228, hp⟩ := hp
          refine sq (o_pv (.pointer (some ⟨b52, (s116 / (2 : Int)).toNat, none⟩)) rfl (x_ixR (k := .i64) (i := s116 / (2 : Int)) Try.underlying25 Try.sizeOf5 (by kernel_rfl) (by kernel_rfl) h228) ?_)
          have k229 := (OB.step0 k188 s200)
          have E230 := (Evo.then0 E185 e199)
          refine sq (o_stA (k := .u8) (i := s116 / (2 : Int)) (v := ior .u8 (ishl .u8 (lget f118 (s116 / (2 : Int))) (4 : Int)) r196) (e := f118) rfl k227 (by kernel_rfl) (by kernel_rfl) Try.sizeOf5 kf119 h228 ?_)
          intro w231 s232 k233
          obtain ⟨l234, ql234⟩ : ∃ y, y = (lset f118 (s116 / (2 : Int)) (ior .u8 (ishl .u8 (lget f118 (s116 / (2 : Int))) (4 : Int)) r196)) := ⟨_, rfl⟩
          replace hp := hp l234 ql234
          rw [← ql234] at k233
          have ok235 : okArr .u8 32 l234 := by rw [ql234]; exact (okArr_set kf119 (inR_ior _ _ _))
          refine nil_ ?_
          refine blk_normal ?_
          refine then_normal (K192 _ _ _ _ ?_)
          refine reg_ ?_
          obtain ⟨h236, hp⟩ := hp
          refine sq (o_pv (.int .i64 (s116 + (1 : Int))) rfl (x_add2 (k := .i64) (a := s116) (b := (1 : Int)) (s116 + (1 : Int)) (by kernel_rfl) (by kernel_rfl) (wrap_inR h236)) ?_)
          refine sq (o_pv (.int .i64 (s116 + (1 : Int))) rfl (by kernel_rfl) ?_)
          refine nil_ ?_
          have E237 := (Evo.thenW E230 (Step.evo s232) k227.2.2)
          have hXo238 := (Old.step (Old.step hXo186 s200) s232)
          have hS239 := (Sub.trans (Sub.trans hS187 (Step.up s200)) (Step.up s232))
          have k240 := (OB.step k229 s232 p59)
          refine then_normal (hA180 _ _ _ ⟨_, [(22, (.int .i64 (s116 + (1 : Int))))], hp.2, fit_mk (AgB.mix _ _ _) (by kernel_rfl) (vs_cons (by kernel_rfl) vs_nil), ?_⟩)
          exact ⟨X176, (s116 + (1 : Int)), l234, rfl, rfl, E237, hXo238, hS239, k240, k233, h236, ok235, hp.1⟩
      ·
        replace hp := hp.2 h191
        refine wp_exit ?_
        refine then_exit ?_
        refine then_exit ?_
        refine blk_exit ?_
        refine then_normal (K60 _ _ _ _ ?_)
        refine seq_ (fun _ K241 => ?_)
        refine reg_ ?_
        refine sq (o_pv (.agg (f118.map (Value.int .u8)).toArray) rfl (x_loadA f118 (by kernel_rfl) Try.isAgg25 Try.sizeOf25 kf119 (Blk.awhole k120.2.1)) ?_)
        refine sq (o_stW (k := .u8) (e := (List.replicate 32 (0 : Int))) (e' := f118) rfl k188 (by kernel_rfl) (by kernel_rfl) Try.sizeOf25 (okArr_rep _ _) kf119 ?_)
        intro w242 s243 k244
        refine sq (o_pv .nilIface rfl (by kernel_rfl) ?_)
        refine nil_ ?_
        refine then_normal (K241 _ _ _ _ ?_)
        refine wp_ret ?_
        have E245 := (Evo.thenW E185 (Step.evo s243) k188.2.2)
        refine end_ret hQ (.tuple #[(.agg (f118.map (Value.int .u8)).toArray), .nilIface]) (rs2 Try.results9 (rs_aggA (e := f118) (by kernel_rfl) Try.isAgg25 Try.sizeOf25 kf119 k244.2.1) (rs_tmp (by kernel_rfl))) ?_
        exact ⟨f118, PErr.nil, hp, E245, .nilIface, rfl, kf119, rErr_nil⟩

def sha_Shared_p (a : (List Int)) (b : (List Int)) (Q : Int → Prop) : Prop :=
  ((okArr .u8 32 a) → ((okArr .u8 32 b) → (∃ (I56 : Int → Prop) (m57 : Int → Nat), (I56 (0 : Int)) ∧ ∀ (s20 : Int), (I56 s20) → (inR .i64 s20) → (((s20 < (64 : Int)) → (sha_ID_digit_p a s20 (fun (r92 : Int) => ((inR .u8 r92) → (sha_ID_digit_p b s20 (fun (r98 : Int) => ((inR .u8 r98) → (((¬ (r92 = r98)) → Q s20) ∧ ((r92 = r98) → ((inR .i64 (s20 + (1 : Int))) ∧ ((I56 (s20 + (1 : Int))) ∧ m57 (s20 + (1 : Int)) < m57 s20))))))))))) ∧ ((¬ (s20 < (64 : Int))) → Q (64 : Int))))))
set_option maxRecDepth 20000 in
set_option maxHeartbeats 4000000 in
theorem sha_Shared_w {X : List Nat} {w : World} {a : (List Int)} {b : (List Int)} {Q : Int → Prop} (hX0 : Old X w) (ka1 : okArr .u8 32 a) (kb2 : okArr .u8 32 b) (hp : sha_Shared_p a b Q) :
    Calls Try.prog 13 #[(.agg (a.map (Value.int .u8)).toArray), (.agg (b.map (Value.int .u8)).toArray)] w (Ret fun v w' => ∃ (r0 : Int), Q r0 ∧ Evo [] w w' ∧ v = (.int .i64 r0) ∧ inR .i64 r0) := by
  have hXo := hX0
  have E0 : Evo [] w w := RB.refl _ _ _
  have hS : Sub X X := Sub.refl _
  unfold sha_Shared_p at hp
  refine enter_ Try.func13 rfl 18 [(0, (.agg (a.map (Value.int .u8)).toArray)), (1, (.agg (b.map (Value.int .u8)).toArray))] (by kernel_rfl) (fun Qe hQ => ?_)
  replace hp := hp ka1
  replace hp := hp kb2
  refine seq_ (fun _ K3 => ?_)
  refine reg_ ?_
  refine sq (o_newX (a.map (Value.int .u8)) 25 (X := X) (B := w.heap.size) E0.size rfl (by kernel_rfl) ?_)
  intro b4 w5 X6 s7 k8 n9
  have E16 := (Evo.then0 E0 (Step.evo s7))
  refine sq (o_newX (b.map (Value.int .u8)) 25 (X := X6) (B := w.heap.size) E16.size rfl (by kernel_rfl) ?_)
  intro b10 w11 X12 s13 k14 n15
  have p17 := n15 _ (OB.old k8)
  refine sq (o_pv (.int .i64 (0 : Int)) rfl (by kernel_rfl) ?_)
  refine nil_ ?_
  refine then_normal (K3 _ _ _ _ ?_)
  refine seq_ (fun _ K18 => ?_)
  refine seq_ (fun _ K19 => ?_)
  refine reg_ ?_
  refine sq (o_pv (.int .i64 (0 : Int)) rfl (by kernel_rfl) ?_)
  refine nil_ ?_
  refine then_normal (K19 _ _ _ _ ?_)
  refine wp_block ?_
  have hXo66 := (Old.step (Old.step hXo s7) s13)
  have E67 := (Evo.then0 E16 (Step.evo s13))
  have hS68 := (Sub.trans (Sub.trans hS (Step.up s7)) (Step.up s13))
  have k69 := (OB.step0 k8 s13)
  obtain ⟨I56, m57, hI58, hp⟩ := hp
  refine loop_ 262128 (fun kq lq w60 => ∃ (X61 : List Nat) (s20 : Int), (lq = [(6, (.int .i64 s20))]) ∧ (kq = m57 s20) ∧ (Evo [] w w60) ∧ (Old X61 w60) ∧ (Sub X X61) ∧ (OB ([]) w.heap.size X61 w60 b4 (a.map (Value.int .u8)) 25) ∧ (OB ([]) w.heap.size X61 w60 b10 (b.map (Value.int .u8)) 25) ∧ (inR .i64 s20) ∧ (I56 s20)) (m57 (0 : Int)) [(6, (.int .i64 (0 : Int)))] (vs_cons (by kernel_rfl) vs_nil) ⟨X12, (0 : Int), rfl, rfl, E67, hXo66, hS68, k69, k14, (by decide), hI58⟩ ?_
  rintro _ _ w60 g63 ⟨X61, s20, rfl, rfl, E70, hXo71, hS72, k73, k74, rs21, hI59⟩ Kl64 hA65
  replace hp := hp s20 hI59 rs21
  refine seq_ (fun _ K75 => ?_)
  refine reg_ ?_
  refine sq (o_pv (.bool (decide (s20 < (64 : Int)))) rfl (by kernel_rfl) ?_)
  refine nil_ ?_
  refine then_normal (K75 _ _ _ _ ?_)
  refine seq_ (fun _ K76 => ?_)
  refine cond_d (s20 < (64 : Int)) (by kernel_rfl) (fun h77 => ?_) (fun h77 => ?_)
  ·
    replace hp := hp.1 h77
    refine wp_skip ?_
    refine then_normal (K76 _ _ _ _ ?_)
    refine seq_ (fun _ K78 => ?_)
    refine wp_block ?_
    refine seq_ (fun _ K79 => ?_)
    refine reg_ ?_
    refine sq (o_pv (.int .i64 s20) rfl (by kernel_rfl) ?_)
    refine sq (o_pv (.int .i64 s20) rfl (by kernel_rfl) ?_)
    refine nil_ ?_
    refine then_normal (K79 _ _ _ _ ?_)
    refine seq_ (fun _ K80 => ?_)
    refine reg_drawn (RB w60.heap.size []) 7 (by kernel_rfl) (fun w81 hd82 => ?_)
    have e83 := Evo.of_drew hd82
    have z84 : w81.heap.size = w60.heap.size := by rw [hd82]
    clear hd82
    have s86 := Step.of0 X61 e83
    have er85 := RB.refl w60.heap.size [] w81
    have E87 := (Evo.then0 E70 (Step.evo s86))
    have hXo88 := (Old.step hXo71 s86)
    have hS89 := (Sub.trans hS72 (Step.up s86))
    have k90 := (OB.step0 k73 s86)
    have k91 := (OB.step0 k74 s86)
    refine r_take 0 (.agg (a.map (Value.int .u8)).toArray) (RB.pre _ _) rfl (by kernel_rfl) (fun _ _ _ h => hQ.panic _ _ _ _ _ h) (.inl ⟨rfl, fun wq hq => (x_loadA a (by kernel_rfl) Try.isAgg25 Try.sizeOf25 ka1 (Blk.awhole (Blk.rb k90.2.1 (RB.trans er85 hq) (Nat.lt_of_lt_of_eq (Blk.lt k90.2.1) z84) (fun h => by cases h))))⟩) ?_
    refine r_take 1 (.int .i64 s20) (RB.pre _ _) rfl (by kernel_rfl) (fun _ _ _ h => hQ.panic _ _ _ _ _ h) (.inl ⟨rfl, fun wq hq => (by kernel_rfl)⟩) ?_
    refine r_take 3 (.agg (b.map (Value.int .u8)).toArray) (RB.pre _ _) rfl (by kernel_rfl) (fun _ _ _ h => hQ.panic _ _ _ _ _ h) (.inl ⟨rfl, fun wq hq => (x_loadA b (by kernel_rfl) Try.isAgg25 Try.sizeOf25 kb2 (Blk.awhole (Blk.rb k91.2.1 (RB.trans er85 hq) (Nat.lt_of_lt_of_eq (Blk.lt k91.2.1) z84) (fun h => by cases h))))⟩) ?_
    refine r_take 4 (.int .i64 s20) (RB.pre _ _) rfl (by kernel_rfl) (fun _ _ _ h => hQ.panic _ _ _ _ _ h) (.inl ⟨rfl, fun wq hq => (by kernel_rfl)⟩) ?_
    refine r_ready [2] (by kernel_rfl) rfl (all_cons ⟨_, _, _, _, _, _, rfl, ?_⟩ all_nil)
    refine o_call 27 #[(.agg (a.map (Value.int .u8)).toArray), (.int .i64 s20)] rfl (x_call Try.call27 (by kernel_rfl)) (sha_ID_digit_w (X := []) (id := a) (i := s20) (Old.nil _) ka1 rs21 hp) ?_
    rintro _ w93 ⟨r92, hp, e94, rfl, rr96⟩
    have rm := RB.mono (F' := []) e94 (Nat.le_trans (Nat.le_of_eq z84.symm) (RB.size er85)) (fun _ h => by cases h)
    have er97 := RB.trans er85 rm
    refine ⟨fun _ => rm, ?_⟩
    have s95 := Step.of0 X61 e94
    replace hp := hp rr96
    refine r_ready [5] (by kernel_rfl) rfl (all_cons ⟨_, _, _, _, _, _, rfl, ?_⟩ all_nil)
    refine o_call 27 #[(.agg (b.map (Value.int .u8)).toArray), (.int .i64 s20)] rfl (x_call Try.call27 (by kernel_rfl)) (sha_ID_digit_w (X := []) (id := b) (i := s20) (Old.nil _) kb2 rs21 hp) ?_
    rintro _ w99 ⟨r98, hp, e100, rfl, rr102⟩
    have rm := RB.mono (F' := []) e100 (Nat.le_trans (Nat.le_of_eq z84.symm) (RB.size er97)) (fun _ h => by cases h)
    have er103 := RB.trans er97 rm
    refine ⟨fun _ => rm, ?_⟩
    have s101 := Step.of0 X61 e100
    replace hp := hp rr102
    refine r_take 6 (.bool (!decide (r92 = r98))) (RB.pre _ _) rfl (by kernel_rfl) (fun _ _ _ h => hQ.panic _ _ _ _ _ h) (.inl ⟨rfl, fun wq hq => (by kernel_rfl)⟩) ?_
    refine r_done (by kernel_rfl) ?_
    refine then_normal (K80 _ _ _ _ ?_)
    refine cond_nd (r92 = r98) (by kernel_rfl) (fun h104 => ?_) (fun h104 => ?_)
    ·
      replace hp := hp.1 h104
      refine seq_ (fun _ K105 => ?_)
      refine reg_ ?_
      refine sq (o_pv (.int .i64 s20) rfl (by kernel_rfl) ?_)
      refine sq (o_pv (.int .i64 s20) rfl (by kernel_rfl) ?_)
      refine nil_ ?_
      refine then_normal (K105 _ _ _ _ ?_)
      refine wp_ret ?_
      refine blk_ret ?_
      refine then_ret ?_
      refine then_ret ?_
      refine blk_ret ?_
      refine then_ret ?_
      have E106 := (Evo.then0 (Evo.then0 E87 e94) e100)
      refine end_ret hQ (.int .i64 s20) (by kernel_rfl) ?_
      exact ⟨s20, hp, E106, rfl, rs21⟩
    ·
      replace hp := hp.2 h104
      refine wp_skip ?_
      refine blk_normal ?_
      refine then_normal (K78 _ _ _ _ ?_)
      refine reg_ ?_
      obtain ⟨h107, hp⟩ := hp
      refine sq (o_pv (.int .i64 (s20 + (1 : Int))) rfl (x_add2 (k := .i64) (a := s20) (b := (1 : Int)) (s20 + (1 : Int)) (by kernel_rfl) (by kernel_rfl) (wrap_inR h107)) ?_)
      refine sq (o_pv (.int .i64 (s20 + (1 : Int))) rfl (by kernel_rfl) ?_)
      refine nil_ ?_
      have E108 := (Evo.then0 (Evo.then0 E87 e94) e100)
      have hXo109 := (Old.step (Old.step hXo88 s95) s101)
      have hS110 := (Sub.trans (Sub.trans hS89 (Step.up s95)) (Step.up s101))
      have k111 := (OB.step0 (OB.step0 k90 s95) s101)
      have k112 := (OB.step0 (OB.step0 k91 s95) s101)
      refine then_normal (hA65 _ _ _ ⟨_, [(6, (.int .i64 (s20 + (1 : Int))))], hp.2, fit_mk (AgB.mix _ _ _) (by kernel_rfl) (vs_cons (by kernel_rfl) vs_nil), ?_⟩)
      exact ⟨X61, (s20 + (1 : Int)), rfl, rfl, E108, hXo109, hS110, k111, k112, h107, hp.1⟩
  ·
    replace hp := hp.2 h77
    refine wp_exit ?_
    refine then_exit ?_
    refine then_exit ?_
    refine blk_exit ?_
    refine then_normal (K18 _ _ _ _ ?_)
    refine seq_ (fun _ K113 => ?_)
    refine reg_ ?_
    refine sq (o_pv (.int .i64 (64 : Int)) rfl (by kernel_rfl) ?_)
    refine nil_ ?_
    refine then_normal (K113 _ _ _ _ ?_)
    refine wp_ret ?_
    refine end_ret hQ (.int .i64 (64 : Int)) (by kernel_rfl) ?_
    exact ⟨(64 : Int), hp, E70, rfl, (by decide)⟩

def sha_Short_p (all : (List (List Int))) (id : (List Int)) (least : Int) (Q : Int → Prop) : Prop :=
  ((all.length ≤ 9223372036854775807) → ((okArr .u8 32 id) → ((inR .i64 least) → (∃ (I117 : Int → Int → Prop) (m118 : Int → Int → Nat), (I117 (min (max least (0 : Int)) (64 : Int)) (0 : Int)) ∧ ∀ (out16 : Int) (s18 : Int), (I117 out16 s18) → (inR .i64 out16) → (inR .i64 s18) → (((s18 < (all.length : Int)) → (∃ k174 : Int → Prop, (∀ (out172 : Int), k174 out172 → (inR .i64 out172) → ((inR .i64 (s18 + (1 : Int))) ∧ ((I117 out172 (s18 + (1 : Int))) ∧ m118 out172 (s18 + (1 : Int)) < m118 out16 s18))) ∧ ((inL all s18) ∧ ((okArr .u8 32 (lget all s18)) → (((¬ ((lget all s18 : List Int) = id)) → (sha_Shared_p (lget all s18) id (fun (r212 : Int) => ((inR .i64 r212) → ((inR .i64 (r212 + (1 : Int))) ∧ (k174 (max out16 (r212 + (1 : Int))))))))) ∧ (((lget all s18 : List Int) = id) → (k174 out16))))))) ∧ ((¬ (s18 < (all.length : Int))) → Q out16))))))
set_option maxRecDepth 20000 in
set_option maxHeartbeats 4000000 in
theorem sha_Short_w {X : List Nat} {w : World} {all : (List (List Int))} {id : (List Int)} {least : Int} {aall1 : Option Addr} {call2 : Nat} {Q : Int → Prop} (hX0 : Old X w) (hall3 : Sl (rArr .u8 32) X w aall1 call2 all) (kid4 : okArr .u8 32 id) (rleast5 : inR .i64 least) (hp : sha_Short_p all id least Q) :
    Calls Try.prog 15 #[(.slice aall1 all.length call2), (.agg (id.map (Value.int .u8)).toArray), (.int .i64 least)] w (Ret fun v w' => ∃ (r0 : Int), Q r0 ∧ Evo [] w w' ∧ v = (.int .i64 r0) ∧ inR .i64 r0) := by
  have hXo := hX0
  have E0 : Evo [] w w := RB.refl _ _ _
  have hS : Sub X X := Sub.refl _
  unfold sha_Short_p at hp
  refine enter_ Try.func15 rfl 30 [(0, (.slice aall1 all.length call2)), (1, (.agg (id.map (Value.int .u8)).toArray)), (2, (.int .i64 least))] (by kernel_rfl) (fun Qe hQ => ?_)
  replace hp := hp (Sl.len hall3)
  replace hp := hp kid4
  replace hp := hp rleast5
  refine seq_ (fun _ K6 => ?_)
  refine reg_ ?_
  refine sq (o_newX (id.map (Value.int .u8)) 25 (X := X) (B := w.heap.size) E0.size rfl (by kernel_rfl) ?_)
  intro b7 w8 X9 s10 k11 n12
  refine sq (o_pv (.int .i64 (0 : Int)) rfl (by kernel_rfl) ?_)
  refine nil_ ?_
  refine then_normal (K6 _ _ _ _ ?_)
  refine seq_ (fun _ K13 => ?_)
  refine reg_ ?_
  refine sq (o_pv (.int .i64 least) rfl (by kernel_rfl) ?_)
  refine sq (o_pv (.int .i64 (max least (0 : Int))) rfl (x_max (k := .i64) (a := least) (b := (0 : Int)) (max least (0 : Int)) (by kernel_rfl) (by kernel_rfl) rfl) ?_)
  refine sq (o_pv (.int .i64 (min (max least (0 : Int)) (64 : Int))) rfl (x_min (k := .i64) (a := max least (0 : Int)) (b := (64 : Int)) (min (max least (0 : Int)) (64 : Int)) (by kernel_rfl) (by kernel_rfl) rfl) ?_)
  refine sq (o_pv (.int .i64 (min (max least (0 : Int)) (64 : Int))) rfl (by kernel_rfl) ?_)
  refine nil_ ?_
  refine then_normal (K13 _ _ _ _ ?_)
  refine seq_ (fun _ K14 => ?_)
  refine seq_ (fun _ K15 => ?_)
  refine reg_ ?_
  refine sq (o_pv (.slice aall1 all.length call2) rfl (by kernel_rfl) ?_)
  refine sq (o_pv (.int .i64 (all.length : Int)) rfl (by kernel_rfl) ?_)
  refine sq (o_pv (.int .i64 (0 : Int)) rfl (by kernel_rfl) ?_)
  refine nil_ ?_
  refine then_normal (K15 _ _ _ _ ?_)
  refine wp_block ?_
  have hall127 := (Sl.step hall3 s10)
  have hXo128 := (Old.step hXo s10)
  have E129 := (Evo.then0 E0 (Step.evo s10))
  have hS130 := (Sub.trans hS (Step.up s10))
  obtain ⟨I117, m118, hI119, hp⟩ := hp
  refine loop_ 536838784 (fun kq lq w121 => ∃ (X122 : List Nat) (out16 : Int) (s18 : Int), (lq = [(7, (.int .i64 out16)), (15, (.int .i64 s18))]) ∧ (kq = m118 out16 s18) ∧ (Evo [] w w121) ∧ (Old X122 w121) ∧ (Sub X X122) ∧ (Sl (rArr .u8 32) X122 w121 aall1 call2 all) ∧ (OB ([]) w.heap.size X122 w121 b7 (id.map (Value.int .u8)) 25) ∧ (inR .i64 out16) ∧ (inR .i64 s18) ∧ (I117 out16 s18)) (m118 (min (max least (0 : Int)) (64 : Int)) (0 : Int)) [(7, (.int .i64 (min (max least (0 : Int)) (64 : Int)))), (15, (.int .i64 (0 : Int)))] (vs_cons (by kernel_rfl) (vs_cons (by kernel_rfl) vs_nil)) ⟨X9, (min (max least (0 : Int)) (64 : Int)), (0 : Int), rfl, rfl, E129, hXo128, hS130, hall127, k11, (inR_min (inR_max rleast5 (by decide)) (by decide)), (by decide), hI119⟩ ?_
  rintro _ _ w121 g124 ⟨X122, out16, s18, rfl, rfl, E131, hXo132, hS133, hall134, k135, rout17, rs19, hI120⟩ Kl125 hA126
  replace hp := hp out16 s18 hI120 rout17 rs19
  refine seq_ (fun _ K136 => ?_)
  refine reg_ ?_
  refine sq (o_pv (.bool (decide (s18 < (all.length : Int)))) rfl (by kernel_rfl) ?_)
  refine nil_ ?_
  refine then_normal (K136 _ _ _ _ ?_)
  refine seq_ (fun _ K137 => ?_)
  refine cond_d (s18 < (all.length : Int)) (by kernel_rfl) (fun h138 => ?_) (fun h138 => ?_)
  ·
    replace hp := hp.1 h138
    refine wp_skip ?_
    refine then_normal (K137 _ _ _ _ ?_)
    refine seq_ (fun _ K139 => ?_)
    obtain ⟨k174, hk175, hp⟩ := hp
    refine ground_ ?_
    refine join_ 268305024 (fun lq w176 => ∃ (X177 : List Nat) (out172 : Int), (lq = [(7, (.int .i64 out172))]) ∧ (Evo [] w w176) ∧ (Old X177 w176) ∧ (Sub X X177) ∧ (Sl (rArr .u8 32) X177 w176 aall1 call2 all) ∧ (OB ([]) w.heap.size X177 w176 b7 (id.map (Value.int .u8)) 25) ∧ (inR .i64 out172) ∧ (k174 out172)) (fun Kj178 hJ179 => ?_) ?_
    ·
      refine wp_block ?_
      refine seq_ (fun _ K186 => ?_)
      refine reg_ ?_
      obtain ⟨h187, hp⟩ := hp
      obtain ⟨b188, o189, cs190, ha191, nx192, lt193, ok194, hc195⟩ := Sl.atI hall134 s18 h187
      obtain ⟨rfl, ke196⟩ := ok194
      replace hp := hp ke196
      refine sq (o_pv (.pointer (some ⟨b188, o189 + s18.toNat * 32, none⟩)) rfl (x_ixA (m := all.length) (c := call2) (k := .i64) (i := s18) Try.underlying36 Try.sizeOf25 (by rw [← ha191]; kernel_rfl) (by kernel_rfl) h187) ?_)
      refine sq (o_pv (.agg ((lget all s18).map (Value.int .u8)).toArray) rfl (x_loadA (lget all s18) (by kernel_rfl) Try.isAgg25 Try.sizeOf25 ke196 hc195) ?_)
      refine sq (o_newX ((List.replicate 32 (0 : Int)).map (Value.int .u8)) 25 (X := X122) (B := w.heap.size) E131.size rfl (by kernel_rfl) ?_)
      intro b197 w198 X199 s200 k201 n202
      have p203 := n202 _ (OB.old k135)
      have k204 := (OB.step0 k135 s200)
      have E205 := (Evo.then0 E131 (Step.evo s200))
      refine sq (o_stW (k := .u8) (e := (List.replicate 32 (0 : Int))) (e' := lget all s18) rfl k201 (by kernel_rfl) (by kernel_rfl) Try.sizeOf25 (okArr_rep _ _) ke196 ?_)
      intro w206 s207 k208
      refine nil_ ?_
      refine then_normal (K186 _ _ _ _ ?_)
      refine seq_ (fun _ K209 => ?_)
      refine reg_ ?_
      refine sq (o_pv (.agg ((lget all s18).map (Value.int .u8)).toArray) rfl (x_loadA (lget all s18) (by kernel_rfl) Try.isAgg25 Try.sizeOf25 ke196 (Blk.awhole k208.2.1)) ?_)
      have k210 := (OB.step k204 s207 p203)
      refine sq (o_pv (.agg (id.map (Value.int .u8)).toArray) rfl (x_loadA id (by kernel_rfl) Try.isAgg25 Try.sizeOf25 kid4 (Blk.awhole k210.2.1)) ?_)
      refine sq (o_pv (.bool (!decide ((lget all s18 : List Int) = id))) rfl (x_arrne (i := Try.t5) (k := .u8) (xs := lget all s18) (ys := id) Try.underlying25 Try.underlying5 (by kernel_rfl) (by kernel_rfl) (by kernel_rfl) Try.isAgg5 ke196 kid4 (by kernel_rfl) (by kernel_rfl)) ?_)
      refine nil_ ?_
      refine then_normal (K209 _ _ _ _ ?_)
      refine cond_nd ((lget all s18 : List Int) = id) (by kernel_rfl) (fun h211 => ?_) (fun h211 => ?_)
      ·
        replace hp := hp.1 h211
        refine reg_ ?_
        refine sq (o_pv (.int .i64 out16) rfl (by kernel_rfl) ?_)
        refine sq (o_pv (.agg ((lget all s18).map (Value.int .u8)).toArray) rfl (x_loadA (lget all s18) (by kernel_rfl) Try.isAgg25 Try.sizeOf25 ke196 (Blk.awhole k208.2.1)) ?_)
        refine sq (o_pv (.agg (id.map (Value.int .u8)).toArray) rfl (x_loadA id (by kernel_rfl) Try.isAgg25 Try.sizeOf25 kid4 (Blk.awhole k210.2.1)) ?_)
        refine sq (o_call 13 #[(.agg ((lget all s18).map (Value.int .u8)).toArray), (.agg (id.map (Value.int .u8)).toArray)] rfl (x_call Try.call13 (by kernel_rfl)) (sha_Shared_w (X := []) (a := lget all s18) (b := id) (Old.nil _) ke196 kid4 hp) ?_)
        rintro _ w213 ⟨r212, hp, e214, rfl, rr216⟩
        have s215 := Step.of0 X199 e214
        replace hp := hp rr216
        obtain ⟨h217, hp⟩ := hp
        refine sq (o_pv (.int .i64 (r212 + (1 : Int))) rfl (x_add2 (k := .i64) (a := r212) (b := (1 : Int)) (r212 + (1 : Int)) (by kernel_rfl) (by kernel_rfl) (wrap_inR h217)) ?_)
        refine sq (o_pv (.int .i64 (max out16 (r212 + (1 : Int)))) rfl (x_max (k := .i64) (a := out16) (b := r212 + (1 : Int)) (max out16 (r212 + (1 : Int))) (by kernel_rfl) (by kernel_rfl) rfl) ?_)
        refine sq (o_pv (.int .i64 (max out16 (r212 + (1 : Int)))) rfl (by kernel_rfl) ?_)
        refine nil_ ?_
        refine blk_normal ?_
        have E218 := (Evo.then0 (Evo.thenW E205 (Step.evo s207) k201.2.2) e214)
        have hXo219 := (Old.step (Old.step (Old.step hXo132 s200) s207) s215)
        have hS220 := (Sub.trans (Sub.trans (Sub.trans hS133 (Step.up s200)) (Step.up s207)) (Step.up s215))
        have hall221 := (Sl.step (Sl.step (Sl.step hall134 s200) s207) s215)
        have k222 := (OB.step0 k210 s215)
        refine then_normal (hJ179 _ _ _ ⟨[(7, (.int .i64 (max out16 (r212 + (1 : Int)))))], fit_mk (fun _ _ => rfl) (by kernel_rfl) (vs_cons (by kernel_rfl) vs_nil), ?_⟩)
        exact ⟨X199, (max out16 (r212 + (1 : Int))), rfl, E218, hXo219, hS220, hall221, k222, (inR_max rout17 h217), hp⟩
      ·
        replace hp := hp.2 h211
        refine wp_skip ?_
        refine blk_normal ?_
        have E223 := (Evo.thenW E205 (Step.evo s207) k201.2.2)
        have hXo224 := (Old.step (Old.step hXo132 s200) s207)
        have hS225 := (Sub.trans (Sub.trans hS133 (Step.up s200)) (Step.up s207))
        have hall226 := (Sl.step (Sl.step hall134 s200) s207)
        refine then_normal (hJ179 _ _ _ ⟨[(7, (.int .i64 out16))], fit_mk (fun _ _ => rfl) (by kernel_rfl) (vs_cons (by kernel_rfl) vs_nil), ?_⟩)
        exact ⟨X199, out16, rfl, E223, hXo224, hS225, hall226, k210, rout17, hp⟩
    ·
      rintro _ w176 g227 ⟨X177, out172, rfl, E181, hXo182, hS183, hall184, k185, rout173, hv180⟩
      replace hp := hk175 out172 hv180 rout173
      refine then_normal (K139 _ _ _ _ ?_)
      refine reg_ ?_
      obtain ⟨h228, hp⟩ := hp
      refine sq (o_pv (.int .i64 (s18 + (1 : Int))) rfl (x_add2 (k := .i64) (a := s18) (b := (1 : Int)) (s18 + (1 : Int)) (by kernel_rfl) (by kernel_rfl) (wrap_inR h228)) ?_)
      refine sq (o_pv (.int .i64 (s18 + (1 : Int))) rfl (by kernel_rfl) ?_)
      refine nil_ ?_
      refine then_normal (hA126 _ _ _ ⟨_, [(7, (.int .i64 out172)), (15, (.int .i64 (s18 + (1 : Int))))], hp.2, fit_mk (AgB.nest (AgB.look (AgB.mix _ _ _) (by kernel_rfl)) (by kernel_rfl) (by kernel_rfl)) (by kernel_rfl) (vs_cons (by kernel_rfl) (vs_cons (by kernel_rfl) vs_nil)), ?_⟩)
      exact ⟨X177, out172, (s18 + (1 : Int)), rfl, rfl, E181, hXo182, hS183, hall184, k185, rout173, h228, hp.1⟩
  ·
    replace hp := hp.2 h138
    refine wp_exit ?_
    refine then_exit ?_
    refine then_exit ?_
    refine blk_exit ?_
    refine then_normal (K14 _ _ _ _ ?_)
    refine seq_ (fun _ K229 => ?_)
    refine reg_ ?_
    refine sq (o_pv (.int .i64 out16) rfl (by kernel_rfl) ?_)
    refine sq (o_pv (.int .i64 out16) rfl (by kernel_rfl) ?_)
    refine nil_ ?_
    refine then_normal (K229 _ _ _ _ ?_)
    refine wp_ret ?_
    refine end_ret hQ (.int .i64 out16) (by kernel_rfl) ?_
    exact ⟨out16, hp, E131, rfl, rout17⟩

def rectolaw2_known_p (Q : Bool → Prop) : Prop :=
  (sha_Sum_p ([(97 : Int), (98 : Int), (99 : Int)]) (fun (r21 : (List Int)) => ((okArr .u8 32 r21) → (sha_ID_String_p r21 (fun (r38 : ByteArray) => ((r38.size ≤ maxLen) → (sha_Parse_p r38 (fun (r44 : (List Int)) (r45 : PErr) => ((okArr .u8 32 r44) → (sha_Parse_p (ByteArray.mk #[97, 98]) (fun (r68 : (List Int)) (r69 : PErr) => ((okArr .u8 32 r68) → (∃ k132 : Bool → Prop, (∀ (s131 : Bool), k132 s131 → Q s131) ∧ (sha_ID_String_p r21 (fun (r150 : ByteArray) => ((r150.size ≤ maxLen) → ((((r150 : ByteArray) = (ByteArray.mk #[98, 97, 55, 56, 49, 54, 98, 102, 56, 102, 48, 49, 99, 102, 101, 97, 52, 49, 52, 49, 52, 48, 100, 101, 53, 100, 97, 101, 50, 50, 50, 51, 98, 48, 48, 51, 54, 49, 97, 51, 57, 54, 49, 55, 55, 97, 57, 99, 98, 52, 49, 48, 102, 102, 54, 49, 102, 50, 48, 48, 49, 53, 97, 100])) → (((r45.isNil = true) → ((((r44 : List Int) = r21) → ((((!r69.isNil) = true) → (sha_Shared_p r21 r21 (fun (r161 : Int) => ((inR .i64 r161) → (((r161 = (64 : Int)) → (sha_Short_p ([r21]) r21 (4 : Int) (fun (r181 : Int) => ((inR .i64 r181) → (k132 (decide (r181 = (4 : Int)))))))) ∧ ((¬ (r161 = (64 : Int))) → (k132 false))))))) ∧ ((¬ ((!r69.isNil) = true)) → (k132 false)))) ∧ ((¬ ((r44 : List Int) = r21)) → (k132 false)))) ∧ ((¬ (r45.isNil = true)) → (k132 false)))) ∧ ((¬ ((r150 : ByteArray) = (ByteArray.mk #[98, 97, 55, 56, 49, 54, 98, 102, 56, 102, 48, 49, 99, 102, 101, 97, 52, 49, 52, 49, 52, 48, 100, 101, 53, 100, 97, 101, 50, 50, 50, 51, 98, 48, 48, 51, 54, 49, 97, 51, 57, 54, 49, 55, 55, 97, 57, 99, 98, 52, 49, 48, 102, 102, 54, 49, 102, 50, 48, 48, 49, 53, 97, 100]))) → (k132 false)))))))))))))))))))
set_option maxRecDepth 20000 in
set_option maxHeartbeats 4000000 in
theorem rectolaw2_known_w {X : List Nat} {w : World} {Q : Bool → Prop} (hX0 : Old X w) (hp : rectolaw2_known_p Q) :
    Calls Try.prog 7 #[] w (Ret fun v w' => ∃ (r0 : Bool), Q r0 ∧ Evo [] w w' ∧ v = (.bool r0)) := by
  have hXo := hX0
  have E0 : Evo [] w w := RB.refl _ _ _
  have hS : Sub X X := Sub.refl _
  unfold rectolaw2_known_p at hp
  refine enter_ Try.func7 rfl 48 [] (by kernel_rfl) (fun Qe hQ => ?_)
  refine seq_ (fun _ K1 => ?_)
  refine reg_ ?_
  refine sq (o_pv (.bool false) rfl (by kernel_rfl) ?_)
  refine nil_ ?_
  refine then_normal (K1 _ _ _ _ ?_)
  refine seq_ (fun _ K2 => ?_)
  refine reg_ ?_
  refine sq (o_rowX (R := (rInt .u8)) [(.int .u8 (97 : Int)), (.int .u8 (98 : Int)), (.int .u8 (99 : Int))] [(97 : Int), (98 : Int), (99 : Int)] 5 3 (X := X) (B := w.heap.size) E0.size rfl (by kernel_rfl) (Flat.cons (cs := [(.int .u8 (97 : Int))]) (rInt_mk (by decide)) (Flat.cons (cs := [(.int .u8 (98 : Int))]) (rInt_mk (by decide)) (Flat.cons (cs := [(.int .u8 (99 : Int))]) (rInt_mk (by decide)) Flat.nil))) rfl (by decide) ?_)
  intro b3 w4 X5 s6 O7 n8
  have hS9 := (Sub.trans hS (Step.up s6))
  have ax10 := OS.apold O7 hX0
  refine sq (o_mark rfl Try.underlying22 Try.underlying5 O7 (by kernel_rfl) ?_)
  intro w11 X12 s13 u14 h15 hm16
  have hXo18 := (Old.step (Old.step hXo s6) s13)
  have E19 := (Evo.thenW (Evo.then0 E0 (Step.evo s6)) (Step.evo s13) O7.2.2)
  have hS20 := (Sub.trans hS9 (Step.up s13))
  have ax17 : Ap X [b3] := ax10
  refine sq (o_call 8 #[(.slice (some ⟨b3, 0, none⟩) ([(97 : Int), (98 : Int), (99 : Int)]).length 3)] rfl (x_call Try.call8 (by rw [← show 3 = ([(97 : Int), (98 : Int), (99 : Int)]).length from O7.1]; kernel_rfl)) (sha_Sum_w (X := []) (b := [(97 : Int), (98 : Int), (99 : Int)]) (Old.nil _) (Sl.less h15 (Sub.nil _)) hp) ?_)
  rintro _ w22 ⟨r21, hp, e23, rfl, kr25⟩
  have s24 := Step.of0 X12 e23
  replace hp := hp kr25
  have E32 := (Evo.then0 E19 e23)
  refine sq (o_newX ((List.replicate 32 (0 : Int)).map (Value.int .u8)) 25 (X := X12) (B := w.heap.size) E32.size rfl (by kernel_rfl) ?_)
  intro b26 w27 X28 s29 k30 n31
  have E33 := (Evo.then0 E32 (Step.evo s29))
  refine sq (o_stW (k := .u8) (e := (List.replicate 32 (0 : Int))) (e' := r21) rfl k30 (by kernel_rfl) (by kernel_rfl) Try.sizeOf25 (okArr_rep _ _) kr25 ?_)
  intro w34 s35 k36
  refine nil_ ?_
  refine then_normal (K2 _ _ _ _ ?_)
  refine seq_ (fun _ K37 => ?_)
  refine reg_ ?_
  refine sq (o_pv (.agg (r21.map (Value.int .u8)).toArray) rfl (x_loadA r21 (by kernel_rfl) Try.isAgg25 Try.sizeOf25 kr25 (Blk.awhole k36.2.1)) ?_)
  refine sq (o_call 10 #[(.agg (r21.map (Value.int .u8)).toArray)] rfl (x_call Try.call10 (by kernel_rfl)) (sha_ID_String_w (X := []) (id := r21) (Old.nil _) kr25 hp) ?_)
  rintro _ w39 ⟨r38, hp, e40, rfl, zr42⟩
  have s41 := Step.of0 X28 e40
  replace hp := hp zr42
  have hXo43 := (Old.step (Old.step (Old.step (Old.step (Old.less hXo18 u14) s24) s29) s35) s41)
  refine sq (o_call 9 #[(.string r38)] rfl (x_call Try.call9 (by kernel_rfl)) (sha_Parse_w (X := X28) (s := r38) hXo43 zr42 hp) ?_)
  rintro _ w46 ⟨r44, r45, hp, e47, vr50, rfl, kr49, hr51⟩
  have s48 := Step.of0 X28 e47
  replace hp := hp kr49
  refine sq (o_pv (.tuple #[(.agg (r44.map (Value.int .u8)).toArray), vr50]) rfl (by kernel_rfl) ?_)
  refine sq (o_pv (.agg (r44.map (Value.int .u8)).toArray) rfl (by kernel_rfl) ?_)
  refine sq (o_pv vr50 rfl (by kernel_rfl) ?_)
  have k58 := (OB.step0 (OB.step0 k36 s41) s48)
  have E59 := (Evo.then0 (Evo.then0 (Evo.thenW E33 (Step.evo s35) k30.2.2) e40) e47)
  refine sq (o_newX ((List.replicate 32 (0 : Int)).map (Value.int .u8)) 25 (X := X28) (B := w.heap.size) E59.size rfl (by kernel_rfl) ?_)
  intro b52 w53 X54 s55 k56 n57
  have p60 := n57 _ (OB.old k58)
  have k61 := (OB.step0 k58 s55)
  have E62 := (Evo.then0 E59 (Step.evo s55))
  refine sq (o_stW (k := .u8) (e := (List.replicate 32 (0 : Int))) (e' := r44) rfl k56 (by kernel_rfl) (by kernel_rfl) Try.sizeOf25 (okArr_rep _ _) kr49 ?_)
  intro w63 s64 k65
  refine sq (o_pv vr50 rfl (by kernel_rfl) ?_)
  refine nil_ ?_
  refine then_normal (K37 _ _ _ _ ?_)
  refine seq_ (fun _ K66 => ?_)
  refine reg_ ?_
  have hXo67 := (Old.step (Old.step (Old.step hXo43 s48) s55) s64)
  refine sq (o_call 9 #[(.string (ByteArray.mk #[97, 98]))] rfl (x_call Try.call9 (by kernel_rfl)) (sha_Parse_w (X := X54) (s := (ByteArray.mk #[97, 98])) hXo67 (by decide) hp) ?_)
  rintro _ w70 ⟨r68, r69, hp, e71, vr74, rfl, kr73, hr75⟩
  have s72 := Step.of0 X54 e71
  replace hp := hp kr73
  refine sq (o_pv (.tuple #[(.agg (r68.map (Value.int .u8)).toArray), vr74]) rfl (by kernel_rfl) ?_)
  refine sq (o_pv (.agg (r68.map (Value.int .u8)).toArray) rfl (by kernel_rfl) ?_)
  refine sq (o_pv vr74 rfl (by kernel_rfl) ?_)
  have k82 := (OB.step0 (OB.step k61 s64 p60) s72)
  have k83 := (OB.step0 k65 s72)
  have E84 := (Evo.then0 (Evo.thenW E62 (Step.evo s64) k56.2.2) e71)
  refine sq (o_newX ((List.replicate 32 (0 : Int)).map (Value.int .u8)) 25 (X := X54) (B := w.heap.size) E84.size rfl (by kernel_rfl) ?_)
  intro b76 w77 X78 s79 k80 n81
  have p85 := n81 _ (OB.old k82)
  have p86 := n81 _ (OB.old k83)
  have k87 := (OB.step0 k82 s79)
  have k88 := (OB.step0 k83 s79)
  have E89 := (Evo.then0 E84 (Step.evo s79))
  refine sq (o_stW (k := .u8) (e := (List.replicate 32 (0 : Int))) (e' := r68) rfl k80 (by kernel_rfl) (by kernel_rfl) Try.sizeOf25 (okArr_rep _ _) kr73 ?_)
  intro w90 s91 k92
  refine sq (o_pv vr74 rfl (by kernel_rfl) ?_)
  refine nil_ ?_
  refine then_normal (K66 _ _ _ _ ?_)
  refine seq_ (fun _ K93 => ?_)
  have hXo139 := (Old.step (Old.step (Old.step hXo67 s72) s79) s91)
  have E140 := (Evo.thenW E89 (Step.evo s91) k80.2.2)
  have hS141 := (Sub.trans (Sub.trans (Sub.trans (Sub.trans (Sub.trans (Sub.trans (Sub.trans (Sub.trans (Sub.trans (Sub.trans (hm16 _ ax17 hS20) (Step.up s24)) (Step.up s29)) (Step.up s35)) (Step.up s41)) (Step.up s48)) (Step.up s55)) (Step.up s64)) (Step.up s72)) (Step.up s79)) (Step.up s91))
  have h142 := (Sl.step (Sl.step (Sl.step (Sl.step (Sl.step (Sl.step (Sl.step (Sl.step (Sl.step (Sl.step h15 s24) s29) s35) s41) s48) s55) s64) s72) s79) s91)
  have k143 := (OB.step k87 s91 p85)
  have hr144 := (Rep.step (rErr 58 68 70) (Rep.step (rErr 58 68 70) (Rep.step (rErr 58 68 70) (Rep.step (rErr 58 68 70) (Rep.step (rErr 58 68 70) hr51 s55) s64) s72) s79) s91)
  have k145 := (OB.step k88 s91 p86)
  have hr146 := (Rep.step (rErr 58 68 70) (Rep.step (rErr 58 68 70) hr75 s79) s91)
  obtain ⟨k132, hk133, hp⟩ := hp
  refine ground_ ?_
  refine join_ 281474976186369 (fun lq w134 => ∃ (X135 : List Nat) (s131 : Bool), (lq = [(0, (.bool s131))]) ∧ (Evo [] w w134) ∧ (Old X135 w134) ∧ (Sub X X135) ∧ (k132 s131)) (fun Kj136 hJ137 => ?_) ?_
  ·
    refine reg_ ?_
    refine sq (o_pv (.agg (r21.map (Value.int .u8)).toArray) rfl (x_loadA r21 (by kernel_rfl) Try.isAgg25 Try.sizeOf25 kr25 (Blk.awhole k143.2.1)) ?_)
    refine sq (o_call 10 #[(.agg (r21.map (Value.int .u8)).toArray)] rfl (x_call Try.call10 (by kernel_rfl)) (sha_ID_String_w (X := []) (id := r21) (Old.nil _) kr25 hp) ?_)
    rintro _ w151 ⟨r150, hp, e152, rfl, zr154⟩
    have s153 := Step.of0 X78 e152
    replace hp := hp zr154
    by_cases h155 : (r150 : ByteArray) = (ByteArray.mk #[98, 97, 55, 56, 49, 54, 98, 102, 56, 102, 48, 49, 99, 102, 101, 97, 52, 49, 52, 49, 52, 48, 100, 101, 53, 100, 97, 101, 50, 50, 50, 51, 98, 48, 48, 51, 54, 49, 97, 51, 57, 54, 49, 55, 55, 97, 57, 99, 98, 52, 49, 48, 102, 102, 54, 49, 102, 50, 48, 48, 49, 53, 97, 100])
    ·
      replace hp := hp.1 h155
      refine sq (o_pv (.bool true) rfl (x_dt (p := (r150 : ByteArray) = (ByteArray.mk #[98, 97, 55, 56, 49, 54, 98, 102, 56, 102, 48, 49, 99, 102, 101, 97, 52, 49, 52, 49, 52, 48, 100, 101, 53, 100, 97, 101, 50, 50, 50, 51, 98, 48, 48, 51, 54, 49, 97, 51, 57, 54, 49, 55, 55, 97, 57, 99, 98, 52, 49, 48, 102, 102, 54, 49, 102, 50, 48, 48, 49, 53, 97, 100])) (x_streq (by kernel_rfl) (by kernel_rfl)) h155) ?_)
      refine sq (o_pv (.bool true) rfl (by kernel_rfl) ?_)
      refine sq (o_pv vr50 (by kernel_rfl) (by kernel_rfl) ?_)
      by_cases h156 : r45.isNil = true
      ·
        replace hp := hp.1 h156
        refine sq (o_pv (.bool true) (by kernel_rfl) (x_bt (x_err_eq r45 hr144 Try.underlying28 (by kernel_rfl)) h156) ?_)
        refine sq (o_pv (.bool true) rfl (by kernel_rfl) ?_)
        refine sq (o_pv (.bool true) rfl (by kernel_rfl) ?_)
        have k157 := (OB.step0 k145 s153)
        refine sq (o_pv (.agg (r44.map (Value.int .u8)).toArray) (by kernel_rfl) (x_loadA r44 (by kernel_rfl) Try.isAgg25 Try.sizeOf25 kr49 (Blk.awhole k157.2.1)) ?_)
        have k158 := (OB.step0 k143 s153)
        refine sq (o_pv (.agg (r21.map (Value.int .u8)).toArray) (by kernel_rfl) (x_loadA r21 (by kernel_rfl) Try.isAgg25 Try.sizeOf25 kr25 (Blk.awhole k158.2.1)) ?_)
        by_cases h159 : (r44 : List Int) = r21
        ·
          replace hp := hp.1 h159
          refine sq (o_pv (.bool true) (by kernel_rfl) (x_dt (p := (r44 : List Int) = r21) (x_arreq (i := Try.t5) (k := .u8) (xs := r44) (ys := r21) Try.underlying25 Try.underlying5 (by kernel_rfl) (by kernel_rfl) (by kernel_rfl) Try.isAgg5 kr49 kr25 (by kernel_rfl) (by kernel_rfl)) h159) ?_)
          refine sq (o_pv (.bool true) rfl (by kernel_rfl) ?_)
          refine sq (o_pv (.bool true) rfl (by kernel_rfl) ?_)
          refine sq (o_pv vr74 (by kernel_rfl) (by kernel_rfl) ?_)
          by_cases h160 : (!r69.isNil) = true
          ·
            replace hp := hp.1 h160
            refine sq (o_pv (.bool true) (by kernel_rfl) (x_bt (x_err_ne r69 hr146 Try.underlying28 (by kernel_rfl)) h160) ?_)
            refine sq (o_pv (.bool true) rfl (by kernel_rfl) ?_)
            refine sq (o_pv (.bool true) rfl (by kernel_rfl) ?_)
            refine sq (o_pv (.agg (r21.map (Value.int .u8)).toArray) (by kernel_rfl) (x_loadA r21 (by kernel_rfl) Try.isAgg25 Try.sizeOf25 kr25 (Blk.awhole k158.2.1)) ?_)
            refine sq (o_pv (.agg (r21.map (Value.int .u8)).toArray) (by kernel_rfl) (x_loadA r21 (by kernel_rfl) Try.isAgg25 Try.sizeOf25 kr25 (Blk.awhole k158.2.1)) ?_)
            refine sq (o_call 13 #[(.agg (r21.map (Value.int .u8)).toArray), (.agg (r21.map (Value.int .u8)).toArray)] (by kernel_rfl) (x_call Try.call13 (by kernel_rfl)) (sha_Shared_w (X := []) (a := r21) (b := r21) (Old.nil _) kr25 kr25 hp) ?_)
            rintro _ w162 ⟨r161, hp, e163, rfl, rr165⟩
            have s164 := Step.of0 X78 e163
            replace hp := hp rr165
            by_cases h166 : r161 = (64 : Int)
            ·
              replace hp := hp.1 h166
              refine sq (o_pv (.bool true) (by kernel_rfl) (x_dt (p := r161 = (64 : Int)) (by kernel_rfl) h166) ?_)
              refine sq (o_pv (.bool true) rfl (by kernel_rfl) ?_)
              refine sq (o_pv (.bool true) rfl (by kernel_rfl) ?_)
              have k167 := (OB.step0 k158 s164)
              refine sq (o_pv (.agg (r21.map (Value.int .u8)).toArray) (by kernel_rfl) (x_loadA r21 (by kernel_rfl) Try.isAgg25 Try.sizeOf25 kr25 (Blk.awhole k167.2.1)) ?_)
              have k168 := (OB.step0 k157 s164)
              have k169 := (OB.step0 (OB.step0 k92 s153) s164)
              have E176 := (Evo.then0 (Evo.then0 E140 e152) e163)
              refine sq (o_rowX (R := (rArr .u8 32)) (List.flatten [(r21.map (Value.int .u8))]) [r21] 25 1 (X := X78) (B := w.heap.size) E176.size (by kernel_rfl) (x_rowG (bts := 32) (z := .agg (List.replicate 32 (Value.int .u8 0)).toArray) [(r21.map (Value.int .u8))] Try.underlying36 (by kernel_rfl) Try.sizeOf25 (by kernel_rfl) (List.forall_mem_cons.2 ⟨by rw [List.length_map]; exact kr25.1, (fun _ h => by cases h)⟩) rfl rfl) (Flat.cons (cs := (r21.map (Value.int .u8))) (rArr_mk kr25) Flat.nil) rfl (by decide) ?_)
              intro b170 w171 X172 s173 O174 n175
              have p177 := n175 _ (OB.old k167)
              have p178 := n175 _ (OB.old k168)
              have p179 := n175 _ (OB.old k169)
              have k180 := (OB.step0 k167 s173)
              refine sq (o_pv (.agg (r21.map (Value.int .u8)).toArray) (by kernel_rfl) (x_loadA r21 (by kernel_rfl) Try.isAgg25 Try.sizeOf25 kr25 (Blk.awhole k180.2.1)) ?_)
              refine sq (o_call 15 #[(.slice (some ⟨b170, 0, none⟩) ([r21]).length 1), (.agg (r21.map (Value.int .u8)).toArray), (.int .i64 (4 : Int))] (by kernel_rfl) (x_call Try.call15 (by rw [← show 1 = ([r21]).length from O174.1]; kernel_rfl)) (sha_Short_w (X := []) (all := [r21]) (id := r21) (least := (4 : Int)) (Old.nil _) (OS.rd O174) kr25 (by decide) hp) ?_)
              rintro _ w182 ⟨r181, hp, e183, rfl, rr185⟩
              have s184 := Step.of0 X172 e183
              replace hp := hp rr185
              refine sq (o_pv (.bool (decide (r181 = (4 : Int)))) (by kernel_rfl) (by kernel_rfl) ?_)
              refine sq (o_pv (.bool (decide (r181 = (4 : Int)))) rfl (by kernel_rfl) ?_)
              refine sq (o_pv (.bool (decide (r181 = (4 : Int)))) rfl (by kernel_rfl) ?_)
              refine nil_ ?_
              have E186 := (Evo.then0 (Evo.then0 E176 (Step.evo s173)) e183)
              have hXo187 := (Old.step (Old.step (Old.step (Old.step hXo139 s153) s164) s173) s184)
              have hS188 := (Sub.trans (Sub.trans (Sub.trans (Sub.trans hS141 (Step.up s153)) (Step.up s164)) (Step.up s173)) (Step.up s184))
              refine then_normal (hJ137 _ _ _ ⟨[(0, (.bool (decide (r181 = (4 : Int)))))], fit_mk (fun _ _ => rfl) (by kernel_rfl) (vs_cons (by kernel_rfl) vs_nil), ?_⟩)
              exact ⟨X172, (decide (r181 = (4 : Int))), rfl, E186, hXo187, hS188, hp⟩
            ·
              replace hp := hp.2 h166
              refine sq (o_pv (.bool false) (by kernel_rfl) (x_df (p := r161 = (64 : Int)) (by kernel_rfl) h166) ?_)
              refine sq (o_pv (.bool false) rfl (by kernel_rfl) ?_)
              refine sq (o_pv (.bool false) rfl (by kernel_rfl) ?_)
              refine sq (o_not (by kernel_rfl) ?_)
              refine sq (o_not (by kernel_rfl) ?_)
              refine sq (o_not (by kernel_rfl) ?_)
              refine sq (o_not (by kernel_rfl) ?_)
              refine sq (o_not (by kernel_rfl) ?_)
              refine sq (o_pv (.bool false) rfl (by kernel_rfl) ?_)
              refine sq (o_pv (.bool false) rfl (by kernel_rfl) ?_)
              refine nil_ ?_
              have E189 := (Evo.then0 (Evo.then0 E140 e152) e163)
              have hXo190 := (Old.step (Old.step hXo139 s153) s164)
              have hS191 := (Sub.trans (Sub.trans hS141 (Step.up s153)) (Step.up s164))
              refine then_normal (hJ137 _ _ _ ⟨[(0, (.bool false))], fit_mk (fun _ _ => rfl) (by kernel_rfl) (vs_cons (by kernel_rfl) vs_nil), ?_⟩)
              exact ⟨X78, false, rfl, E189, hXo190, hS191, hp⟩
          ·
            replace hp := hp.2 h160
            refine sq (o_pv (.bool false) (by kernel_rfl) (x_bf (x_err_ne r69 hr146 Try.underlying28 (by kernel_rfl)) h160) ?_)
            refine sq (o_pv (.bool false) rfl (by kernel_rfl) ?_)
            refine sq (o_pv (.bool false) rfl (by kernel_rfl) ?_)
            refine sq (o_not (by kernel_rfl) ?_)
            refine sq (o_not (by kernel_rfl) ?_)
            refine sq (o_not (by kernel_rfl) ?_)
            refine sq (o_not (by kernel_rfl) ?_)
            refine sq (o_pv (.bool false) rfl (by kernel_rfl) ?_)
            refine sq (o_pv (.bool false) rfl (by kernel_rfl) ?_)
            refine sq (o_not (by kernel_rfl) ?_)
            refine sq (o_not (by kernel_rfl) ?_)
            refine sq (o_not (by kernel_rfl) ?_)
            refine sq (o_not (by kernel_rfl) ?_)
            refine sq (o_not (by kernel_rfl) ?_)
            refine sq (o_pv (.bool false) rfl (by kernel_rfl) ?_)
            refine sq (o_pv (.bool false) rfl (by kernel_rfl) ?_)
            refine nil_ ?_
            have E192 := (Evo.then0 E140 e152)
            have hXo193 := (Old.step hXo139 s153)
            have hS194 := (Sub.trans hS141 (Step.up s153))
            refine then_normal (hJ137 _ _ _ ⟨[(0, (.bool false))], fit_mk (fun _ _ => rfl) (by kernel_rfl) (vs_cons (by kernel_rfl) vs_nil), ?_⟩)
            exact ⟨X78, false, rfl, E192, hXo193, hS194, hp⟩
        ·
          replace hp := hp.2 h159
          refine sq (o_pv (.bool false) (by kernel_rfl) (x_df (p := (r44 : List Int) = r21) (x_arreq (i := Try.t5) (k := .u8) (xs := r44) (ys := r21) Try.underlying25 Try.underlying5 (by kernel_rfl) (by kernel_rfl) (by kernel_rfl) Try.isAgg5 kr49 kr25 (by kernel_rfl) (by kernel_rfl)) h159) ?_)
          refine sq (o_pv (.bool false) rfl (by kernel_rfl) ?_)
          refine sq (o_pv (.bool false) rfl (by kernel_rfl) ?_)
          refine sq (o_not (by kernel_rfl) ?_)
          refine sq (o_not (by kernel_rfl) ?_)
          refine sq (o_pv (.bool false) rfl (by kernel_rfl) ?_)
          refine sq (o_pv (.bool false) rfl (by kernel_rfl) ?_)
          refine sq (o_not (by kernel_rfl) ?_)
          refine sq (o_not (by kernel_rfl) ?_)
          refine sq (o_not (by kernel_rfl) ?_)
          refine sq (o_not (by kernel_rfl) ?_)
          refine sq (o_pv (.bool false) rfl (by kernel_rfl) ?_)
          refine sq (o_pv (.bool false) rfl (by kernel_rfl) ?_)
          refine sq (o_not (by kernel_rfl) ?_)
          refine sq (o_not (by kernel_rfl) ?_)
          refine sq (o_not (by kernel_rfl) ?_)
          refine sq (o_not (by kernel_rfl) ?_)
          refine sq (o_not (by kernel_rfl) ?_)
          refine sq (o_pv (.bool false) rfl (by kernel_rfl) ?_)
          refine sq (o_pv (.bool false) rfl (by kernel_rfl) ?_)
          refine nil_ ?_
          have E195 := (Evo.then0 E140 e152)
          have hXo196 := (Old.step hXo139 s153)
          have hS197 := (Sub.trans hS141 (Step.up s153))
          refine then_normal (hJ137 _ _ _ ⟨[(0, (.bool false))], fit_mk (fun _ _ => rfl) (by kernel_rfl) (vs_cons (by kernel_rfl) vs_nil), ?_⟩)
          exact ⟨X78, false, rfl, E195, hXo196, hS197, hp⟩
      ·
        replace hp := hp.2 h156
        refine sq (o_pv (.bool false) (by kernel_rfl) (x_bf (x_err_eq r45 hr144 Try.underlying28 (by kernel_rfl)) h156) ?_)
        refine sq (o_pv (.bool false) rfl (by kernel_rfl) ?_)
        refine sq (o_pv (.bool false) rfl (by kernel_rfl) ?_)
        refine sq (o_not (by kernel_rfl) ?_)
        refine sq (o_not (by kernel_rfl) ?_)
        refine sq (o_not (by kernel_rfl) ?_)
        refine sq (o_pv (.bool false) rfl (by kernel_rfl) ?_)
        refine sq (o_pv (.bool false) rfl (by kernel_rfl) ?_)
        refine sq (o_not (by kernel_rfl) ?_)
        refine sq (o_not (by kernel_rfl) ?_)
        refine sq (o_pv (.bool false) rfl (by kernel_rfl) ?_)
        refine sq (o_pv (.bool false) rfl (by kernel_rfl) ?_)
        refine sq (o_not (by kernel_rfl) ?_)
        refine sq (o_not (by kernel_rfl) ?_)
        refine sq (o_not (by kernel_rfl) ?_)
        refine sq (o_not (by kernel_rfl) ?_)
        refine sq (o_pv (.bool false) rfl (by kernel_rfl) ?_)
        refine sq (o_pv (.bool false) rfl (by kernel_rfl) ?_)
        refine sq (o_not (by kernel_rfl) ?_)
        refine sq (o_not (by kernel_rfl) ?_)
        refine sq (o_not (by kernel_rfl) ?_)
        refine sq (o_not (by kernel_rfl) ?_)
        refine sq (o_not (by kernel_rfl) ?_)
        refine sq (o_pv (.bool false) rfl (by kernel_rfl) ?_)
        refine sq (o_pv (.bool false) rfl (by kernel_rfl) ?_)
        refine nil_ ?_
        have E198 := (Evo.then0 E140 e152)
        have hXo199 := (Old.step hXo139 s153)
        have hS200 := (Sub.trans hS141 (Step.up s153))
        refine then_normal (hJ137 _ _ _ ⟨[(0, (.bool false))], fit_mk (fun _ _ => rfl) (by kernel_rfl) (vs_cons (by kernel_rfl) vs_nil), ?_⟩)
        exact ⟨X78, false, rfl, E198, hXo199, hS200, hp⟩
    ·
      replace hp := hp.2 h155
      refine sq (o_pv (.bool false) rfl (x_df (p := (r150 : ByteArray) = (ByteArray.mk #[98, 97, 55, 56, 49, 54, 98, 102, 56, 102, 48, 49, 99, 102, 101, 97, 52, 49, 52, 49, 52, 48, 100, 101, 53, 100, 97, 101, 50, 50, 50, 51, 98, 48, 48, 51, 54, 49, 97, 51, 57, 54, 49, 55, 55, 97, 57, 99, 98, 52, 49, 48, 102, 102, 54, 49, 102, 50, 48, 48, 49, 53, 97, 100])) (x_streq (by kernel_rfl) (by kernel_rfl)) h155) ?_)
      refine sq (o_pv (.bool false) rfl (by kernel_rfl) ?_)
      refine sq (o_not (by kernel_rfl) ?_)
      refine sq (o_not (by kernel_rfl) ?_)
      refine sq (o_pv (.bool false) rfl (by kernel_rfl) ?_)
      refine sq (o_pv (.bool false) rfl (by kernel_rfl) ?_)
      refine sq (o_not (by kernel_rfl) ?_)
      refine sq (o_not (by kernel_rfl) ?_)
      refine sq (o_not (by kernel_rfl) ?_)
      refine sq (o_pv (.bool false) rfl (by kernel_rfl) ?_)
      refine sq (o_pv (.bool false) rfl (by kernel_rfl) ?_)
      refine sq (o_not (by kernel_rfl) ?_)
      refine sq (o_not (by kernel_rfl) ?_)
      refine sq (o_pv (.bool false) rfl (by kernel_rfl) ?_)
      refine sq (o_pv (.bool false) rfl (by kernel_rfl) ?_)
      refine sq (o_not (by kernel_rfl) ?_)
      refine sq (o_not (by kernel_rfl) ?_)
      refine sq (o_not (by kernel_rfl) ?_)
      refine sq (o_not (by kernel_rfl) ?_)
      refine sq (o_pv (.bool false) rfl (by kernel_rfl) ?_)
      refine sq (o_pv (.bool false) rfl (by kernel_rfl) ?_)
      refine sq (o_not (by kernel_rfl) ?_)
      refine sq (o_not (by kernel_rfl) ?_)
      refine sq (o_not (by kernel_rfl) ?_)
      refine sq (o_not (by kernel_rfl) ?_)
      refine sq (o_not (by kernel_rfl) ?_)
      refine sq (o_pv (.bool false) rfl (by kernel_rfl) ?_)
      refine sq (o_pv (.bool false) rfl (by kernel_rfl) ?_)
      refine nil_ ?_
      have E201 := (Evo.then0 E140 e152)
      have hXo202 := (Old.step hXo139 s153)
      have hS203 := (Sub.trans hS141 (Step.up s153))
      refine then_normal (hJ137 _ _ _ ⟨[(0, (.bool false))], fit_mk (fun _ _ => rfl) (by kernel_rfl) (vs_cons (by kernel_rfl) vs_nil), ?_⟩)
      exact ⟨X78, false, rfl, E201, hXo202, hS203, hp⟩
  ·
    rintro _ w134 g204 ⟨X135, s131, rfl, E147, hXo148, hS149, hv138⟩
    replace hp := hk133 s131 hv138
    refine then_normal (K93 _ _ _ _ ?_)
    refine wp_ret ?_
    refine end_ret hQ (.bool s131) (by kernel_rfl) ?_
    exact ⟨s131, hp, E147, rfl⟩

def rectoref2_table_p (Q : (List Int) → Prop) : Prop :=
  (∀ l13 : List Int, l13 = ([1116352408, 1899447441, 3049323471, 3921009573, 961987163, 1508970993, 2453635748, 2870763221, 3624381080, 310598401, 607225278, 1426881987, 1925078388, 2162078206, 2614888103, 3248222580, 3835390401, 4022224774, 264347078, 604807628, 770255983, 1249150122, 1555081692, 1996064986, 2554220882, 2821834349, 2952996808, 3210313671, 3336571891, 3584528711, 113926993, 338241895, 666307205, 773529912, 1294757372, 1396182291, 1695183700, 1986661051, 2177026350, 2456956037, 2730485921, 2820302411, 3259730800, 3345764771, 3516065817, 3600352804, 4094571909, 275423344, 430227734, 506948616, 659060556, 883997877, 958139571, 1322822218, 1537002063, 1747873779, 1955562222, 2024104815, 2227730452, 2361852424, 2428436474, 2756734187, 3204031479, 3329325298] : List Int) → Q l13)
set_option maxRecDepth 20000 in
set_option maxHeartbeats 4000000 in
theorem rectoref2_table_w {X : List Nat} {w : World} {Q : (List Int) → Prop} (hX0 : Old X w) (hp : rectoref2_table_p Q) :
    Calls Try.prog 28 #[] w (Ret fun v w' => ∃ (r0 : (List Int)), Q r0 ∧ Evo [] w w' ∧ v = (.agg (r0.map (Value.int .u32)).toArray) ∧ okArr .u32 64 r0) := by
  have hXo := hX0
  have E0 : Evo [] w w := RB.refl _ _ _
  have hS : Sub X X := Sub.refl _
  unfold rectoref2_table_p at hp
  refine enter_ Try.func28 rfl 2 [] (by kernel_rfl) (fun Qe hQ => ?_)
  refine seq_ (fun _ K1 => ?_)
  refine reg_ ?_
  refine sq (o_newX ((List.replicate 64 (0 : Int)).map (Value.int .u32)) 53 (X := X) (B := w.heap.size) E0.size rfl (by kernel_rfl) ?_)
  intro b2 w3 X4 s5 k6 n7
  refine nil_ ?_
  refine then_normal (K1 _ _ _ _ ?_)
  refine seq_ (fun _ K8 => ?_)
  refine reg_ ?_
  refine sq (o_pv (.agg (([1116352408, 1899447441, 3049323471, 3921009573, 961987163, 1508970993, 2453635748, 2870763221, 3624381080, 310598401, 607225278, 1426881987, 1925078388, 2162078206, 2614888103, 3248222580, 3835390401, 4022224774, 264347078, 604807628, 770255983, 1249150122, 1555081692, 1996064986, 2554220882, 2821834349, 2952996808, 3210313671, 3336571891, 3584528711, 113926993, 338241895, 666307205, 773529912, 1294757372, 1396182291, 1695183700, 1986661051, 2177026350, 2456956037, 2730485921, 2820302411, 3259730800, 3345764771, 3516065817, 3600352804, 4094571909, 275423344, 430227734, 506948616, 659060556, 883997877, 958139571, 1322822218, 1537002063, 1747873779, 1955562222, 2024104815, 2227730452, 2361852424, 2428436474, 2756734187, 3204031479, 3329325298] : List Int).map (Value.int .u32)).toArray) rfl (by kernel_rfl) ?_)
  have E9 := (Evo.then0 E0 (Step.evo s5))
  refine sq (o_stW (k := .u32) (e := (List.replicate 64 (0 : Int))) (e' := ([1116352408, 1899447441, 3049323471, 3921009573, 961987163, 1508970993, 2453635748, 2870763221, 3624381080, 310598401, 607225278, 1426881987, 1925078388, 2162078206, 2614888103, 3248222580, 3835390401, 4022224774, 264347078, 604807628, 770255983, 1249150122, 1555081692, 1996064986, 2554220882, 2821834349, 2952996808, 3210313671, 3336571891, 3584528711, 113926993, 338241895, 666307205, 773529912, 1294757372, 1396182291, 1695183700, 1986661051, 2177026350, 2456956037, 2730485921, 2820302411, 3259730800, 3345764771, 3516065817, 3600352804, 4094571909, 275423344, 430227734, 506948616, 659060556, 883997877, 958139571, 1322822218, 1537002063, 1747873779, 1955562222, 2024104815, 2227730452, 2361852424, 2428436474, 2756734187, 3204031479, 3329325298] : List Int)) rfl k6 (by kernel_rfl) (by kernel_rfl) Try.sizeOf53 (okArr_rep _ _) (okArr_lit (by decide)) ?_)
  intro w10 s11 k12
  obtain ⟨l13, ql13⟩ : ∃ y, y = ([1116352408, 1899447441, 3049323471, 3921009573, 961987163, 1508970993, 2453635748, 2870763221, 3624381080, 310598401, 607225278, 1426881987, 1925078388, 2162078206, 2614888103, 3248222580, 3835390401, 4022224774, 264347078, 604807628, 770255983, 1249150122, 1555081692, 1996064986, 2554220882, 2821834349, 2952996808, 3210313671, 3336571891, 3584528711, 113926993, 338241895, 666307205, 773529912, 1294757372, 1396182291, 1695183700, 1986661051, 2177026350, 2456956037, 2730485921, 2820302411, 3259730800, 3345764771, 3516065817, 3600352804, 4094571909, 275423344, 430227734, 506948616, 659060556, 883997877, 958139571, 1322822218, 1537002063, 1747873779, 1955562222, 2024104815, 2227730452, 2361852424, 2428436474, 2756734187, 3204031479, 3329325298] : List Int) := ⟨_, rfl⟩
  replace hp := hp l13 ql13
  rw [← ql13] at k12
  have ok14 : okArr .u32 64 l13 := by rw [ql13]; exact (okArr_lit (by decide))
  refine nil_ ?_
  refine then_normal (K8 _ _ _ _ ?_)
  refine wp_ret ?_
  have E15 := (Evo.thenW E9 (Step.evo s11) k6.2.2)
  refine end_ret hQ (.agg (l13.map (Value.int .u32)).toArray) (rs_single Try.results28 (rs_aggA (e := l13) (by kernel_rfl) Try.isAgg53 Try.sizeOf53 ok14 k12.2.1)) ?_
  exact ⟨l13, hp, E15, rfl, ok14⟩

end Go.Proofs.Ytjejeipdndddpaa
