/- Walks of functions: what each asks and computes, as a plain predicate, and the contract from it. -/
import Derived.Test.YtfgmmabggjjhgaaGreatDoorChecked
import Derived.Test.YtfgmmabggjjhgaaGreatDoorStEq
import Derived.Test.YtfgmmabggjjhgaaGreatDoorKeys
namespace Go.Proofs.YtfgmmabggjjhgaaGreatDoor
open Go
structure S_files_File where
  Path : ByteArray
  Mode : Int
  Data : ByteArray
instance : Inhabited S_files_File := ⟨⟨default, default, default⟩⟩
def r_files_File : Rep S_files_File := rMap (fun d => (d.Path, (d.Mode, d.Data))) (rPair rStr (rPair (rInt .i64) rStr))
theorem r_files_File_open {X : List Nat} {w : World} {cs : List Value} {d : S_files_File} (h : r_files_File.ok X w cs d) : cs = [.string d.Path, .int .i64 d.Mode, .string d.Data] ∧ d.Path.size ≤ maxLen ∧ inR .i64 d.Mode ∧ d.Data.size ≤ maxLen := by
  obtain ⟨c6, t7, rfl, ⟨rfl, h1⟩, ⟨c4, t5, rfl, ⟨rfl, h2⟩, ⟨rfl, h3⟩⟩⟩ := h
  exact ⟨rfl, h1, h2, h3⟩
theorem r_files_File_mk {X : List Nat} {w : World} {Pathq : ByteArray} {Modeq : Int} {Dataq : ByteArray} (h1 : Pathq.size ≤ maxLen) (h2 : inR .i64 Modeq) (h3 : Dataq.size ≤ maxLen) : r_files_File.ok X w [.string Pathq, .int .i64 Modeq, .string Dataq] ⟨Pathq, Modeq, Dataq⟩ :=
  (rMap_mk _ (rPair_mk (rStr_mk h1) (rPair_mk (rInt_mk h2) (rStr_mk h3))))

def slices_Clip_string_string_p (s : (List ByteArray)) (Q : (List ByteArray) → Prop) : Prop :=
  ((s.length ≤ 9223372036854775807) → ((0 ≤ (s.length : Int) ∧ (s.length : Int) ≤ (s.length : Int)) ∧ Q s))
set_option maxRecDepth 20000 in
set_option maxHeartbeats 4000000 in
theorem slices_Clip_string_string_w {X : List Nat} {w : World} {s : (List ByteArray)} {as1 : Option Addr} {cs2 : Nat} {Q : (List ByteArray) → Prop} (hX0 : Old X w) (hs3 : Sl rStr X w as1 cs2 s) (hp : slices_Clip_string_string_p s Q) :
    Calls Tryz.prog 62 #[(.slice as1 s.length cs2)] w (Ret fun v w' => ∃ (r0 : (List ByteArray)), Q r0 ∧ Evo [] w w' ∧ ∃ (aq01 : Option Addr), v = (.slice aq01 r0.length r0.length) ∧ Sl rStr X w' aq01 r0.length r0) := by
  have hXo := hX0
  have E0 : Evo [] w w := RB.refl _ _ _
  have hS : Sub X X := Sub.refl _
  unfold slices_Clip_string_string_p at hp
  refine enter_ Tryz.func62 rfl 9 [(0, (.slice as1 s.length cs2))] (by kernel_rfl) (fun Qe hQ => ?_)
  replace hp := hp (Sl.len hs3)
  refine seq_ (fun _ K4 => ?_)
  refine reg_ ?_
  refine sq (o_pv (.slice none 0 0) rfl (by kernel_rfl) ?_)
  refine nil_ ?_
  refine then_normal (K4 _ _ _ _ ?_)
  refine seq_ (fun _ K5 => ?_)
  refine reg_ ?_
  refine sq (o_pv (.slice as1 s.length cs2) rfl (by kernel_rfl) ?_)
  refine sq (o_pv (.slice as1 s.length cs2) rfl (by kernel_rfl) ?_)
  refine sq (o_pv (.int .i64 (s.length : Int)) rfl (by kernel_rfl) ?_)
  refine sq (o_pv (.slice as1 s.length cs2) rfl (by kernel_rfl) ?_)
  refine sq (o_pv (.int .i64 (s.length : Int)) rfl (by kernel_rfl) ?_)
  obtain ⟨h9, hp⟩ := hp
  refine sq (o_slice3F (R := rStr) (k := .i64) (k' := .i64) (X := X) (L := s) (s.length : Int) Tryz.underlying37 Tryz.sizeOf9 hs3 (by kernel_rfl) rfl rfl (by kernel_rfl) (by kernel_rfl) h9 ?_)
  intro a6 h8
  rw [take_len] at h8
  rw [take_len]
  refine sq (o_pv (.slice a6 s.length s.length) rfl (by kernel_rfl) ?_)
  refine nil_ ?_
  refine then_normal (K5 _ _ _ _ ?_)
  refine wp_ret ?_
  refine end_ret hQ (.slice a6 s.length s.length) (by kernel_rfl) ?_
  exact ⟨s, hp, E0, a6, rfl, (Sl.less h8 hS)⟩
theorem slices_Clip_string_string_keep {w : World} {a : Option Addr} {m c : Nat} (hmc : m ≤ c) : Calls Tryz.prog 62 #[(.slice a m c)] w (Ret fun v w' => v = (.slice a m m) ∧ w = w') := by
  refine enter_ Tryz.func62 rfl 9 [(0, (.slice a m c))] (by kernel_rfl) (fun Qe hQ => ?_)
  refine seq_ (fun _ K4 => ?_)
  refine reg_ ?_
  refine sq (o_pv (.slice none 0 0) rfl (by kernel_rfl) ?_)
  refine nil_ ?_
  refine then_normal (K4 _ _ _ _ ?_)
  refine seq_ (fun _ K5 => ?_)
  refine reg_ ?_
  refine sq (o_pv (.slice a m c) rfl (by kernel_rfl) ?_)
  refine sq (o_pv (.slice a m c) rfl (by kernel_rfl) ?_)
  refine sq (o_pv (.int .i64 (m : Int)) rfl (by kernel_rfl) ?_)
  refine sq (o_pv (.slice a m c) rfl (by kernel_rfl) ?_)
  refine sq (o_pv (.int .i64 (m : Int)) rfl (by kernel_rfl) ?_)
  refine sq (o_slice3K (a := a) (m := m) (c := c) (k := .i64) (k' := .i64) Tryz.underlying37 Tryz.sizeOf9 (by kernel_rfl) hmc rfl (by kernel_rfl) (by kernel_rfl) ?_)
  refine sq (o_pv (.slice a m m) rfl (by kernel_rfl) ?_)
  refine nil_ ?_
  refine then_normal (K5 _ _ _ _ ?_)
  refine wp_ret ?_
  refine end_ret hQ (.slice a m m) (by kernel_rfl) ?_
  exact ⟨rfl, rfl⟩

def files_Paths_p (l : (List (List S_files_File))) (Q : (List ByteArray) → Prop) : Prop :=
  ((l.length ≤ 9223372036854775807) → (∃ (I338 : (List (ByteArray × Bool)) → Int → Prop) (m339 : (List (ByteArray × Bool)) → Int → Nat), (I338 ([] : (List (ByteArray × Bool))) (0 : Int)) ∧ (∀ (s175 : (List (ByteArray × Bool))) (s177 : Int), (I338 s175 s177) → (inR .i64 s177) → (((s177 < (l.length : Int)) → ((inL l s177) ∧ (((lget l s177).length ≤ 9223372036854775807) → (∃ (I456 : (List (ByteArray × Bool)) → Int → Prop) (m457 : (List (ByteArray × Bool)) → Int → Nat), (I456 s175 (0 : Int)) ∧ (∀ (s414 : (List (ByteArray × Bool))) (s416 : Int), (I456 s414 s416) → (inR .i64 s416) → (((s416 < ((lget l s177).length : Int)) → ((inL (lget l s177) s416) ∧ ((((lget (lget l s177) s416).Path).size ≤ maxLen) → ((inR .i64 ((lget (lget l s177) s416).Mode)) → ((((lget (lget l s177) s416).Data).size ≤ maxLen) → ((inR .i64 (s416 + (1 : Int))) ∧ ((I456 (mset s414 ((lget (lget l s177) s416).Path) true) (s416 + (1 : Int))) ∧ m457 (mset s414 ((lget (lget l s177) s416).Path) true) (s416 + (1 : Int)) < m457 s414 s416))))))) ∧ ((¬ (s416 < ((lget l s177).length : Int))) → ((inR .i64 (s177 + (1 : Int))) ∧ ((I338 s414 (s177 + (1 : Int))) ∧ m339 s414 (s177 + (1 : Int)) < m339 s175 s177))))))))) ∧ ((¬ (s177 < (l.length : Int))) → (((s175.map (·.1)).Nodup ∧ s175.length ≤ 8796093022208) ∧ Q (keysB s175)))))))
set_option maxRecDepth 20000 in
set_option maxHeartbeats 4000000 in
theorem files_Paths_w {X : List Nat} {w : World} {l : (List (List S_files_File))} {al1 : Option Addr} {cl2 : Nat} {Q : (List ByteArray) → Prop} (hX0 : Old X w) (hl3 : Sl (rSl r_files_File) X w al1 cl2 l) (hp : files_Paths_p l Q) :
    Calls Tryz.prog 185 #[(.slice al1 l.length cl2)] w (Ret fun v w' => ∃ (r0 : (List ByteArray)), Q r0 ∧ Evo [] w w' ∧ ∃ (a0 : Option Addr) (c0 : Nat), v = .slice a0 r0.length r0.length ∧ OS rStr [] w.heap.size (blkL a0 ++ X) w' 9 a0 r0.length c0 r0) := by
  have hXo := hX0
  have E0 : Evo [] w w := RB.refl _ _ _
  have hS : Sub X X := Sub.refl _
  unfold files_Paths_p at hp
  refine enter_ Tryz.func185 rfl 30 [(0, (.slice al1 l.length cl2))] (by kernel_rfl) (fun Qe hQ => ?_)
  replace hp := hp (Sl.len hl3)
  refine seq_ (fun _ K4 => ?_)
  refine reg_ ?_
  refine sq (o_pv (.slice none 0 0) rfl (by kernel_rfl) ?_)
  refine nil_ ?_
  refine then_normal (K4 _ _ _ _ ?_)
  refine seq_ (fun _ K5 => ?_)
  refine reg_ ?_
  refine sq (o_mkmap (R := rBool) (ag := false) (X := X) (B := w.heap.size) E0.size rfl ?_)
  intro r6 w7 X8 s9 m10 n11
  refine sq (o_pv (.map (some r6)) rfl (by kernel_rfl) ?_)
  refine nil_ ?_
  refine then_normal (K5 _ _ _ _ ?_)
  refine seq_ (fun _ K12 => ?_)
  refine seq_ (fun _ K13 => ?_)
  refine reg_ ?_
  refine sq (o_pv (.slice al1 l.length cl2) rfl (by kernel_rfl) ?_)
  refine sq (o_pv (.int .i64 (l.length : Int)) rfl (by kernel_rfl) ?_)
  refine sq (o_pv (.int .i64 (0 : Int)) rfl (by kernel_rfl) ?_)
  refine nil_ ?_
  refine then_normal (K13 _ _ _ _ ?_)
  refine wp_block ?_
  have hl348 := (Sl.step hl3 s9)
  have hXo349 := (Old.step hXo s9)
  have E350 := (Evo.then0 E0 (Step.evo s9))
  have hS351 := (Sub.trans hS (Step.up s9))
  obtain ⟨I338, m339, hI340, hp⟩ := hp
  refine loop_ 67106976 (fun kq lq w342 => ∃ (X343 : List Nat) (s175 : (List (ByteArray × Bool))) (s177 : Int), (lq = [(11, (.int .i64 s177))]) ∧ (kq = m339 s175 s177) ∧ (Evo [] w w342) ∧ (Old X343 w342) ∧ (Sub X X343) ∧ (Sl (rSl r_files_File) X343 w342 al1 cl2 l) ∧ (OM rBool false ([]) w.heap.size X343 w342 r6 s175) ∧ (inR .i64 s177) ∧ (I338 s175 s177)) (m339 ([] : (List (ByteArray × Bool))) (0 : Int)) [(11, (.int .i64 (0 : Int)))] (vs_cons (by kernel_rfl) vs_nil) ⟨X8, ([] : (List (ByteArray × Bool))), (0 : Int), rfl, rfl, E350, hXo349, hS351, hl348, m10, (by decide : inR .i64 (0 : Int)), hI340⟩ ?_
  rintro _ _ w342 g345 ⟨X343, s175, s177, rfl, rfl, E352, hXo353, hS354, hl355, m176, rs178, hI341⟩ Kl346 hA347
  replace hp := hp s175 s177 hI341 rs178
  refine seq_ (fun _ K356 => ?_)
  refine reg_ ?_
  refine sq (o_pv (.bool (decide (s177 < (l.length : Int)))) rfl (by kernel_rfl) ?_)
  refine nil_ ?_
  refine then_normal (K356 _ _ _ _ ?_)
  refine seq_ (fun _ K357 => ?_)
  refine cond_d (s177 < (l.length : Int)) (by kernel_rfl) (fun h358 => ?_) (fun h358 => ?_)
  ·
    replace hp := hp.1 h358
    refine wp_skip ?_
    refine then_normal (K357 _ _ _ _ ?_)
    refine seq_ (fun _ K359 => ?_)
    refine wp_block ?_
    refine seq_ (fun _ K360 => ?_)
    refine reg_ ?_
    obtain ⟨h361, hp⟩ := hp
    obtain ⟨b362, o363, cs364, ha365, nx366, lt367, ok368, hc369⟩ := Sl.atI hl355 s177 h361
    obtain ⟨ae370, ce371, rfl, he372⟩ := ok368
    replace hp := hp (Sl.len he372)
    refine sq (o_pv (.pointer (some ⟨b362, o363 + s177.toNat * 1, none⟩)) rfl (x_ixA (m := l.length) (c := cl2) (k := .i64) (i := s177) Tryz.underlying305 Tryz.sizeOf24 (by rw [← ha365]; kernel_rfl) (by kernel_rfl) h361) ?_)
    refine sq (o_pv (.slice ae370 ((lget l s177).length) ce371) rfl (x_load1 (by kernel_rfl) Tryz.isAgg24 (hc369 0 _ rfl)) ?_)
    refine sq (o_pv (.slice ae370 ((lget l s177).length) ce371) rfl (by kernel_rfl) ?_)
    refine nil_ ?_
    refine then_normal (K360 _ _ _ _ ?_)
    refine seq_ (fun _ K373 => ?_)
    refine reg_ ?_
    refine sq (o_pv (.slice ae370 ((lget l s177).length) ce371) rfl (by kernel_rfl) ?_)
    refine sq (o_pv (.int .i64 ((lget l s177).length : Int)) rfl (by kernel_rfl) ?_)
    refine sq (o_pv (.int .i64 (0 : Int)) rfl (by kernel_rfl) ?_)
    refine nil_ ?_
    refine then_normal (K373 _ _ _ _ ?_)
    refine wp_block ?_
    obtain ⟨I456, m457, hI458, hp⟩ := hp
    refine loop_ 33423488 (fun kq lq w460 => ∃ (X461 : List Nat) (s414 : (List (ByteArray × Bool))) (s416 : Int), (lq = [(17, (.int .i64 s416))]) ∧ (kq = m457 s414 s416) ∧ (Evo [] w w460) ∧ (Old X461 w460) ∧ (Sub X X461) ∧ (Sl (rSl r_files_File) X461 w460 al1 cl2 l) ∧ (Sl r_files_File X461 w460 ae370 ce371 (lget l s177)) ∧ (OM rBool false ([]) w.heap.size X461 w460 r6 s414) ∧ (inR .i64 s416) ∧ (I456 s414 s416)) (m457 s175 (0 : Int)) [(17, (.int .i64 (0 : Int)))] (vs_cons (by kernel_rfl) vs_nil) ⟨X343, s175, (0 : Int), rfl, rfl, E352, hXo353, hS354, hl355, he372, m176, (by decide : inR .i64 (0 : Int)), hI458⟩ ?_
    rintro _ _ w460 g463 ⟨X461, s414, s416, rfl, rfl, E466, hXo467, hS468, hl469, he470, m415, rs417, hI459⟩ Kl464 hA465
    replace hp := hp s414 s416 hI459 rs417
    refine seq_ (fun _ K471 => ?_)
    refine reg_ ?_
    refine sq (o_pv (.bool (decide (s416 < ((lget l s177).length : Int)))) rfl (by kernel_rfl) ?_)
    refine nil_ ?_
    refine then_normal (K471 _ _ _ _ ?_)
    refine seq_ (fun _ K472 => ?_)
    refine cond_d (s416 < ((lget l s177).length : Int)) (by kernel_rfl) (fun h473 => ?_) (fun h473 => ?_)
    ·
      replace hp := hp.1 h473
      refine wp_skip ?_
      refine then_normal (K472 _ _ _ _ ?_)
      refine seq_ (fun _ K474 => ?_)
      refine wp_block ?_
      refine seq_ (fun _ K475 => ?_)
      refine reg_ ?_
      obtain ⟨h476, hp⟩ := hp
      obtain ⟨b477, o478, cs479, ha480, nx481, lt482, ok483, hc484⟩ := Sl.atI he470 s416 h476
      obtain ⟨rfl, zePath485, reMode486, zeData487⟩ := r_files_File_open ok483
      replace hp := hp zePath485
      replace hp := hp reMode486
      replace hp := hp zeData487
      refine sq (o_pv (.pointer (some ⟨b477, o478 + s416.toNat * 3, none⟩)) rfl (x_ixA (m := (lget l s177).length) (c := ce371) (k := .i64) (i := s416) Tryz.underlying24 Tryz.sizeOf76 (by rw [← ha480]; kernel_rfl) (by kernel_rfl) h476) ?_)
      refine sq (o_pv (.agg #[(.string ((lget (lget l s177) s416).Path)), (.int .i64 ((lget (lget l s177) s416).Mode)), (.string ((lget (lget l s177) s416).Data))]) rfl (x_loadN [(.string ((lget (lget l s177) s416).Path)), (.int .i64 ((lget (lget l s177) s416).Mode)), (.string ((lget (lget l s177) s416).Data))] (by kernel_rfl) Tryz.isAgg76 Tryz.sizeOf76 hc484) ?_)
      refine sq (o_newX [(.string (ByteArray.mk #[])), (.int .i64 (0 : Int)), (.string (ByteArray.mk #[]))] 76 (X := X461) (B := w.heap.size) E466.size rfl (by kernel_rfl) ?_)
      intro b488 w489 X490 s491 k492 n493
      have p494 := n493 _ (OM.old m415)
      have m495 := (OM.step0 m415 s491)
      have E496 := (Evo.then0 E466 (Step.evo s491))
      refine sq (o_stB (o := 0) (v := (.agg #[(.string ((lget (lget l s177) s416).Path)), (.int .i64 ((lget (lget l s177) s416).Mode)), (.string ((lget (lget l s177) s416).Data))])) [(.string ((lget (lget l s177) s416).Path)), (.int .i64 ((lget (lget l s177) s416).Mode)), (.string ((lget (lget l s177) s416).Data))] rfl k492 (by kernel_rfl) (by kernel_rfl) Tryz.sizeOf76 rfl rfl rfl ?_)
      intro w497 s498 k499
      refine nil_ ?_
      refine then_normal (K475 _ _ _ _ ?_)
      refine reg_ ?_
      refine sq (o_pv (.map (some r6)) rfl (by kernel_rfl) ?_)
      refine sq (o_pv (.pointer (some ⟨b488, 0, none⟩)) rfl (by kernel_rfl) ?_)
      refine sq (o_pv (.string ((lget (lget l s177) s416).Path)) rfl (x_load1 (by kernel_rfl) Tryz.isAgg9 (k499.2.1.cell' 0 rfl)) ?_)
      have m500 := (OM.step m495 s498 p494)
      refine sq (o_mapset (cs := [(.bool true)]) (d := true) rfl m500 Tryz.underlying306 Tryz.underlying9 (by kernel_rfl) (by kernel_rfl) (by kernel_rfl) rBool_mk zePath485 ?_)
      intro w501 s502 m503
      refine nil_ ?_
      refine blk_normal ?_
      refine then_normal (K474 _ _ _ _ ?_)
      refine reg_ ?_
      obtain ⟨h504, hp⟩ := hp
      refine sq (o_pv (.int .i64 (s416 + (1 : Int))) rfl (x_add2 (k := .i64) (a := s416) (b := (1 : Int)) (s416 + (1 : Int)) (by kernel_rfl) (by kernel_rfl) (wrap_inR h504)) ?_)
      refine sq (o_pv (.int .i64 (s416 + (1 : Int))) rfl (by kernel_rfl) ?_)
      refine nil_ ?_
      have E505 := (Evo.thenW (Evo.thenW E496 (Step.evo s498) k492.2.2) (Step.evo s502) m500.2.2)
      have hXo506 := (Old.step (Old.step (Old.step hXo467 s491) s498) s502)
      have hS507 := (Sub.trans (Sub.trans (Sub.trans hS468 (Step.up s491)) (Step.up s498)) (Step.up s502))
      have hl508 := (Sl.step (Sl.step (Sl.step hl469 s491) s498) s502)
      have he509 := (Sl.step (Sl.step (Sl.step he470 s491) s498) s502)
      refine then_normal (hA465 _ _ _ ⟨_, [(17, (.int .i64 (s416 + (1 : Int))))], hp.2, fit_mk (AgB.mix _ _ _) (by kernel_rfl) (vs_cons (by kernel_rfl) vs_nil), ?_⟩)
      exact ⟨X490, (mset s414 ((lget (lget l s177) s416).Path) true), (s416 + (1 : Int)), rfl, rfl, E505, hXo506, hS507, hl508, he509, m503, h504, hp.1⟩
    ·
      replace hp := hp.2 h473
      refine wp_exit ?_
      refine then_exit ?_
      refine then_exit ?_
      refine blk_exit ?_
      refine blk_normal ?_
      refine then_normal (K359 _ _ _ _ ?_)
      refine reg_ ?_
      obtain ⟨h510, hp⟩ := hp
      refine sq (o_pv (.int .i64 (s177 + (1 : Int))) rfl (x_add2 (k := .i64) (a := s177) (b := (1 : Int)) (s177 + (1 : Int)) (by kernel_rfl) (by kernel_rfl) (wrap_inR h510)) ?_)
      refine sq (o_pv (.int .i64 (s177 + (1 : Int))) rfl (by kernel_rfl) ?_)
      refine nil_ ?_
      refine then_normal (hA347 _ _ _ ⟨_, [(11, (.int .i64 (s177 + (1 : Int))))], hp.2, fit_mk (AgB.nest (AgB.mix _ _ _) (by kernel_rfl) (by kernel_rfl)) (by kernel_rfl) (vs_cons (by kernel_rfl) vs_nil), ?_⟩)
      exact ⟨X461, s414, (s177 + (1 : Int)), rfl, rfl, E466, hXo467, hS468, hl469, m415, h510, hp.1⟩
  ·
    replace hp := hp.2 h358
    refine wp_exit ?_
    refine then_exit ?_
    refine then_exit ?_
    refine blk_exit ?_
    refine then_normal (K12 _ _ _ _ ?_)
    refine seq_ (fun _ K511 => ?_)
    refine reg_ ?_
    refine sq (o_pv (.map (some r6)) rfl (by kernel_rfl) ?_)
    refine sq (o_call 259 #[(.map (some r6))] rfl (x_call Tryz.call259 (by kernel_rfl)) (mkeys_w (X := X343) (B := w.heap.size) E352.size) ?_)
    rintro _ w513 ⟨kb512, X514, rfl, s515, k516, n517⟩
    have p518 := n517 _ (OM.old m176)
    have m519 := (OM.step0 m176 s515)
    obtain ⟨h520, hp⟩ := hp
    have E528 := (Evo.then0 E352 (Step.evo s515))
    refine sq (o_call 258 #[(.func (.func 300) #[] #[(.pointer (some ⟨kb512, 0, none⟩))])] rfl (x_call Tryz.call258 (by kernel_rfl)) (mkeys_sorted_w (X := X514) (B := w.heap.size) E528.size k516.2.1 m519.2.1 h520) ?_)
    rintro _ w523 ⟨a521, c522, X524, rfl, s525, O526, n527⟩
    have p529 := n527 _ (OM.old m519)
    have p530 := n527 _ (OB.old k516)
    refine sq (o_call 62 #[(.slice a521 ((keysB s175).length) c522)] rfl (x_call Tryz.call62 (by kernel_rfl)) (slices_Clip_string_string_keep (OS.nc O526)) ?_)
    rintro _ _ ⟨rfl, rfl⟩
    refine sq (o_pv (.slice a521 ((keysB s175).length) ((keysB s175).length)) rfl (by kernel_rfl) ?_)
    refine nil_ ?_
    refine then_normal (K511 _ _ _ _ ?_)
    refine wp_ret ?_
    have hS531 := (Sub.trans (Sub.trans hS354 (Step.up s515)) (Step.up s525))
    have E532 := (Evo.then0 E528 (Step.evo s525))
    refine end_ret hQ (.slice a521 ((keysB s175).length) ((keysB s175).length)) (by kernel_rfl) ?_
    exact ⟨(keysB s175), hp, E532, a521, c522, rfl, (OS.give O526 hS531)⟩

end Go.Proofs.YtfgmmabggjjhgaaGreatDoor
