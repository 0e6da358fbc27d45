/- Plain laws of chapter 3: numbers and texts, written and read. -/
import Derived.Test.YtdnahdcjnahfkaaGreatDoorChecked
import Derived.Test.YtdnahdcjnahfkaaGreatDoorStEq
namespace Go.Proofs.YtdnahdcjnahfkaaGreatDoor
open Go
variable {tyE : TypeId}
structure S_codec_Dec where
  b : (List Int)
  at_ : Int
  err : PErr
instance : Inhabited S_codec_Dec := ⟨⟨default, default, default⟩⟩
/-- A slice that lies in one place all the while. -/
def rSlF {α : Type} (a0 : Option Addr) (c0 : Nat) (R : Rep α) : Rep (List α) where
  n := 1
  ok X w cs L := cs = [.slice a0 L.length c0] ∧ Sl R X w a0 c0 L
  len h := by rw [h.1]; rfl
  evo h e s := ⟨h.1, h.2.evo e s⟩
  sub h s := ⟨h.1, h.2.sub s⟩
  one h u hu := by rw [h.1] at hu; simp at hu; subst hu; rfl
theorem rSlF_mk {α : Type} {R : Rep α} {X : List Nat} {w : World} {a0 : Option Addr} {c0 n : Nat} {L : List α} (h : Sl R X w a0 c0 L) (hn : n = L.length) : (rSlF a0 c0 R).ok X w [.slice a0 n c0] L := by subst hn; exact ⟨rfl, h⟩
variable {a0 : Option Addr} {c0 : Nat}
def o_codec_Dec (a0 : Option Addr) (c0 : Nat) : Obj S_codec_Dec := oMap (fun d => (d.b, (d.at_, d.err))) (oPair (oRd (rSlF a0 c0 (rInt .u8))) (oPair (oRd (rInt .i64)) (oRd (rOne (rErr 68 70 72)))))
theorem o_codec_Dec_open {X F G : List Nat} {w : World} {B b : Nat} {d : S_codec_Dec} (h : MO (o_codec_Dec a0 c0) 213 G B X w F b d) : ∃ (v5 : Value), OB G B X w b [.slice a0 d.b.length c0, .int .i64 d.at_, v5] 213 ∧ Sl (rInt .u8) X w a0 c0 d.b ∧ inR .i64 d.at_ ∧ (rErr 68 70 72).ok X w [v5] d.err ∧ Sub [b] F := by
  obtain ⟨⟨cs, F1, rfl, hb, hn, hk, hO⟩, hw⟩ := h
  obtain ⟨_, _, _, _, rfl, rfl, ap0, ⟨rfl, ⟨rfl, h3⟩⟩, ⟨_, _, _, _, rfl, rfl, ap1, ⟨rfl, ⟨rfl, h4⟩⟩, ⟨rfl, ⟨v5, rfl, h6⟩⟩⟩⟩ := hO
  exact ⟨v5, ⟨hb, hk, hw.sub (Sub.hd _ _)⟩, h3, h4, h6, Sub.hd _ _⟩
theorem o_codec_Dec_mk {X G : List Nat} {w : World} {B b : Nat} {bq : (List Int)} {at_q : Int} {errq : PErr} {m4 : Nat} {v6 : Value} (hb : OB G B X w b [.slice a0 m4 c0, .int .i64 at_q, v6] 213) (h3 : Sl (rInt .u8) X w a0 c0 bq) (h3n : m4 = bq.length) (h5 : inR .i64 at_q) (h7 : (rErr 68 70 72).ok X w [v6] errq) : MO (o_codec_Dec a0 c0) 213 G B X w (b :: ([] ++ ([] ++ ([])))) b ⟨bq, at_q, errq⟩ :=
  MO.mk (O := o_codec_Dec a0 c0) hb (Ap.app (Ap.nil_r _) (Ap.app (Ap.nil_r _) (Ap.nil_r _))) (show (o_codec_Dec a0 c0).ok _ X w _ _ from (oPair_mk (Ap.nil_l _) (oRd_mk (rSlF_mk h3 h3n)) (oPair_mk (Ap.nil_l _) (oRd_mk (rInt_mk h5)) (oRd_mk (rOne_mk h7))))) (Wr.app (Wr.nil _ _) (Wr.app (Wr.nil _ _) (Wr.nil _ _)))
structure S_codec_Enc where
  b : (List Int)
instance : Inhabited S_codec_Enc := ⟨⟨default⟩⟩
def o_codec_Enc : Obj S_codec_Enc := oMap (fun d => d.b) (oOwn (rInt .u8) 5)
theorem o_codec_Enc_open {X F G : List Nat} {w : World} {B b : Nat} {d : S_codec_Enc} (h : MO o_codec_Enc tyE G B X w F b d) : ∃ (a1 : Option Addr) (n2 : Nat) (c3 : Nat), OB G B X w b [.slice a1 n2 c3] tyE ∧ OS (rInt .u8) G B X w 5 a1 n2 c3 d.b ∧ Sub [b] F ∧ Sub (blkL a1) F ∧ Ap [b] (blkL a1) := by
  obtain ⟨⟨cs, F1, rfl, hb, hn, hk, hO⟩, hw⟩ := h
  obtain ⟨a1, c3, rfl, rfl, h4⟩ := hO
  exact ⟨a1, _, c3, ⟨hb, hk, hw.sub (Sub.hd _ _)⟩, ⟨rfl, h4, hw.sub (Sub.trans (Sub.refl _) (Sub.tl _ _))⟩, Sub.hd _ _, (Sub.trans (Sub.refl _) (Sub.tl _ _)), (of_notin hn).subr (Sub.refl _)⟩
theorem o_codec_Enc_mk {X G : List Nat} {w : World} {B b : Nat} {bq : (List Int)} {a1 : Option Addr} {m2 : Nat} {c3 : Nat} (hb : OB G B X w b [.slice a1 m2 c3] tyE) (h4 : OS (rInt .u8) G B X w 5 a1 m2 c3 bq) (pb0 : Ap [b] (blkL a1)) : MO o_codec_Enc tyE G B X w (b :: (blkL a1)) b ⟨bq⟩ :=
  MO.mk (O := o_codec_Enc) hb pb0 (show o_codec_Enc.ok _ X w _ _ from (oOwn_mk h4)) h4.wr
theorem elT44 : ElemT Tryz.prog 44 5 1 1 := elemT_mk (i := Tryz.t5) (z := (.int .u8 0)) (by kernel_rfl) (by kernel_rfl) (by kernel_rfl) (by kernel_rfl) Tryz.underlying44 Tryz.sizeOf5 (by decide) (by decide)
def codec_Dec_uint_p (d : S_codec_Dec) (Q : S_codec_Dec → Int → Int → Prop) : Prop :=
  (∃ k350 : S_codec_Dec → Prop, (∀ (o347 : S_codec_Dec), k350 o347 → Q o347 (0 : Int) (2 : Int)) ∧ (∃ (I584 : Int → Int → S_codec_Dec → Prop) (m585 : Int → Int → S_codec_Dec → Nat), (I584 (0 : Int) (0 : Int) d) ∧ (∀ (v471 : Int) (s473 : Int) (o475 : S_codec_Dec), (I584 v471 s473 o475) → (inR .u64 v471) → (inR .i64 s473) → (((s473 < (10 : Int)) → ((o475.b.length ≤ 9223372036854775807) → ((inR .i64 o475.at_) → ((inR .i64 (o475.at_ + s473)) ∧ ((((o475.at_ + s473) ≥ (o475.b.length : Int)) → Q o475 (0 : Int) (3 : Int)) ∧ ((¬ ((o475.at_ + s473) ≥ (o475.b.length : Int))) → ((inR .i64 (o475.at_ + s473)) ∧ ((inL o475.b (o475.at_ + s473)) ∧ ((inR .u8 (lget o475.b (o475.at_ + s473))) → (∃ k664 : Bool → Prop, (∀ (s663 : Bool), k664 s663 → (((s663 = true) → (k350 o475)) ∧ ((s663 = false) → ((inR .i64 ((7 : Int) * s473)) ∧ ((0 ≤ ((7 : Int) * s473)) ∧ (∀ y691 : Int, y691 = (ishl .u64 (iand .u8 (lget o475.b (o475.at_ + s473)) (127 : Int)) ((7 : Int) * s473)) → ((((lget o475.b (o475.at_ + s473)) < (128 : Int)) → ((inR .i64 (s473 + (1 : Int))) ∧ ((inR .i64 (o475.at_ + (s473 + (1 : Int)))) ∧ Q (S_codec_Dec.mk o475.b (o475.at_ + (s473 + (1 : Int))) o475.err) (ior .u64 v471 y691) (0 : Int)))) ∧ ((¬ ((lget o475.b (o475.at_ + s473)) < (128 : Int))) → ((inR .i64 (s473 + (1 : Int))) ∧ ((I584 (ior .u64 v471 y691) (s473 + (1 : Int)) o475) ∧ m585 (ior .u64 v471 y691) (s473 + (1 : Int)) o475 < m585 v471 s473 o475)))))))))) ∧ (((s473 = (9 : Int)) → ((((lget o475.b (o475.at_ + s473)) > (1 : Int)) → (k664 true)) ∧ ((¬ ((lget o475.b (o475.at_ + s473)) > (1 : Int))) → (((s473 > (0 : Int)) → (k664 (decide ((lget o475.b (o475.at_ + s473)) = (0 : Int))))) ∧ ((¬ (s473 > (0 : Int))) → (k664 false)))))) ∧ ((¬ (s473 = (9 : Int))) → (((s473 > (0 : Int)) → (k664 (decide ((lget o475.b (o475.at_ + s473)) = (0 : Int))))) ∧ ((¬ (s473 > (0 : Int))) → (k664 false))))))))))))))) ∧ ((¬ (s473 < (10 : Int))) → (k350 o475))))))
set_option maxRecDepth 20000 in
set_option maxHeartbeats 4000000 in
theorem codec_Dec_uint_w {X : List Nat} {w : World} {d : S_codec_Dec} {bd1 : Nat} {Fd2 : List Nat} {Q : S_codec_Dec → Int → Int → Prop} (hX0 : Old X w) (md3 : MO (o_codec_Dec a0 c0) 213 Fd2 w.heap.size X w Fd2 bd1 d) (hp : codec_Dec_uint_p d Q) :
    Calls Tryz.prog 232 #[(.pointer (some ⟨bd1, 0, none⟩))] w (Ret fun v w' => ∃ (m0 : S_codec_Dec) (r0 : Int) (r1 : Int), Q m0 r0 r1 ∧ ∃ (X' : List Nat) (Fm0 : List Nat), Step X w Fd2 X' w' ∧ v = .tuple #[(.int .u64 r0), (.int .i64 r1)] ∧ MO (o_codec_Dec a0 c0) 213 Fd2 w.heap.size X' w' Fm0 bd1 m0 ∧ inR .u64 r0 ∧ inR .i64 r1) := by
  have hXo := hX0
  have E0 : Evo Fd2 w w := RB.refl _ _ _
  have hS : Sub X X := Sub.refl _
  have hN : News X w X w := News.refl _ _
  have hF0 : Sub Fd2 X := MO.mem md3
  unfold codec_Dec_uint_p at hp
  refine enter_ Tryz.func232 rfl 69 [(0, (.pointer (some ⟨bd1, 0, none⟩)))] (by kernel_rfl) (fun Qe hQ => ?_)
  refine seq_ (fun _ K4 => ?_)
  refine reg_ ?_
  refine sq (o_pv (.int .u64 (0 : Int)) rfl (by kernel_rfl) ?_)
  refine sq (o_pv (.int .i64 (0 : Int)) rfl (by kernel_rfl) ?_)
  refine nil_ ?_
  refine then_normal (K4 _ _ _ _ ?_)
  refine seq_ (fun _ K5 => ?_)
  refine reg_ ?_
  refine sq (o_pv (.int .u64 (0 : Int)) rfl (by kernel_rfl) ?_)
  refine nil_ ?_
  refine then_normal (K5 _ _ _ _ ?_)
  refine seq_ (fun _ K6 => ?_)
  refine seq_ (fun _ K7 => ?_)
  refine reg_ ?_
  refine sq (o_pv (.int .i64 (0 : Int)) rfl (by kernel_rfl) ?_)
  refine nil_ ?_
  refine then_normal (K7 _ _ _ _ ?_)
  obtain ⟨k350, hk351, hp⟩ := hp
  refine ground_ ?_
  refine join_ 590295810358705651708 (fun lq w352 => ∃ (X353 : List Nat) (o347 : S_codec_Dec) (F348 : List Nat), (lq = []) ∧ (Evo Fd2 w w352) ∧ (Old X353 w352) ∧ (Sub X X353) ∧ (News X w X353 w352) ∧ (MO (o_codec_Dec a0 c0) 213 Fd2 w.heap.size X353 w352 F348 bd1 o347) ∧ (k350 o347)) (fun Kj354 hJ355 => ?_) ?_
  ·
    refine wp_block ?_
    obtain ⟨I584, m585, hI586, hp⟩ := hp
    refine loop_ 590295810358705651708 (fun kq lq w588 => ∃ (X589 : List Nat) (v471 : Int) (s473 : Int) (o475 : S_codec_Dec) (F476 : List Nat), (lq = [(4, (.int .u64 v471)), (7, (.int .i64 s473))]) ∧ (kq = m585 v471 s473 o475) ∧ (Evo Fd2 w w588) ∧ (Old X589 w588) ∧ (Sub X X589) ∧ (News X w X589 w588) ∧ (MO (o_codec_Dec a0 c0) 213 Fd2 w.heap.size X589 w588 F476 bd1 o475) ∧ (inR .u64 v471) ∧ (inR .i64 s473) ∧ (I584 v471 s473 o475)) (m585 (0 : Int) (0 : Int) d) [(4, (.int .u64 (0 : Int))), (7, (.int .i64 (0 : Int)))] (vs_cons (by kernel_rfl) (vs_cons (by kernel_rfl) vs_nil)) ⟨X, (0 : Int), (0 : Int), d, Fd2, rfl, rfl, E0, hXo, hS, hN, md3, (by decide : inR .u64 (0 : Int)), (by decide : inR .i64 (0 : Int)), hI586⟩ ?_
    rintro _ _ w588 g591 ⟨X589, v471, s473, o475, F476, rfl, rfl, E594, hXo595, hS596, hN597, m477, rv472, rs474, hI587⟩ Kl592 hA593
    replace hp := hp v471 s473 o475 hI587 rv472 rs474
    refine seq_ (fun _ K598 => ?_)
    refine reg_ ?_
    refine sq (o_pv (.bool (decide (s473 < (10 : Int)))) rfl (by kernel_rfl) ?_)
    refine nil_ ?_
    refine then_normal (K598 _ _ _ _ ?_)
    refine seq_ (fun _ K599 => ?_)
    refine cond_d (s473 < (10 : Int)) (by kernel_rfl) (fun h600 => ?_) (fun h600 => ?_)
    ·
      replace hp := hp.1 h600
      refine wp_skip ?_
      refine then_normal (K599 _ _ _ _ ?_)
      refine seq_ (fun _ K601 => ?_)
      refine wp_block ?_
      refine seq_ (fun _ K602 => ?_)
      refine reg_ ?_
      refine sq (o_pv (.int .i64 s473) rfl (by kernel_rfl) ?_)
      refine sq (o_pv (.int .i64 s473) rfl (by kernel_rfl) ?_)
      refine nil_ ?_
      refine then_normal (K602 _ _ _ _ ?_)
      refine seq_ (fun _ K603 => ?_)
      refine seq_ (fun _ K604 => ?_)
      obtain ⟨voerr609, k611, hob607, roat_608, hoerr610, sb612⟩ := o_codec_Dec_open m477
      replace hp := hp (Sl.len hob607)
      replace hp := hp roat_608
      refine reg_drawn (RB w588.heap.size []) 12 (by kernel_rfl) (fun w613 hd614 => ?_)
      have e615 := Evo.of_drew hd614
      have z616 : w613.heap.size = w588.heap.size := by rw [hd614]
      clear hd614
      have s618 := Step.of0 X589 e615
      have er617 := RB.refl w588.heap.size [] w613
      have E619 := (Evo.then0 E594 (Step.evo s618))
      have hXo620 := (Old.step hXo595 s618)
      have hS621 := (Sub.trans hS596 (Step.up s618))
      have hN622 := (News.step hN597 s618)
      have k623 := (OB.step0 k611 s618)
      have hob624 := (Sl.step hob607 s618)
      have hoerr625 := (Rep.step (rErr 68 70 72) hoerr610 s618)
      refine r_take 0 (.pointer (some ⟨bd1, 0, none⟩)) (RB.pre _ _) rfl (by kernel_rfl) (fun _ _ _ h => hQ.panic _ _ _ _ _ h) (.inl ⟨rfl, fun wq hq => (by kernel_rfl)⟩) ?_
      refine r_take 1 (.pointer (some ⟨bd1, 0, none⟩)) (RB.pre _ _) rfl (by kernel_rfl) (fun _ _ _ h => hQ.panic _ _ _ _ _ h) (.inl ⟨rfl, fun wq hq => (by kernel_rfl)⟩) ?_
      refine r_take 2 (.pointer (some ⟨bd1, 1, none⟩)) (RB.pre _ _) rfl (by kernel_rfl) (fun _ _ _ h => hQ.panic _ _ _ _ _ h) (.inl ⟨rfl, fun wq hq => (by kernel_rfl)⟩) ?_
      refine r_take 3 (.int .i64 o475.at_) (RB.pre _ _) rfl (by kernel_rfl) (fun _ _ _ h => hQ.panic _ _ _ _ _ h) (.inl ⟨rfl, fun wq hq => (x_load1 (by kernel_rfl) Tryz.isAgg3 ((Blk.rb k623.2.1 (RB.trans er617 hq) (Nat.lt_of_lt_of_eq (Blk.lt k623.2.1) z616) (fun h => by cases h)).cell' 1 rfl))⟩) ?_
      refine r_take 4 (.int .i64 s473) (RB.pre _ _) rfl (by kernel_rfl) (fun _ _ _ h => hQ.panic _ _ _ _ _ h) (.inl ⟨rfl, fun wq hq => (by kernel_rfl)⟩) ?_
      obtain ⟨h626, hp⟩ := hp
      refine r_take 5 (.int .i64 (o475.at_ + s473)) (RB.pre _ _) rfl (by kernel_rfl) (fun _ _ _ h => hQ.panic _ _ _ _ _ h) (.inl ⟨rfl, fun wq hq => (x_add2 (k := .i64) (a := o475.at_) (b := s473) (o475.at_ + s473) (by kernel_rfl) (by kernel_rfl) (wrap_inR h626))⟩) ?_
      refine r_take 6 (.pointer (some ⟨bd1, 0, none⟩)) (RB.pre _ _) rfl (by kernel_rfl) (fun _ _ _ h => hQ.panic _ _ _ _ _ h) (.inl ⟨rfl, fun wq hq => (by kernel_rfl)⟩) ?_
      refine r_take 7 (.pointer (some ⟨bd1, 0, none⟩)) (RB.pre _ _) rfl (by kernel_rfl) (fun _ _ _ h => hQ.panic _ _ _ _ _ h) (.inl ⟨rfl, fun wq hq => (by kernel_rfl)⟩) ?_
      refine r_take 8 (.pointer (some ⟨bd1, 0, none⟩)) (RB.pre _ _) rfl (by kernel_rfl) (fun _ _ _ h => hQ.panic _ _ _ _ _ h) (.inl ⟨rfl, fun wq hq => (by kernel_rfl)⟩) ?_
      refine r_take 9 (.slice a0 o475.b.length c0) (RB.pre _ _) rfl (by kernel_rfl) (fun _ _ _ h => hQ.panic _ _ _ _ _ h) (.inl ⟨rfl, fun wq hq => (x_load1 (by kernel_rfl) Tryz.isAgg44 ((Blk.rb k623.2.1 (RB.trans er617 hq) (Nat.lt_of_lt_of_eq (Blk.lt k623.2.1) z616) (fun h => by cases h)).cell' 0 rfl))⟩) ?_
      refine r_take 10 (.int .i64 (o475.b.length : Int)) (RB.pre _ _) rfl (by kernel_rfl) (fun _ _ _ h => hQ.panic _ _ _ _ _ h) (.inl ⟨rfl, fun wq hq => (by kernel_rfl)⟩) ?_
      refine r_take 11 (.bool (decide ((o475.at_ + s473) ≥ (o475.b.length : Int)))) (RB.pre _ _) rfl (by kernel_rfl) (fun _ _ _ h => hQ.panic _ _ _ _ _ h) (.inl ⟨rfl, fun wq hq => (by kernel_rfl)⟩) ?_
      refine r_done (by kernel_rfl) ?_
      refine then_normal (K604 _ _ _ _ ?_)
      refine cond_d ((o475.at_ + s473) ≥ (o475.b.length : Int)) (by kernel_rfl) (fun h627 => ?_) (fun h627 => ?_)
      ·
        replace hp := hp.1 h627
        refine seq_ (fun _ K628 => ?_)
        refine reg_ ?_
        refine sq (o_pv (.int .u64 (0 : Int)) rfl (by kernel_rfl) ?_)
        refine sq (o_pv (.int .i64 (3 : Int)) rfl (by kernel_rfl) ?_)
        refine nil_ ?_
        refine then_normal (K628 _ _ _ _ ?_)
        refine wp_ret ?_
        refine then_ret ?_
        refine blk_ret ?_
        refine then_ret ?_
        refine then_ret ?_
        refine blk_ret ?_
        refine then_ret ?_
        refine then_ret ?_
        obtain ⟨F629, m630, hs631⟩ := MO.pack (o_codec_Dec_mk k623 hob624 rfl roat_608 hoerr625)
        refine end_ret hQ (.tuple #[(.int .u64 (0 : Int)), (.int .i64 (3 : Int))]) (by kernel_rfl) ?_
        exact ⟨o475, (0 : Int), (3 : Int), hp, X589, F629, step_of E619 hF0 hS621 hN622, rfl, m630, (by decide : inR .u64 (0 : Int)), (by decide : inR .i64 (3 : Int))⟩
      ·
        replace hp := hp.2 h627
        refine wp_skip ?_
        refine then_normal (K603 _ _ _ _ ?_)
        refine seq_ (fun _ K632 => ?_)
        refine reg_drawn (RB w613.heap.size []) 12 (by kernel_rfl) (fun w633 hd634 => ?_)
        have e635 := Evo.of_drew hd634
        have z636 : w633.heap.size = w613.heap.size := by rw [hd634]
        clear hd634
        have s638 := Step.of0 X589 e635
        have er637 := RB.refl w613.heap.size [] w633
        have E639 := (Evo.then0 E619 (Step.evo s638))
        have hXo640 := (Old.step hXo620 s638)
        have hS641 := (Sub.trans hS621 (Step.up s638))
        have hN642 := (News.step hN622 s638)
        have k643 := (OB.step0 k623 s638)
        have hob644 := (Sl.step hob624 s638)
        have hoerr645 := (Rep.step (rErr 68 70 72) hoerr625 s638)
        refine r_take 0 (.pointer (some ⟨bd1, 0, none⟩)) (RB.pre _ _) rfl (by kernel_rfl) (fun _ _ _ h => hQ.panic _ _ _ _ _ h) (.inl ⟨rfl, fun wq hq => (by kernel_rfl)⟩) ?_
        refine r_take 1 (.pointer (some ⟨bd1, 0, none⟩)) (RB.pre _ _) rfl (by kernel_rfl) (fun _ _ _ h => hQ.panic _ _ _ _ _ h) (.inl ⟨rfl, fun wq hq => (by kernel_rfl)⟩) ?_
        refine r_take 2 (.pointer (some ⟨bd1, 0, none⟩)) (RB.pre _ _) rfl (by kernel_rfl) (fun _ _ _ h => hQ.panic _ _ _ _ _ h) (.inl ⟨rfl, fun wq hq => (by kernel_rfl)⟩) ?_
        refine r_take 3 (.slice a0 o475.b.length c0) (RB.pre _ _) rfl (by kernel_rfl) (fun _ _ _ h => hQ.panic _ _ _ _ _ h) (.inl ⟨rfl, fun wq hq => (x_load1 (by kernel_rfl) Tryz.isAgg44 ((Blk.rb k643.2.1 (RB.trans er637 hq) (Nat.lt_of_lt_of_eq (Blk.lt k643.2.1) z636) (fun h => by cases h)).cell' 0 rfl))⟩) ?_
        refine r_take 4 (.pointer (some ⟨bd1, 0, none⟩)) (RB.pre _ _) rfl (by kernel_rfl) (fun _ _ _ h => hQ.panic _ _ _ _ _ h) (.inl ⟨rfl, fun wq hq => (by kernel_rfl)⟩) ?_
        refine r_take 5 (.pointer (some ⟨bd1, 0, none⟩)) (RB.pre _ _) rfl (by kernel_rfl) (fun _ _ _ h => hQ.panic _ _ _ _ _ h) (.inl ⟨rfl, fun wq hq => (by kernel_rfl)⟩) ?_
        refine r_take 6 (.pointer (some ⟨bd1, 1, none⟩)) (RB.pre _ _) rfl (by kernel_rfl) (fun _ _ _ h => hQ.panic _ _ _ _ _ h) (.inl ⟨rfl, fun wq hq => (by kernel_rfl)⟩) ?_
        refine r_take 7 (.int .i64 o475.at_) (RB.pre _ _) rfl (by kernel_rfl) (fun _ _ _ h => hQ.panic _ _ _ _ _ h) (.inl ⟨rfl, fun wq hq => (x_load1 (by kernel_rfl) Tryz.isAgg3 ((Blk.rb k643.2.1 (RB.trans er637 hq) (Nat.lt_of_lt_of_eq (Blk.lt k643.2.1) z636) (fun h => by cases h)).cell' 1 rfl))⟩) ?_
        refine r_take 8 (.int .i64 s473) (RB.pre _ _) rfl (by kernel_rfl) (fun _ _ _ h => hQ.panic _ _ _ _ _ h) (.inl ⟨rfl, fun wq hq => (by kernel_rfl)⟩) ?_
        obtain ⟨h646, hp⟩ := hp
        refine r_take 9 (.int .i64 (o475.at_ + s473)) (RB.pre _ _) rfl (by kernel_rfl) (fun _ _ _ h => hQ.panic _ _ _ _ _ h) (.inl ⟨rfl, fun wq hq => (x_add2 (k := .i64) (a := o475.at_) (b := s473) (o475.at_ + s473) (by kernel_rfl) (by kernel_rfl) (wrap_inR h646))⟩) ?_
        obtain ⟨h647, hp⟩ := hp
        obtain ⟨b648, o649, cs650, ha651, nx652, lt653, ok654, hc655⟩ := Sl.atI hob644 (o475.at_ + s473) h647
        obtain ⟨rfl, re656⟩ := ok654
        replace hp := hp re656
        refine r_take 10 (.pointer (some ⟨b648, o649 + (o475.at_ + s473).toNat * 1, none⟩)) (RB.pre _ _) rfl (by kernel_rfl) (fun _ _ _ h => hQ.panic _ _ _ _ _ h) (.inl ⟨rfl, fun wq hq => (x_ixA (m := o475.b.length) (c := c0) (k := .i64) (i := o475.at_ + s473) Tryz.underlying44 Tryz.sizeOf5 (by rw [← ha651]; kernel_rfl) (by kernel_rfl) h647)⟩) ?_
        refine r_take 11 (.int .u8 (lget o475.b (o475.at_ + s473))) (RB.pre _ _) rfl (by kernel_rfl) (fun _ _ _ h => hQ.panic _ _ _ _ _ h) (.inl ⟨rfl, fun wq hq => (x_load1 (by kernel_rfl) Tryz.isAgg5 ((CellsAt.rb hc655 (RB.trans er637 hq) (Nat.lt_of_lt_of_eq lt653 z636) (fun h => by cases h)) 0 _ rfl))⟩) ?_
        refine r_ready [12] (by kernel_rfl) rfl (all_cons ⟨_, _, _, _, _, _, rfl, ?_⟩ all_nil)
        refine o_pv (.int .u8 (lget o475.b (o475.at_ + s473))) rfl (by kernel_rfl) ?_
        refine ⟨fun h => absurd h (by decide), ?_⟩
        refine r_done (by kernel_rfl) ?_
        refine then_normal (K632 _ _ _ _ ?_)
        refine seq_ (fun _ K657 => ?_)
        refine seq_ (fun _ K658 => ?_)
        obtain ⟨k664, hk665, hp⟩ := hp
        refine ground_ ?_
        refine join_ 281457796841472 (fun lq w666 => ∃ (X667 : List Nat) (s663 : Bool), (lq = [(47, (.bool s663))]) ∧ (Evo Fd2 w w666) ∧ (Old X667 w666) ∧ (Sub X X667) ∧ (News X w X667 w666) ∧ (Sl (rInt .u8) X667 w666 a0 c0 o475.b) ∧ ((rErr 68 70 72).ok X667 w666 ([voerr609]) o475.err) ∧ (OB Fd2 w.heap.size X667 w666 bd1 [(.slice a0 o475.b.length c0), (.int .i64 o475.at_), voerr609] 213) ∧ (k664 s663)) (fun Kj668 hJ669 => ?_) ?_
        ·
          refine reg_ ?_
          refine sq (o_pv (.int .i64 s473) rfl (by kernel_rfl) ?_)
          by_cases h678 : s473 = (9 : Int)
          ·
            replace hp := hp.1 h678
            refine sq (o_pv (.bool true) rfl (x_dt (p := s473 = (9 : Int)) (by kernel_rfl) h678) ?_)
            refine sq (o_pv (.bool true) rfl (by kernel_rfl) ?_)
            refine sq (o_pv (.int .u8 (lget o475.b (o475.at_ + s473))) (by kernel_rfl) (by kernel_rfl) ?_)
            by_cases h679 : (lget o475.b (o475.at_ + s473)) > (1 : Int)
            ·
              replace hp := hp.1 h679
              refine sq (o_pv (.bool true) (by kernel_rfl) (x_dt (p := (lget o475.b (o475.at_ + s473)) > (1 : Int)) (by kernel_rfl) h679) ?_)
              refine sq (o_pv (.bool true) rfl (by kernel_rfl) ?_)
              refine sq (o_pv (.bool true) rfl (by kernel_rfl) ?_)
              refine sq (o_not (by kernel_rfl) ?_)
              refine sq (o_not (by kernel_rfl) ?_)
              refine sq (o_not (by kernel_rfl) ?_)
              refine sq (o_not (by kernel_rfl) ?_)
              refine sq (o_not (by kernel_rfl) ?_)
              refine sq (o_not (by kernel_rfl) ?_)
              refine sq (o_pv (.bool true) rfl (by kernel_rfl) ?_)
              refine nil_ ?_
              refine then_normal (hJ669 _ _ _ ⟨[(47, (.bool true))], fit_mk (fun _ _ => rfl) (by kernel_rfl) (vs_cons (by kernel_rfl) vs_nil), ?_⟩)
              exact ⟨X589, true, rfl, E639, hXo640, hS641, hN642, hob644, hoerr645, k643, hp⟩
            ·
              replace hp := hp.2 h679
              refine sq (o_pv (.bool false) (by kernel_rfl) (x_df (p := (lget o475.b (o475.at_ + s473)) > (1 : Int)) (by kernel_rfl) h679) ?_)
              refine sq (o_pv (.bool false) rfl (by kernel_rfl) ?_)
              refine sq (o_pv (.bool false) rfl (by kernel_rfl) ?_)
              refine sq (o_pv (.int .i64 s473) (by kernel_rfl) (by kernel_rfl) ?_)
              by_cases h680 : s473 > (0 : Int)
              ·
                replace hp := hp.1 h680
                refine sq (o_pv (.bool true) (by kernel_rfl) (x_dt (p := s473 > (0 : Int)) (by kernel_rfl) h680) ?_)
                refine sq (o_pv (.bool true) (by kernel_rfl) (by kernel_rfl) ?_)
                refine sq (o_pv (.int .u8 (lget o475.b (o475.at_ + s473))) (by kernel_rfl) (by kernel_rfl) ?_)
                refine sq (o_pv (.bool (decide ((lget o475.b (o475.at_ + s473)) = (0 : Int)))) (by kernel_rfl) (by kernel_rfl) ?_)
                refine sq (o_pv (.bool (decide ((lget o475.b (o475.at_ + s473)) = (0 : Int)))) (by kernel_rfl) (by kernel_rfl) ?_)
                refine sq (o_pv (.bool (decide ((lget o475.b (o475.at_ + s473)) = (0 : Int)))) rfl (by kernel_rfl) ?_)
                refine nil_ ?_
                refine then_normal (hJ669 _ _ _ ⟨[(47, (.bool (decide ((lget o475.b (o475.at_ + s473)) = (0 : Int)))))], fit_mk (fun _ _ => rfl) (by kernel_rfl) (vs_cons (by kernel_rfl) vs_nil), ?_⟩)
                exact ⟨X589, (decide ((lget o475.b (o475.at_ + s473)) = (0 : Int))), rfl, E639, hXo640, hS641, hN642, hob644, hoerr645, k643, hp⟩
              ·
                replace hp := hp.2 h680
                refine sq (o_pv (.bool false) (by kernel_rfl) (x_df (p := s473 > (0 : Int)) (by kernel_rfl) h680) ?_)
                refine sq (o_pv (.bool false) (by kernel_rfl) (by kernel_rfl) ?_)
                refine sq (o_not (by kernel_rfl) ?_)
                refine sq (o_not (by kernel_rfl) ?_)
                refine sq (o_pv (.bool false) (by kernel_rfl) (by kernel_rfl) ?_)
                refine sq (o_pv (.bool false) rfl (by kernel_rfl) ?_)
                refine nil_ ?_
                refine then_normal (hJ669 _ _ _ ⟨[(47, (.bool false))], fit_mk (fun _ _ => rfl) (by kernel_rfl) (vs_cons (by kernel_rfl) vs_nil), ?_⟩)
                exact ⟨X589, false, rfl, E639, hXo640, hS641, hN642, hob644, hoerr645, k643, hp⟩
          ·
            replace hp := hp.2 h678
            refine sq (o_pv (.bool false) rfl (x_df (p := s473 = (9 : Int)) (by kernel_rfl) h678) ?_)
            refine sq (o_pv (.bool false) rfl (by kernel_rfl) ?_)
            refine sq (o_not (by kernel_rfl) ?_)
            refine sq (o_not (by kernel_rfl) ?_)
            refine sq (o_pv (.bool false) rfl (by kernel_rfl) ?_)
            refine sq (o_pv (.bool false) rfl (by kernel_rfl) ?_)
            refine sq (o_pv (.int .i64 s473) (by kernel_rfl) (by kernel_rfl) ?_)
            by_cases h681 : s473 > (0 : Int)
            ·
              replace hp := hp.1 h681
              refine sq (o_pv (.bool true) (by kernel_rfl) (x_dt (p := s473 > (0 : Int)) (by kernel_rfl) h681) ?_)
              refine sq (o_pv (.bool true) (by kernel_rfl) (by kernel_rfl) ?_)
              refine sq (o_pv (.int .u8 (lget o475.b (o475.at_ + s473))) (by kernel_rfl) (by kernel_rfl) ?_)
              refine sq (o_pv (.bool (decide ((lget o475.b (o475.at_ + s473)) = (0 : Int)))) (by kernel_rfl) (by kernel_rfl) ?_)
              refine sq (o_pv (.bool (decide ((lget o475.b (o475.at_ + s473)) = (0 : Int)))) (by kernel_rfl) (by kernel_rfl) ?_)
              refine sq (o_pv (.bool (decide ((lget o475.b (o475.at_ + s473)) = (0 : Int)))) rfl (by kernel_rfl) ?_)
              refine nil_ ?_
              refine then_normal (hJ669 _ _ _ ⟨[(47, (.bool (decide ((lget o475.b (o475.at_ + s473)) = (0 : Int)))))], fit_mk (fun _ _ => rfl) (by kernel_rfl) (vs_cons (by kernel_rfl) vs_nil), ?_⟩)
              exact ⟨X589, (decide ((lget o475.b (o475.at_ + s473)) = (0 : Int))), rfl, E639, hXo640, hS641, hN642, hob644, hoerr645, k643, hp⟩
            ·
              replace hp := hp.2 h681
              refine sq (o_pv (.bool false) (by kernel_rfl) (x_df (p := s473 > (0 : Int)) (by kernel_rfl) h681) ?_)
              refine sq (o_pv (.bool false) (by kernel_rfl) (by kernel_rfl) ?_)
              refine sq (o_not (by kernel_rfl) ?_)
              refine sq (o_not (by kernel_rfl) ?_)
              refine sq (o_pv (.bool false) (by kernel_rfl) (by kernel_rfl) ?_)
              refine sq (o_pv (.bool false) rfl (by kernel_rfl) ?_)
              refine nil_ ?_
              refine then_normal (hJ669 _ _ _ ⟨[(47, (.bool false))], fit_mk (fun _ _ => rfl) (by kernel_rfl) (vs_cons (by kernel_rfl) vs_nil), ?_⟩)
              exact ⟨X589, false, rfl, E639, hXo640, hS641, hN642, hob644, hoerr645, k643, hp⟩
        ·
          rintro _ w666 g682 ⟨X667, s663, rfl, E671, hXo672, hS673, hN674, hob675, hoerr676, k677, hv670⟩
          replace hp := hk665 s663 hv670
          refine then_normal (K658 _ _ _ _ ?_)
          refine cond_b s663 (by kernel_rfl) (fun h683 => ?_) (fun h683 => ?_)
          ·
            replace hp := hp.1 h683
            refine wp_exit ?_
            refine then_exit ?_
            refine blk_exit_ne rfl ?_
            refine then_exit ?_
            refine then_exit ?_
            refine blk_exit ?_
            obtain ⟨F684, m685, hs686⟩ := MO.pack (o_codec_Dec_mk k677 hob675 rfl roat_608 hoerr676)
            refine then_normal (hJ355 _ _ _ ⟨[], fit_mk (AgB.nest (AgB.look (AgB.nest (fun _ _ => rfl) (by kernel_rfl) (by kernel_rfl)) (by kernel_rfl)) (by kernel_rfl) (by kernel_rfl)) (by kernel_rfl) vs_nil, ?_⟩)
            exact ⟨X667, o475, F684, rfl, E671, hXo672, hS673, hN674, m685, hp⟩
          ·
            replace hp := hp.2 h683
            refine wp_skip ?_
            refine then_normal (K657 _ _ _ _ ?_)
            refine seq_ (fun _ K687 => ?_)
            refine reg_ ?_
            refine sq (o_pv (.int .u64 v471) rfl (by kernel_rfl) ?_)
            refine sq (o_pv (.int .u8 (lget o475.b (o475.at_ + s473))) rfl (by kernel_rfl) ?_)
            refine sq (o_pv (.int .u8 (iand .u8 (lget o475.b (o475.at_ + s473)) (127 : Int))) rfl (x_and (k := .u8) (a := lget o475.b (o475.at_ + s473)) (b := (127 : Int)) (by kernel_rfl) (by kernel_rfl)) ?_)
            have r688 : inR .u64 (iand .u8 (lget o475.b (o475.at_ + s473)) (127 : Int)) := inR_up (by decide) (by decide) (inR_iand _ _ _)
            refine sq (o_pv (.int .u64 (iand .u8 (lget o475.b (o475.at_ + s473)) (127 : Int))) rfl (x_conv (k := .u8) Tryz.underlying5 Tryz.underlying279 (by kernel_rfl) (wrap_inR r688)) ?_)
            refine sq (o_pv (.int .i64 s473) rfl (by kernel_rfl) ?_)
            obtain ⟨h689, hp⟩ := hp
            refine sq (o_pv (.int .i64 ((7 : Int) * s473)) rfl (x_mul2 (k := .i64) (a := (7 : Int)) (b := s473) ((7 : Int) * s473) (by kernel_rfl) (by kernel_rfl) (wrap_inR h689)) ?_)
            obtain ⟨h690, hp⟩ := hp
            obtain ⟨y691, qy691⟩ : ∃ y, y = (ishl .u64 (iand .u8 (lget o475.b (o475.at_ + s473)) (127 : Int)) ((7 : Int) * s473)) := ⟨_, rfl⟩
            replace hp := hp y691 qy691
            have r692 : inR .u64 y691 := by rw [qy691]; exact (inR_ishl _ _ _)
            refine sq (o_pv (.int .u64 y691) rfl (by rw [qy691]; exact (x_shl (k := .u64) (k' := .i64) (a := iand .u8 (lget o475.b (o475.at_ + s473)) (127 : Int)) (b := (7 : Int) * s473) (by kernel_rfl) (by kernel_rfl) h690)) ?_)
            refine sq (o_pv (.int .u64 (ior .u64 v471 y691)) rfl (x_or (k := .u64) (a := v471) (b := y691) (by kernel_rfl) (by kernel_rfl)) ?_)
            refine sq (o_pv (.int .u64 (ior .u64 v471 y691)) rfl (by kernel_rfl) ?_)
            refine nil_ ?_
            refine then_normal (K687 _ _ _ _ ?_)
            refine seq_ (fun _ K693 => ?_)
            refine reg_ ?_
            refine sq (o_pv (.int .u8 (lget o475.b (o475.at_ + s473))) rfl (by kernel_rfl) ?_)
            refine sq (o_pv (.bool (decide ((lget o475.b (o475.at_ + s473)) < (128 : Int)))) rfl (by kernel_rfl) ?_)
            refine nil_ ?_
            refine then_normal (K693 _ _ _ _ ?_)
            refine cond_d ((lget o475.b (o475.at_ + s473)) < (128 : Int)) (by kernel_rfl) (fun h694 => ?_) (fun h694 => ?_)
            ·
              replace hp := hp.1 h694
              refine seq_ (fun _ K695 => ?_)
              refine reg_ ?_
              refine sq (o_pv (.pointer (some ⟨bd1, 0, none⟩)) rfl (by kernel_rfl) ?_)
              refine sq (o_pv (.pointer (some ⟨bd1, 0, none⟩)) rfl (by kernel_rfl) ?_)
              refine sq (o_pv (.pointer (some ⟨bd1, 1, none⟩)) rfl (by kernel_rfl) ?_)
              refine sq (o_pv (.int .i64 o475.at_) rfl (x_load1 (by kernel_rfl) Tryz.isAgg3 (k677.2.1.cell' 1 rfl)) ?_)
              refine sq (o_pv (.int .i64 s473) rfl (by kernel_rfl) ?_)
              obtain ⟨h696, hp⟩ := hp
              refine sq (o_pv (.int .i64 (s473 + (1 : Int))) rfl (x_add2 (k := .i64) (a := s473) (b := (1 : Int)) (s473 + (1 : Int)) (by kernel_rfl) (by kernel_rfl) (wrap_inR h696)) ?_)
              obtain ⟨h697, hp⟩ := hp
              refine sq (o_pv (.int .i64 (o475.at_ + (s473 + (1 : Int)))) rfl (x_add2 (k := .i64) (a := o475.at_) (b := s473 + (1 : Int)) (o475.at_ + (s473 + (1 : Int))) (by kernel_rfl) (by kernel_rfl) (wrap_inR h697)) ?_)
              refine sq (o_pv (.pointer (some ⟨bd1, 0, none⟩)) rfl (by kernel_rfl) ?_)
              refine sq (o_pv (.pointer (some ⟨bd1, 1, none⟩)) rfl (by kernel_rfl) ?_)
              refine sq (o_stB (o := 1) (v := (.int .i64 (o475.at_ + (s473 + (1 : Int))))) [(.slice a0 o475.b.length c0), (.int .i64 (o475.at_ + (s473 + (1 : Int)))), voerr609] rfl k677 (by kernel_rfl) (by kernel_rfl) Tryz.sizeOf3 rfl rfl rfl ?_)
              intro w698 s699 k700
              refine nil_ ?_
              refine then_normal (K695 _ _ _ _ ?_)
              refine seq_ (fun _ K701 => ?_)
              refine reg_ ?_
              refine sq (o_pv (.int .u64 (ior .u64 v471 y691)) rfl (by kernel_rfl) ?_)
              refine sq (o_pv (.int .u64 (ior .u64 v471 y691)) rfl (by kernel_rfl) ?_)
              refine sq (o_pv (.int .i64 (0 : Int)) rfl (by kernel_rfl) ?_)
              refine nil_ ?_
              refine then_normal (K701 _ _ _ _ ?_)
              refine wp_ret ?_
              refine blk_ret ?_
              refine then_ret ?_
              refine then_ret ?_
              refine blk_ret ?_
              refine then_ret ?_
              refine then_ret ?_
              have E702 := (Evo.thenW E671 (Step.evo s699) k677.2.2)
              have hXo703 := (Old.step hXo672 s699)
              have hS704 := (Sub.trans hS673 (Step.up s699))
              have hN705 := (News.step hN674 s699)
              have hob706 := (Sl.step hob675 s699)
              have hoerr707 := (Rep.step (rErr 68 70 72) hoerr676 s699)
              obtain ⟨F708, m709, hs710⟩ := MO.pack (o_codec_Dec_mk k700 hob706 rfl h697 hoerr707)
              refine end_ret hQ (.tuple #[(.int .u64 (ior .u64 v471 y691)), (.int .i64 (0 : Int))]) (by kernel_rfl) ?_
              exact ⟨(S_codec_Dec.mk o475.b (o475.at_ + (s473 + (1 : Int))) o475.err), (ior .u64 v471 y691), (0 : Int), hp, X667, F708, step_of E702 hF0 hS704 hN705, rfl, m709, (inR_ior _ _ _), (by decide : inR .i64 (0 : Int))⟩
            ·
              replace hp := hp.2 h694
              refine wp_skip ?_
              refine blk_normal ?_
              refine then_normal (K601 _ _ _ _ ?_)
              refine reg_ ?_
              obtain ⟨h711, hp⟩ := hp
              refine sq (o_pv (.int .i64 (s473 + (1 : Int))) rfl (x_add2 (k := .i64) (a := s473) (b := (1 : Int)) (s473 + (1 : Int)) (by kernel_rfl) (by kernel_rfl) (wrap_inR h711)) ?_)
              refine sq (o_pv (.int .i64 (s473 + (1 : Int))) rfl (by kernel_rfl) ?_)
              refine nil_ ?_
              obtain ⟨F712, m713, hs714⟩ := MO.pack (o_codec_Dec_mk k677 hob675 rfl roat_608 hoerr676)
              refine then_normal (hA593 _ _ _ ⟨_, [(4, (.int .u64 (ior .u64 v471 y691))), (7, (.int .i64 (s473 + (1 : Int))))], hp.2, fit_mk (AgB.nest (AgB.look (AgB.mix _ _ _) (by kernel_rfl)) (by kernel_rfl) (by kernel_rfl)) (by kernel_rfl) (vs_cons (by kernel_rfl) (vs_cons (by kernel_rfl) vs_nil)), ?_⟩)
              exact ⟨X667, (ior .u64 v471 y691), (s473 + (1 : Int)), o475, F712, rfl, rfl, E671, hXo672, hS673, hN674, m713, (inR_ior _ _ _), h711, hp.1⟩
    ·
      replace hp := hp.2 h600
      refine wp_exit ?_
      refine then_exit ?_
      refine then_exit ?_
      refine blk_exit ?_
      refine then_normal (hJ355 _ _ _ ⟨[], fit_mk (AgB.nest (fun _ _ => rfl) (by kernel_rfl) (by kernel_rfl)) (by kernel_rfl) vs_nil, ?_⟩)
      exact ⟨X589, o475, F476, rfl, E594, hXo595, hS596, hN597, m477, hp⟩
  ·
    rintro _ w352 g715 ⟨X353, o347, F348, rfl, E357, hXo358, hS359, hN360, m349, hv356⟩
    replace hp := hk351 o347 hv356
    refine then_normal (K6 _ _ _ _ ?_)
    refine seq_ (fun _ K716 => ?_)
    refine reg_ ?_
    refine sq (o_pv (.int .u64 (0 : Int)) rfl (by kernel_rfl) ?_)
    refine sq (o_pv (.int .i64 (2 : Int)) rfl (by kernel_rfl) ?_)
    refine nil_ ?_
    refine then_normal (K716 _ _ _ _ ?_)
    refine wp_ret ?_
    refine end_ret hQ (.tuple #[(.int .u64 (0 : Int)), (.int .i64 (2 : Int))]) (by kernel_rfl) ?_
    exact ⟨o347, (0 : Int), (2 : Int), hp, X353, F348, step_of E357 hF0 hS359 hN360, rfl, m349, (by decide : inR .u64 (0 : Int)), (by decide : inR .i64 (2 : Int))⟩

def codec_Dec_fail_p (d : S_codec_Dec) (at_ : Int) (e : Int) (Q : S_codec_Dec → Prop) : Prop :=
  ((inR .i64 at_) → ((inR .i64 e) → ((d.b.length ≤ 9223372036854775807) → ((inR .i64 d.at_) → Q (S_codec_Dec.mk d.b d.at_ (PErr.fault (ByteArray.mk #[98, 121, 116, 101]) at_ e))))))
set_option maxRecDepth 20000 in
set_option maxHeartbeats 4000000 in
theorem codec_Dec_fail_w {X : List Nat} {w : World} {d : S_codec_Dec} {at_ : Int} {e : Int} {bd1 : Nat} {Fd2 : List Nat} {Q : S_codec_Dec → Prop} (hX0 : Old X w) (md3 : MO (o_codec_Dec a0 c0) 213 Fd2 w.heap.size X w Fd2 bd1 d) (rat_4 : inR .i64 at_) (re5 : inR .i64 e) (hp : codec_Dec_fail_p d at_ e Q) :
    Calls Tryz.prog 233 #[(.pointer (some ⟨bd1, 0, none⟩)), (.int .i64 at_), (.int .i64 e)] w (Ret fun v w' => ∃ (m0 : S_codec_Dec), Q m0 ∧ ∃ (X' : List Nat) (Fm0 : List Nat), Step X w Fd2 X' w' ∧ v = .tuple #[] ∧ MO (o_codec_Dec a0 c0) 213 Fd2 w.heap.size X' w' Fm0 bd1 m0) := by
  have hXo := hX0
  have E0 : Evo Fd2 w w := RB.refl _ _ _
  have hS : Sub X X := Sub.refl _
  have hN : News X w X w := News.refl _ _
  have hF0 : Sub Fd2 X := MO.mem md3
  unfold codec_Dec_fail_p at hp
  refine enter_ Tryz.func233 rfl 15 [(0, (.pointer (some ⟨bd1, 0, none⟩))), (1, (.int .i64 at_)), (2, (.int .i64 e))] (by kernel_rfl) (fun Qe hQ => ?_)
  replace hp := hp rat_4
  replace hp := hp re5
  refine reg_ ?_
  refine sq (o_pv (.pointer (some ⟨bd1, 0, none⟩)) rfl (by kernel_rfl) ?_)
  refine sq (o_pv (.int .i64 at_) rfl (by kernel_rfl) ?_)
  refine sq (o_pv (.int .i64 e) rfl (by kernel_rfl) ?_)
  refine sq (o_pv (.iface 68 (.int .i64 e)) rfl (by kernel_rfl) ?_)
  refine sq (o_pv (.agg #[(.string (ByteArray.mk #[98, 121, 116, 101])), (.int .i64 at_), (.iface 68 (.int .i64 e))]) rfl (by kernel_rfl) ?_)
  refine sq (o_newX [(.string (ByteArray.mk #[98, 121, 116, 101])), (.int .i64 at_), (.iface 68 (.int .i64 e))] 72 (X := X) (B := w.heap.size) E0.size rfl (by kernel_rfl) ?_)
  intro b6 w7 X8 s9 k10 n11
  have p12 := n11 _ (MO.old md3)
  refine sq (o_pv (.iface 70 (.pointer (some ⟨b6, 0, none⟩))) rfl (by kernel_rfl) ?_)
  refine sq (o_pv (.pointer (some ⟨bd1, 0, none⟩)) rfl (by kernel_rfl) ?_)
  have md13 := (MO.step0 md3 s9)
  obtain ⟨voerr18, k20, hob16, roat_17, hoerr19, sb21⟩ := o_codec_Dec_open md13
  have p22 := Ap.subr (Ap.symm p12) sb21
  replace hp := hp (Sl.len hob16)
  replace hp := hp roat_17
  refine sq (o_pv (.pointer (some ⟨bd1, 2, none⟩)) rfl (by kernel_rfl) ?_)
  have E23 := (Evo.then0 E0 (Step.evo s9))
  refine sq (o_stB (o := 2) (v := (.iface 70 (.pointer (some ⟨b6, 0, none⟩)))) [(.slice a0 d.b.length c0), (.int .i64 d.at_), (.iface 70 (.pointer (some ⟨b6, 0, none⟩)))] rfl k20 (by kernel_rfl) (by kernel_rfl) Tryz.sizeOf46 rfl rfl rfl ?_)
  intro w24 s25 k26
  refine nil_ ?_
  have hXo32 := (Old.step (Old.step hXo s9) s25)
  have E33 := (Evo.thenW E23 (Step.evo s25) k20.2.2)
  have hS34 := (Sub.trans (Sub.trans hS (Step.up s9)) (Step.up s25))
  have hN35 := (News.step (News.step hN s9) s25)
  have k36 := (OB.step k10 s25 p22)
  have hob37 := (Sl.step hob16 s25)
  have hoerr38 := (Rep.step (rErr 68 70 72) hoerr19 s25)
  have ax31 := OB.apold k36 hX0
  obtain ⟨X27, u28, r29, hm30⟩ := OB.release k36
  have hXo39 := (Old.less hXo32 u28)
  have E40 := E33
  have hS41 := (hm30 _ ax31 hS34)
  have hN42 := (News.less hN35 u28)
  have k43 := (OB.less k26 (hm30 _ (Ap.symm p22) (OB.mem k26)))
  have hob44 := (Sl.less hob37 u28)
  have hoerr45 := (Rep.less (rErr 68 70 72) hoerr38 u28)
  obtain ⟨F46, m47, hs48⟩ := MO.pack (o_codec_Dec_mk k43 hob44 rfl roat_17 (rErr_fault r29.1 r29.2 (by decide : (ByteArray.mk #[98, 121, 116, 101]).size ≤ maxLen) rat_4 re5))
  refine end_normal hQ (.tuple #[]) (by kernel_rfl) ?_
  exact ⟨(S_codec_Dec.mk d.b d.at_ (PErr.fault (ByteArray.mk #[98, 121, 116, 101]) at_ e)), hp, X27, F46, step_of E40 hF0 hS41 hN42, rfl, m47⟩

def codec_Dec_Int_p (d : S_codec_Dec) (Q : S_codec_Dec → Int → Prop) : Prop :=
  ((d.b.length ≤ 9223372036854775807) → ((inR .i64 d.at_) → ((((!d.err.isNil) = true) → Q d (0 : Int)) ∧ (((!d.err.isNil) = false) → (codec_Dec_uint_p d (fun (d25 : S_codec_Dec) (r26 : Int) (r27 : Int) => ((inR .u64 r26) → ((inR .i64 r27) → (((¬ (r27 = (0 : Int))) → (codec_Dec_fail_p d25 d.at_ r27 (fun (d46 : S_codec_Dec) => Q d46 (0 : Int)))) ∧ ((r27 = (0 : Int)) → ((inR .i64 (-(iwrap .i64 (iand .u64 r26 (1 : Int))))) ∧ (∀ y62 : Int, y62 = (ixor .i64 (iwrap .i64 (ishr .u64 r26 (1 : Int))) (-(iwrap .i64 (iand .u64 r26 (1 : Int))))) → Q d25 y62))))))))))))
set_option maxRecDepth 20000 in
set_option maxHeartbeats 4000000 in
theorem codec_Dec_Int_w {X : List Nat} {w : World} {d : S_codec_Dec} {bd1 : Nat} {Fd2 : List Nat} {Q : S_codec_Dec → Int → Prop} (hX0 : Old X w) (md3 : MO (o_codec_Dec a0 c0) 213 Fd2 w.heap.size X w Fd2 bd1 d) (hp : codec_Dec_Int_p d Q) :
    Calls Tryz.prog 147 #[(.pointer (some ⟨bd1, 0, none⟩))] w (Ret fun v w' => ∃ (m0 : S_codec_Dec) (r0 : Int), Q m0 r0 ∧ ∃ (X' : List Nat) (Fm0 : List Nat), Step X w Fd2 X' w' ∧ v = (.int .i64 r0) ∧ MO (o_codec_Dec a0 c0) 213 Fd2 w.heap.size X' w' Fm0 bd1 m0 ∧ inR .i64 r0) := by
  have hXo := hX0
  have E0 : Evo Fd2 w w := RB.refl _ _ _
  have hS : Sub X X := Sub.refl _
  have hN : News X w X w := News.refl _ _
  have hF0 : Sub Fd2 X := MO.mem md3
  unfold codec_Dec_Int_p at hp
  refine enter_ Tryz.func147 rfl 34 [(0, (.pointer (some ⟨bd1, 0, none⟩)))] (by kernel_rfl) (fun Qe hQ => ?_)
  refine seq_ (fun _ K4 => ?_)
  refine reg_ ?_
  refine sq (o_pv (.int .i64 (0 : Int)) rfl (by kernel_rfl) ?_)
  refine nil_ ?_
  refine then_normal (K4 _ _ _ _ ?_)
  refine seq_ (fun _ K5 => ?_)
  refine seq_ (fun _ K6 => ?_)
  refine reg_ ?_
  refine sq (o_pv (.pointer (some ⟨bd1, 0, none⟩)) rfl (by kernel_rfl) ?_)
  refine sq (o_pv (.pointer (some ⟨bd1, 0, none⟩)) rfl (by kernel_rfl) ?_)
  obtain ⟨voerr11, k13, hob9, roat_10, hoerr12, sb14⟩ := o_codec_Dec_open md3
  replace hp := hp (Sl.len hob9)
  replace hp := hp roat_10
  refine sq (o_pv (.pointer (some ⟨bd1, 2, none⟩)) rfl (by kernel_rfl) ?_)
  refine sq (o_pv voerr11 rfl (x_load1 (by kernel_rfl) Tryz.isAgg46 (k13.2.1.cell' 2 rfl)) ?_)
  refine sq (o_pv (.bool (!d.err.isNil)) rfl (x_err_ne d.err hoerr12 Tryz.underlying46 (by kernel_rfl)) ?_)
  refine nil_ ?_
  refine then_normal (K6 _ _ _ _ ?_)
  refine cond_b (!d.err.isNil) (by kernel_rfl) (fun h15 => ?_) (fun h15 => ?_)
  ·
    replace hp := hp.1 h15
    refine seq_ (fun _ K16 => ?_)
    refine reg_ ?_
    refine sq (o_pv (.int .i64 (0 : Int)) rfl (by kernel_rfl) ?_)
    refine nil_ ?_
    refine then_normal (K16 _ _ _ _ ?_)
    refine wp_ret ?_
    refine then_ret ?_
    obtain ⟨F17, m18, hs19⟩ := MO.pack (o_codec_Dec_mk k13 hob9 rfl roat_10 hoerr12)
    refine end_ret hQ (.int .i64 (0 : Int)) (by kernel_rfl) ?_
    exact ⟨d, (0 : Int), hp, X, F17, step_of E0 hF0 hS hN, rfl, m18, (by decide : inR .i64 (0 : Int))⟩
  ·
    replace hp := hp.2 h15
    refine wp_skip ?_
    refine then_normal (K5 _ _ _ _ ?_)
    refine seq_ (fun _ K20 => ?_)
    refine reg_ ?_
    refine sq (o_pv (.pointer (some ⟨bd1, 0, none⟩)) rfl (by kernel_rfl) ?_)
    refine sq (o_pv (.pointer (some ⟨bd1, 0, none⟩)) rfl (by kernel_rfl) ?_)
    refine sq (o_pv (.pointer (some ⟨bd1, 1, none⟩)) rfl (by kernel_rfl) ?_)
    refine sq (o_pv (.int .i64 d.at_) rfl (x_load1 (by kernel_rfl) Tryz.isAgg3 (k13.2.1.cell' 1 rfl)) ?_)
    refine sq (o_pv (.int .i64 d.at_) rfl (by kernel_rfl) ?_)
    refine nil_ ?_
    refine then_normal (K20 _ _ _ _ ?_)
    refine seq_ (fun _ K21 => ?_)
    refine reg_ ?_
    refine sq (o_pv (.pointer (some ⟨bd1, 0, none⟩)) rfl (by kernel_rfl) ?_)
    obtain ⟨F22, m23, hs24⟩ := MO.pack (o_codec_Dec_mk k13 hob9 rfl roat_10 hoerr12)
    refine sq (o_call 232 #[(.pointer (some ⟨bd1, 0, none⟩))] rfl (x_call Tryz.call232 (by kernel_rfl)) (codec_Dec_uint_w (X := X) (d := d) hXo (MO.re m23 (Wr.self _ _ (Sub.refl _))) hp) ?_)
    rintro _ w28 ⟨d25, r26, r27, hp, X29, F31, s30, rfl, m32, rr33, rr34⟩
    have m35 := MO.re m32 (Wr.trans m32.wr m23.wr E0.size)
    replace hp := hp rr33
    replace hp := hp rr34
    refine sq (o_pv (.tuple #[(.int .u64 r26), (.int .i64 r27)]) rfl (by kernel_rfl) ?_)
    refine sq (o_pv (.int .u64 r26) rfl (by kernel_rfl) ?_)
    refine sq (o_pv (.int .i64 r27) rfl (by kernel_rfl) ?_)
    refine sq (o_pv (.int .u64 r26) rfl (by kernel_rfl) ?_)
    refine sq (o_pv (.int .i64 r27) rfl (by kernel_rfl) ?_)
    refine nil_ ?_
    refine then_normal (K21 _ _ _ _ ?_)
    refine seq_ (fun _ K36 => ?_)
    refine seq_ (fun _ K37 => ?_)
    refine reg_ ?_
    refine sq (o_pv (.int .i64 r27) rfl (by kernel_rfl) ?_)
    refine sq (o_pv (.bool (!decide (r27 = (0 : Int)))) rfl (by kernel_rfl) ?_)
    refine nil_ ?_
    refine then_normal (K37 _ _ _ _ ?_)
    refine cond_nd (r27 = (0 : Int)) (by kernel_rfl) (fun h38 => ?_) (fun h38 => ?_)
    ·
      replace hp := hp.1 h38
      refine seq_ (fun _ K39 => ?_)
      refine reg_ ?_
      refine sq (o_pv (.pointer (some ⟨bd1, 0, none⟩)) rfl (by kernel_rfl) ?_)
      refine sq (o_pv (.int .i64 d.at_) rfl (by kernel_rfl) ?_)
      refine sq (o_pv (.int .i64 r27) rfl (by kernel_rfl) ?_)
      have hXo40 := (Old.step hXo s30)
      have E41 := (Evo.thenW E0 (Step.evo s30) m23.wr)
      have hS42 := (Sub.trans hS (Step.up s30))
      have hN43 := (News.step hN s30)
      have hob44 := (Sl.step hob9 s30)
      have hoerr45 := (Rep.step (rErr 68 70 72) hoerr12 s30)
      refine sq (o_call 233 #[(.pointer (some ⟨bd1, 0, none⟩)), (.int .i64 d.at_), (.int .i64 r27)] rfl (x_call Tryz.call233 (by kernel_rfl)) (codec_Dec_fail_w (X := X29) (d := d25) (at_ := d.at_) (e := r27) hXo40 (MO.re m35 (Wr.self _ _ (Sub.refl _))) roat_10 rr34 hp) ?_)
      rintro _ w47 ⟨d46, hp, X48, F50, s49, rfl, m51⟩
      have m52 := MO.re m51 (Wr.trans m51.wr m35.wr E41.size)
      refine nil_ ?_
      refine then_normal (K39 _ _ _ _ ?_)
      refine seq_ (fun _ K53 => ?_)
      refine reg_ ?_
      refine sq (o_pv (.int .i64 (0 : Int)) rfl (by kernel_rfl) ?_)
      refine nil_ ?_
      refine then_normal (K53 _ _ _ _ ?_)
      refine wp_ret ?_
      refine then_ret ?_
      have hXo54 := (Old.step hXo40 s49)
      have E55 := (Evo.thenW E41 (Step.evo s49) m35.wr)
      have hS56 := (Sub.trans hS42 (Step.up s49))
      have hN57 := (News.step hN43 s49)
      have hob58 := (Sl.step hob44 s49)
      have hoerr59 := (Rep.step (rErr 68 70 72) hoerr45 s49)
      refine end_ret hQ (.int .i64 (0 : Int)) (by kernel_rfl) ?_
      exact ⟨d46, (0 : Int), hp, X48, F50, step_of E55 hF0 hS56 hN57, rfl, m52, (by decide : inR .i64 (0 : Int))⟩
    ·
      replace hp := hp.2 h38
      refine wp_skip ?_
      refine then_normal (K36 _ _ _ _ ?_)
      refine seq_ (fun _ K60 => ?_)
      refine reg_ ?_
      refine sq (o_pv (.int .u64 r26) rfl (by kernel_rfl) ?_)
      refine sq (o_pv (.int .u64 (ishr .u64 r26 (1 : Int))) rfl (x_shr (k := .u64) (k' := .u64) (a := r26) (b := (1 : Int)) (by kernel_rfl) (by kernel_rfl) (by decide)) ?_)
      refine sq (o_pv (.int .i64 (iwrap .i64 (ishr .u64 r26 (1 : Int)))) rfl (x_convw (k := .u64) Tryz.underlying279 Tryz.underlying2 (by kernel_rfl)) ?_)
      refine sq (o_pv (.int .u64 r26) rfl (by kernel_rfl) ?_)
      refine sq (o_pv (.int .u64 (iand .u64 r26 (1 : Int))) rfl (x_and (k := .u64) (a := r26) (b := (1 : Int)) (by kernel_rfl) (by kernel_rfl)) ?_)
      refine sq (o_pv (.int .i64 (iwrap .i64 (iand .u64 r26 (1 : Int)))) rfl (x_convw (k := .u64) Tryz.underlying279 Tryz.underlying2 (by kernel_rfl)) ?_)
      obtain ⟨h61, hp⟩ := hp
      refine sq (o_pv (.int .i64 (-(iwrap .i64 (iand .u64 r26 (1 : Int))))) rfl (x_neg (k := .i64) (a := iwrap .i64 (iand .u64 r26 (1 : Int))) (-(iwrap .i64 (iand .u64 r26 (1 : Int)))) (by kernel_rfl) (wrap_inR h61)) ?_)
      obtain ⟨y62, qy62⟩ : ∃ y, y = (ixor .i64 (iwrap .i64 (ishr .u64 r26 (1 : Int))) (-(iwrap .i64 (iand .u64 r26 (1 : Int))))) := ⟨_, rfl⟩
      replace hp := hp y62 qy62
      have r63 : inR .i64 y62 := by rw [qy62]; exact (inR_ixor _ _ _)
      refine sq (o_pv (.int .i64 y62) rfl (by rw [qy62]; exact (x_xor (k := .i64) (a := iwrap .i64 (ishr .u64 r26 (1 : Int))) (b := -(iwrap .i64 (iand .u64 r26 (1 : Int)))) (by kernel_rfl) (by kernel_rfl))) ?_)
      refine sq (o_pv (.int .i64 y62) rfl (by kernel_rfl) ?_)
      refine nil_ ?_
      refine then_normal (K60 _ _ _ _ ?_)
      refine wp_ret ?_
      have hXo64 := (Old.step hXo s30)
      have E65 := (Evo.thenW E0 (Step.evo s30) m23.wr)
      have hS66 := (Sub.trans hS (Step.up s30))
      have hN67 := (News.step hN s30)
      have hob68 := (Sl.step hob9 s30)
      have hoerr69 := (Rep.step (rErr 68 70 72) hoerr12 s30)
      refine end_ret hQ (.int .i64 y62) (by kernel_rfl) ?_
      exact ⟨d25, y62, hp, X29, F31, step_of E65 hF0 hS66 hN67, rfl, m35, r63⟩

def codec_Dec_Text_p (d : S_codec_Dec) (Q : S_codec_Dec → ByteArray → Prop) : Prop :=
  ((d.b.length ≤ 9223372036854775807) → ((inR .i64 d.at_) → (codec_Dec_Int_p d (fun (d18 : S_codec_Dec) (r19 : Int) => ((inR .i64 r19) → ((d18.b.length ≤ 9223372036854775807) → ((inR .i64 d18.at_) → ((((!d18.err.isNil) = true) → Q d18 (ByteArray.mk #[])) ∧ (((!d18.err.isNil) = false) → (((r19 < (0 : Int)) → (codec_Dec_fail_p d18 d.at_ (2 : Int) (fun (d60 : S_codec_Dec) => Q d60 (ByteArray.mk #[])))) ∧ ((¬ (r19 < (0 : Int))) → ((inR .i64 ((d18.b.length : Int) - d18.at_)) ∧ (((r19 > ((d18.b.length : Int) - d18.at_)) → (codec_Dec_fail_p d18 d.at_ (3 : Int) (fun (d104 : S_codec_Dec) => Q d104 (ByteArray.mk #[])))) ∧ ((¬ (r19 > ((d18.b.length : Int) - d18.at_))) → ((inR .i64 (d18.at_ + r19)) ∧ ((0 ≤ d18.at_ ∧ d18.at_ ≤ (d18.at_ + r19) ∧ (d18.at_ + r19) ≤ (d18.b.length : Int)) ∧ ((inR .i64 (d18.at_ + r19)) ∧ Q (S_codec_Dec.mk d18.b (d18.at_ + r19) d18.err) (strOfNums ((d18.b.take (d18.at_ + r19).toNat).drop d18.at_.toNat)))))))))))))))))))
set_option maxRecDepth 20000 in
set_option maxHeartbeats 4000000 in
theorem codec_Dec_Text_w {X : List Nat} {w : World} {d : S_codec_Dec} {bd1 : Nat} {Fd2 : List Nat} {Q : S_codec_Dec → ByteArray → Prop} (hX0 : Old X w) (md3 : MO (o_codec_Dec a0 c0) 213 Fd2 w.heap.size X w Fd2 bd1 d) (hp : codec_Dec_Text_p d Q) :
    Calls Tryz.prog 148 #[(.pointer (some ⟨bd1, 0, none⟩))] w (Ret fun v w' => ∃ (m0 : S_codec_Dec) (r0 : ByteArray), Q m0 r0 ∧ ∃ (X' : List Nat) (Fm0 : List Nat), Step X w Fd2 X' w' ∧ v = (.string r0) ∧ MO (o_codec_Dec a0 c0) 213 Fd2 w.heap.size X' w' Fm0 bd1 m0 ∧ r0.size ≤ maxLen) := by
  have hXo := hX0
  have E0 : Evo Fd2 w w := RB.refl _ _ _
  have hS : Sub X X := Sub.refl _
  have hN : News X w X w := News.refl _ _
  have hF0 : Sub Fd2 X := MO.mem md3
  unfold codec_Dec_Text_p at hp
  refine enter_ Tryz.func148 rfl 65 [(0, (.pointer (some ⟨bd1, 0, none⟩)))] (by kernel_rfl) (fun Qe hQ => ?_)
  refine seq_ (fun _ K4 => ?_)
  refine reg_ ?_
  refine sq (o_pv (.string (ByteArray.mk #[])) rfl (by kernel_rfl) ?_)
  refine nil_ ?_
  refine then_normal (K4 _ _ _ _ ?_)
  refine seq_ (fun _ K5 => ?_)
  refine reg_ ?_
  refine sq (o_pv (.pointer (some ⟨bd1, 0, none⟩)) rfl (by kernel_rfl) ?_)
  refine sq (o_pv (.pointer (some ⟨bd1, 0, none⟩)) rfl (by kernel_rfl) ?_)
  obtain ⟨voerr10, k12, hob8, roat_9, hoerr11, sb13⟩ := o_codec_Dec_open md3
  replace hp := hp (Sl.len hob8)
  replace hp := hp roat_9
  refine sq (o_pv (.pointer (some ⟨bd1, 1, none⟩)) rfl (by kernel_rfl) ?_)
  refine sq (o_pv (.int .i64 d.at_) rfl (x_load1 (by kernel_rfl) Tryz.isAgg3 (k12.2.1.cell' 1 rfl)) ?_)
  refine sq (o_pv (.int .i64 d.at_) rfl (by kernel_rfl) ?_)
  refine nil_ ?_
  refine then_normal (K5 _ _ _ _ ?_)
  refine seq_ (fun _ K14 => ?_)
  refine reg_ ?_
  refine sq (o_pv (.pointer (some ⟨bd1, 0, none⟩)) rfl (by kernel_rfl) ?_)
  obtain ⟨F15, m16, hs17⟩ := MO.pack (o_codec_Dec_mk k12 hob8 rfl roat_9 hoerr11)
  refine sq (o_call 147 #[(.pointer (some ⟨bd1, 0, none⟩))] rfl (x_call Tryz.call147 (by kernel_rfl)) (codec_Dec_Int_w (X := X) (d := d) hXo (MO.re m16 (Wr.self _ _ (Sub.refl _))) hp) ?_)
  rintro _ w20 ⟨d18, r19, hp, X21, F23, s22, rfl, m24, rr25⟩
  have m26 := MO.re m24 (Wr.trans m24.wr m16.wr E0.size)
  replace hp := hp rr25
  refine sq (o_pv (.int .i64 r19) rfl (by kernel_rfl) ?_)
  refine nil_ ?_
  refine then_normal (K14 _ _ _ _ ?_)
  refine seq_ (fun _ K27 => ?_)
  refine wp_block ?_
  refine seq_ (fun _ K28 => ?_)
  refine reg_ ?_
  refine sq (o_pv (.pointer (some ⟨bd1, 0, none⟩)) rfl (by kernel_rfl) ?_)
  refine sq (o_pv (.pointer (some ⟨bd1, 0, none⟩)) rfl (by kernel_rfl) ?_)
  obtain ⟨voerr33, k35, hob31, roat_32, hoerr34, sb36⟩ := o_codec_Dec_open m26
  replace hp := hp (Sl.len hob31)
  replace hp := hp roat_32
  refine sq (o_pv (.pointer (some ⟨bd1, 2, none⟩)) rfl (by kernel_rfl) ?_)
  refine sq (o_pv voerr33 rfl (x_load1 (by kernel_rfl) Tryz.isAgg46 (k35.2.1.cell' 2 rfl)) ?_)
  refine sq (o_pv (.bool (!d18.err.isNil)) rfl (x_err_ne d18.err hoerr34 Tryz.underlying46 (by kernel_rfl)) ?_)
  refine sq (o_pv (.bool (!d18.err.isNil)) rfl (by kernel_rfl) ?_)
  refine nil_ ?_
  refine then_normal (K28 _ _ _ _ ?_)
  refine cond_b (!d18.err.isNil) (by kernel_rfl) (fun h37 => ?_) (fun h37 => ?_)
  ·
    replace hp := hp.1 h37
    refine seq_ (fun _ K38 => ?_)
    refine reg_ ?_
    refine sq (o_pv (.string (ByteArray.mk #[])) rfl (by kernel_rfl) ?_)
    refine nil_ ?_
    refine then_normal (K38 _ _ _ _ ?_)
    refine wp_ret ?_
    refine blk_ret ?_
    refine then_ret ?_
    have hXo39 := (Old.step hXo s22)
    have E40 := (Evo.thenW E0 (Step.evo s22) m16.wr)
    have hS41 := (Sub.trans hS (Step.up s22))
    have hN42 := (News.step hN s22)
    have hob43 := (Sl.step hob8 s22)
    have hoerr44 := (Rep.step (rErr 68 70 72) hoerr11 s22)
    obtain ⟨F45, m46, hs47⟩ := MO.pack (o_codec_Dec_mk k35 hob31 rfl roat_32 hoerr34)
    refine end_ret hQ (.string (ByteArray.mk #[])) (by kernel_rfl) ?_
    exact ⟨d18, (ByteArray.mk #[]), hp, X21, F45, step_of E40 hF0 hS41 hN42, rfl, m46, (by decide : (ByteArray.mk #[]).size ≤ maxLen)⟩
  ·
    replace hp := hp.2 h37
    refine seq_ (fun _ K48 => ?_)
    refine reg_ ?_
    refine sq (o_pv (.int .i64 r19) rfl (by kernel_rfl) ?_)
    refine sq (o_pv (.bool (decide (r19 < (0 : Int)))) rfl (by kernel_rfl) ?_)
    refine sq (o_pv (.bool (decide (r19 < (0 : Int)))) rfl (by kernel_rfl) ?_)
    refine nil_ ?_
    refine then_normal (K48 _ _ _ _ ?_)
    refine cond_d (r19 < (0 : Int)) (by kernel_rfl) (fun h49 => ?_) (fun h49 => ?_)
    ·
      replace hp := hp.1 h49
      refine seq_ (fun _ K50 => ?_)
      refine reg_ ?_
      refine sq (o_pv (.pointer (some ⟨bd1, 0, none⟩)) rfl (by kernel_rfl) ?_)
      refine sq (o_pv (.int .i64 d.at_) rfl (by kernel_rfl) ?_)
      have hXo51 := (Old.step hXo s22)
      have E52 := (Evo.thenW E0 (Step.evo s22) m16.wr)
      have hS53 := (Sub.trans hS (Step.up s22))
      have hN54 := (News.step hN s22)
      have hob55 := (Sl.step hob8 s22)
      have hoerr56 := (Rep.step (rErr 68 70 72) hoerr11 s22)
      obtain ⟨F57, m58, hs59⟩ := MO.pack (o_codec_Dec_mk k35 hob31 rfl roat_32 hoerr34)
      refine sq (o_call 233 #[(.pointer (some ⟨bd1, 0, none⟩)), (.int .i64 d.at_), (.int .i64 (2 : Int))] rfl (x_call Tryz.call233 (by kernel_rfl)) (codec_Dec_fail_w (X := X21) (d := d18) (at_ := d.at_) (e := (2 : Int)) hXo51 (MO.re m58 (Wr.self _ _ (Sub.refl _))) roat_9 (by decide : inR .i64 (2 : Int)) hp) ?_)
      rintro _ w61 ⟨d60, hp, X62, F64, s63, rfl, m65⟩
      have m66 := MO.re m65 (Wr.trans m65.wr m58.wr E52.size)
      refine nil_ ?_
      refine then_normal (K50 _ _ _ _ ?_)
      refine seq_ (fun _ K67 => ?_)
      refine reg_ ?_
      refine sq (o_pv (.string (ByteArray.mk #[])) rfl (by kernel_rfl) ?_)
      refine nil_ ?_
      refine then_normal (K67 _ _ _ _ ?_)
      refine wp_ret ?_
      refine blk_ret ?_
      refine then_ret ?_
      have hXo68 := (Old.step hXo51 s63)
      have E69 := (Evo.thenW E52 (Step.evo s63) m58.wr)
      have hS70 := (Sub.trans hS53 (Step.up s63))
      have hN71 := (News.step hN54 s63)
      have hob72 := (Sl.step hob55 s63)
      have hoerr73 := (Rep.step (rErr 68 70 72) hoerr56 s63)
      have hob74 := (Sl.step hob31 s63)
      have hoerr75 := (Rep.step (rErr 68 70 72) hoerr34 s63)
      refine end_ret hQ (.string (ByteArray.mk #[])) (by kernel_rfl) ?_
      exact ⟨d60, (ByteArray.mk #[]), hp, X62, F64, step_of E69 hF0 hS70 hN71, rfl, m66, (by decide : (ByteArray.mk #[]).size ≤ maxLen)⟩
    ·
      replace hp := hp.2 h49
      refine seq_ (fun _ K76 => ?_)
      have hXo77 := (Old.step hXo s22)
      have E78 := (Evo.thenW E0 (Step.evo s22) m16.wr)
      have hS79 := (Sub.trans hS (Step.up s22))
      have hN80 := (News.step hN s22)
      have hob81 := (Sl.step hob8 s22)
      have hoerr82 := (Rep.step (rErr 68 70 72) hoerr11 s22)
      refine reg_drawn (RB w20.heap.size []) 12 (by kernel_rfl) (fun w83 hd84 => ?_)
      have e85 := Evo.of_drew hd84
      have z86 : w83.heap.size = w20.heap.size := by rw [hd84]
      clear hd84
      have s88 := Step.of0 X21 e85
      have er87 := RB.refl w20.heap.size [] w83
      have hXo89 := (Old.step hXo77 s88)
      have E90 := (Evo.then0 E78 (Step.evo s88))
      have hS91 := (Sub.trans hS79 (Step.up s88))
      have hN92 := (News.step hN80 s88)
      have hob93 := (Sl.step hob81 s88)
      have hoerr94 := (Rep.step (rErr 68 70 72) hoerr82 s88)
      have k95 := (OB.step0 k35 s88)
      have hob96 := (Sl.step hob31 s88)
      have hoerr97 := (Rep.step (rErr 68 70 72) hoerr34 s88)
      refine r_take 0 (.int .i64 r19) (RB.pre _ _) rfl (by kernel_rfl) (fun _ _ _ h => hQ.panic _ _ _ _ _ h) (.inl ⟨rfl, fun wq hq => (by kernel_rfl)⟩) ?_
      refine r_take 1 (.pointer (some ⟨bd1, 0, none⟩)) (RB.pre _ _) rfl (by kernel_rfl) (fun _ _ _ h => hQ.panic _ _ _ _ _ h) (.inl ⟨rfl, fun wq hq => (by kernel_rfl)⟩) ?_
      refine r_take 2 (.pointer (some ⟨bd1, 0, none⟩)) (RB.pre _ _) rfl (by kernel_rfl) (fun _ _ _ h => hQ.panic _ _ _ _ _ h) (.inl ⟨rfl, fun wq hq => (by kernel_rfl)⟩) ?_
      refine r_take 3 (.pointer (some ⟨bd1, 0, none⟩)) (RB.pre _ _) rfl (by kernel_rfl) (fun _ _ _ h => hQ.panic _ _ _ _ _ h) (.inl ⟨rfl, fun wq hq => (by kernel_rfl)⟩) ?_
      refine r_take 4 (.slice a0 d18.b.length c0) (RB.pre _ _) rfl (by kernel_rfl) (fun _ _ _ h => hQ.panic _ _ _ _ _ h) (.inl ⟨rfl, fun wq hq => (x_load1 (by kernel_rfl) Tryz.isAgg44 ((Blk.rb k95.2.1 (RB.trans er87 hq) (Nat.lt_of_lt_of_eq (Blk.lt k95.2.1) z86) (fun h => by cases h)).cell' 0 rfl))⟩) ?_
      refine r_take 5 (.int .i64 (d18.b.length : Int)) (RB.pre _ _) rfl (by kernel_rfl) (fun _ _ _ h => hQ.panic _ _ _ _ _ h) (.inl ⟨rfl, fun wq hq => (by kernel_rfl)⟩) ?_
      refine r_take 6 (.pointer (some ⟨bd1, 0, none⟩)) (RB.pre _ _) rfl (by kernel_rfl) (fun _ _ _ h => hQ.panic _ _ _ _ _ h) (.inl ⟨rfl, fun wq hq => (by kernel_rfl)⟩) ?_
      refine r_take 7 (.pointer (some ⟨bd1, 0, none⟩)) (RB.pre _ _) rfl (by kernel_rfl) (fun _ _ _ h => hQ.panic _ _ _ _ _ h) (.inl ⟨rfl, fun wq hq => (by kernel_rfl)⟩) ?_
      refine r_take 8 (.pointer (some ⟨bd1, 1, none⟩)) (RB.pre _ _) rfl (by kernel_rfl) (fun _ _ _ h => hQ.panic _ _ _ _ _ h) (.inl ⟨rfl, fun wq hq => (by kernel_rfl)⟩) ?_
      refine r_take 9 (.int .i64 d18.at_) (RB.pre _ _) rfl (by kernel_rfl) (fun _ _ _ h => hQ.panic _ _ _ _ _ h) (.inl ⟨rfl, fun wq hq => (x_load1 (by kernel_rfl) Tryz.isAgg3 ((Blk.rb k95.2.1 (RB.trans er87 hq) (Nat.lt_of_lt_of_eq (Blk.lt k95.2.1) z86) (fun h => by cases h)).cell' 1 rfl))⟩) ?_
      obtain ⟨h98, hp⟩ := hp
      refine r_take 10 (.int .i64 ((d18.b.length : Int) - d18.at_)) (RB.pre _ _) rfl (by kernel_rfl) (fun _ _ _ h => hQ.panic _ _ _ _ _ h) (.inl ⟨rfl, fun wq hq => (x_sub2 (k := .i64) (a := (d18.b.length : Int)) (b := d18.at_) ((d18.b.length : Int) - d18.at_) (by kernel_rfl) (by kernel_rfl) (wrap_inR h98))⟩) ?_
      refine r_take 11 (.bool (decide (r19 > ((d18.b.length : Int) - d18.at_)))) (RB.pre _ _) rfl (by kernel_rfl) (fun _ _ _ h => hQ.panic _ _ _ _ _ h) (.inl ⟨rfl, fun wq hq => (by kernel_rfl)⟩) ?_
      refine r_ready [12] (by kernel_rfl) rfl (all_cons ⟨_, _, _, _, _, _, rfl, ?_⟩ all_nil)
      refine o_pv (.bool (decide (r19 > ((d18.b.length : Int) - d18.at_)))) rfl (by kernel_rfl) ?_
      refine ⟨fun h => absurd h (by decide), ?_⟩
      refine r_done (by kernel_rfl) ?_
      refine then_normal (K76 _ _ _ _ ?_)
      refine cond_d (r19 > ((d18.b.length : Int) - d18.at_)) (by kernel_rfl) (fun h99 => ?_) (fun h99 => ?_)
      ·
        replace hp := hp.1 h99
        refine seq_ (fun _ K100 => ?_)
        refine reg_ ?_
        refine sq (o_pv (.pointer (some ⟨bd1, 0, none⟩)) rfl (by kernel_rfl) ?_)
        refine sq (o_pv (.int .i64 d.at_) rfl (by kernel_rfl) ?_)
        obtain ⟨F101, m102, hs103⟩ := MO.pack (o_codec_Dec_mk k95 hob96 rfl roat_32 hoerr97)
        refine sq (o_call 233 #[(.pointer (some ⟨bd1, 0, none⟩)), (.int .i64 d.at_), (.int .i64 (3 : Int))] rfl (x_call Tryz.call233 (by kernel_rfl)) (codec_Dec_fail_w (X := X21) (d := d18) (at_ := d.at_) (e := (3 : Int)) hXo89 (MO.re m102 (Wr.self _ _ (Sub.refl _))) roat_9 (by decide : inR .i64 (3 : Int)) hp) ?_)
        rintro _ w105 ⟨d104, hp, X106, F108, s107, rfl, m109⟩
        have m110 := MO.re m109 (Wr.trans m109.wr m102.wr E90.size)
        refine nil_ ?_
        refine then_normal (K100 _ _ _ _ ?_)
        refine seq_ (fun _ K111 => ?_)
        refine reg_ ?_
        refine sq (o_pv (.string (ByteArray.mk #[])) rfl (by kernel_rfl) ?_)
        refine nil_ ?_
        refine then_normal (K111 _ _ _ _ ?_)
        refine wp_ret ?_
        refine blk_ret ?_
        refine then_ret ?_
        have hXo112 := (Old.step hXo89 s107)
        have E113 := (Evo.thenW E90 (Step.evo s107) m102.wr)
        have hS114 := (Sub.trans hS91 (Step.up s107))
        have hN115 := (News.step hN92 s107)
        have hob116 := (Sl.step hob93 s107)
        have hoerr117 := (Rep.step (rErr 68 70 72) hoerr94 s107)
        have hob118 := (Sl.step hob96 s107)
        have hoerr119 := (Rep.step (rErr 68 70 72) hoerr97 s107)
        refine end_ret hQ (.string (ByteArray.mk #[])) (by kernel_rfl) ?_
        exact ⟨d104, (ByteArray.mk #[]), hp, X106, F108, step_of E113 hF0 hS114 hN115, rfl, m110, (by decide : (ByteArray.mk #[]).size ≤ maxLen)⟩
      ·
        replace hp := hp.2 h99
        refine wp_skip ?_
        refine blk_normal ?_
        refine then_normal (K27 _ _ _ _ ?_)
        refine seq_ (fun _ K120 => ?_)
        refine reg_drawn (RB w83.heap.size []) 16 (by kernel_rfl) (fun w121 hd122 => ?_)
        have e123 := Evo.of_drew hd122
        have z124 : w121.heap.size = w83.heap.size := by rw [hd122]
        clear hd122
        have s126 := Step.of0 X21 e123
        have er125 := RB.refl w83.heap.size [] w121
        have hXo127 := (Old.step hXo89 s126)
        have E128 := (Evo.then0 E90 (Step.evo s126))
        have hS129 := (Sub.trans hS91 (Step.up s126))
        have hN130 := (News.step hN92 s126)
        have hob131 := (Sl.step hob93 s126)
        have hoerr132 := (Rep.step (rErr 68 70 72) hoerr94 s126)
        have k133 := (OB.step0 k95 s126)
        have hob134 := (Sl.step hob96 s126)
        have hoerr135 := (Rep.step (rErr 68 70 72) hoerr97 s126)
        refine r_take 0 (.pointer (some ⟨bd1, 0, none⟩)) (RB.pre _ _) rfl (by kernel_rfl) (fun _ _ _ h => hQ.panic _ _ _ _ _ h) (.inl ⟨rfl, fun wq hq => (by kernel_rfl)⟩) ?_
        refine r_take 1 (.pointer (some ⟨bd1, 0, none⟩)) (RB.pre _ _) rfl (by kernel_rfl) (fun _ _ _ h => hQ.panic _ _ _ _ _ h) (.inl ⟨rfl, fun wq hq => (by kernel_rfl)⟩) ?_
        refine r_take 2 (.pointer (some ⟨bd1, 0, none⟩)) (RB.pre _ _) rfl (by kernel_rfl) (fun _ _ _ h => hQ.panic _ _ _ _ _ h) (.inl ⟨rfl, fun wq hq => (by kernel_rfl)⟩) ?_
        refine r_take 3 (.slice a0 d18.b.length c0) (RB.pre _ _) rfl (by kernel_rfl) (fun _ _ _ h => hQ.panic _ _ _ _ _ h) (.inl ⟨rfl, fun wq hq => (x_load1 (by kernel_rfl) Tryz.isAgg44 ((Blk.rb k133.2.1 (RB.trans er125 hq) (Nat.lt_of_lt_of_eq (Blk.lt k133.2.1) z124) (fun h => by cases h)).cell' 0 rfl))⟩) ?_
        refine r_take 4 (.pointer (some ⟨bd1, 0, none⟩)) (RB.pre _ _) rfl (by kernel_rfl) (fun _ _ _ h => hQ.panic _ _ _ _ _ h) (.inl ⟨rfl, fun wq hq => (by kernel_rfl)⟩) ?_
        refine r_take 5 (.pointer (some ⟨bd1, 0, none⟩)) (RB.pre _ _) rfl (by kernel_rfl) (fun _ _ _ h => hQ.panic _ _ _ _ _ h) (.inl ⟨rfl, fun wq hq => (by kernel_rfl)⟩) ?_
        refine r_take 6 (.pointer (some ⟨bd1, 1, none⟩)) (RB.pre _ _) rfl (by kernel_rfl) (fun _ _ _ h => hQ.panic _ _ _ _ _ h) (.inl ⟨rfl, fun wq hq => (by kernel_rfl)⟩) ?_
        refine r_take 7 (.int .i64 d18.at_) (RB.pre _ _) rfl (by kernel_rfl) (fun _ _ _ h => hQ.panic _ _ _ _ _ h) (.inl ⟨rfl, fun wq hq => (x_load1 (by kernel_rfl) Tryz.isAgg3 ((Blk.rb k133.2.1 (RB.trans er125 hq) (Nat.lt_of_lt_of_eq (Blk.lt k133.2.1) z124) (fun h => by cases h)).cell' 1 rfl))⟩) ?_
        refine r_take 8 (.pointer (some ⟨bd1, 0, none⟩)) (RB.pre _ _) rfl (by kernel_rfl) (fun _ _ _ h => hQ.panic _ _ _ _ _ h) (.inl ⟨rfl, fun wq hq => (by kernel_rfl)⟩) ?_
        refine r_take 9 (.pointer (some ⟨bd1, 0, none⟩)) (RB.pre _ _) rfl (by kernel_rfl) (fun _ _ _ h => hQ.panic _ _ _ _ _ h) (.inl ⟨rfl, fun wq hq => (by kernel_rfl)⟩) ?_
        refine r_take 10 (.pointer (some ⟨bd1, 1, none⟩)) (RB.pre _ _) rfl (by kernel_rfl) (fun _ _ _ h => hQ.panic _ _ _ _ _ h) (.inl ⟨rfl, fun wq hq => (by kernel_rfl)⟩) ?_
        refine r_take 11 (.int .i64 d18.at_) (RB.pre _ _) rfl (by kernel_rfl) (fun _ _ _ h => hQ.panic _ _ _ _ _ h) (.inl ⟨rfl, fun wq hq => (x_load1 (by kernel_rfl) Tryz.isAgg3 ((Blk.rb k133.2.1 (RB.trans er125 hq) (Nat.lt_of_lt_of_eq (Blk.lt k133.2.1) z124) (fun h => by cases h)).cell' 1 rfl))⟩) ?_
        refine r_take 12 (.int .i64 r19) (RB.pre _ _) rfl (by kernel_rfl) (fun _ _ _ h => hQ.panic _ _ _ _ _ h) (.inl ⟨rfl, fun wq hq => (by kernel_rfl)⟩) ?_
        obtain ⟨h136, hp⟩ := hp
        refine r_take 13 (.int .i64 (d18.at_ + r19)) (RB.pre _ _) rfl (by kernel_rfl) (fun _ _ _ h => hQ.panic _ _ _ _ _ h) (.inl ⟨rfl, fun wq hq => (x_add2 (k := .i64) (a := d18.at_) (b := r19) (d18.at_ + r19) (by kernel_rfl) (by kernel_rfl) (wrap_inR h136))⟩) ?_
        obtain ⟨h140, hp⟩ := hp
        refine r_slice (R := (rInt .u8)) (X := X21) (L := d18.b) 14 (RB.pre _ _) rfl (by kernel_rfl) (fun _ _ _ _ h => hQ.panic _ _ _ _ _ h) d18.at_.toNat ((d18.at_ + r19).toNat) ((d18.b.take (d18.at_ + r19).toNat).drop d18.at_.toNat) rfl Tryz.underlying44 Tryz.sizeOf5 hob134 (by kernel_rfl) rfl (.inr ⟨.i64, by rw [show ((d18.at_.toNat : Nat) : Int) = d18.at_ from by omega]; kernel_rfl⟩) (.inr ⟨.i64, by rw [show (((d18.at_ + r19).toNat : Nat) : Int) = d18.at_ + r19 from by omega]; kernel_rfl⟩) (by omega) (by omega) rfl ?_
        intro a137 c138 h139
        refine r_ready [15] (by kernel_rfl) rfl (all_cons ⟨_, _, _, _, _, _, rfl, ?_⟩ all_nil)
        have hl141 := Sl.len h139
        refine o_pv (.string (strOfNums ((d18.b.take (d18.at_ + r19).toNat).drop d18.at_.toNat))) rfl (x_b2s_sl (a := a137) (len := ((d18.b.take (d18.at_ + r19).toNat).drop d18.at_.toNat).length) (c := c138) ((d18.b.take (d18.at_ + r19).toNat).drop d18.at_.toNat) Tryz.underlying44 Tryz.underlying5 Tryz.underlying9 (by kernel_rfl) rfl h139) ?_
        refine ⟨fun _ => RB.refl _ _ _, ?_⟩
        refine r_ready [16] (by kernel_rfl) rfl (all_cons ⟨_, _, _, _, _, _, rfl, ?_⟩ all_nil)
        refine o_pv (.string (strOfNums ((d18.b.take (d18.at_ + r19).toNat).drop d18.at_.toNat))) rfl (by kernel_rfl) ?_
        refine ⟨fun h => absurd h (by decide), ?_⟩
        refine r_done (by kernel_rfl) ?_
        refine then_normal (K120 _ _ _ _ ?_)
        refine seq_ (fun _ K142 => ?_)
        refine reg_ ?_
        refine sq (o_pv (.pointer (some ⟨bd1, 0, none⟩)) rfl (by kernel_rfl) ?_)
        refine sq (o_pv (.pointer (some ⟨bd1, 0, none⟩)) rfl (by kernel_rfl) ?_)
        refine sq (o_pv (.pointer (some ⟨bd1, 1, none⟩)) rfl (by kernel_rfl) ?_)
        refine sq (o_pv (.int .i64 d18.at_) rfl (x_load1 (by kernel_rfl) Tryz.isAgg3 (k133.2.1.cell' 1 rfl)) ?_)
        refine sq (o_pv (.int .i64 r19) rfl (by kernel_rfl) ?_)
        obtain ⟨h143, hp⟩ := hp
        refine sq (o_pv (.int .i64 (d18.at_ + r19)) rfl (x_add2 (k := .i64) (a := d18.at_) (b := r19) (d18.at_ + r19) (by kernel_rfl) (by kernel_rfl) (wrap_inR h143)) ?_)
        refine sq (o_pv (.pointer (some ⟨bd1, 0, none⟩)) rfl (by kernel_rfl) ?_)
        refine sq (o_pv (.pointer (some ⟨bd1, 1, none⟩)) rfl (by kernel_rfl) ?_)
        refine sq (o_stB (o := 1) (v := (.int .i64 (d18.at_ + r19))) [(.slice a0 d18.b.length c0), (.int .i64 (d18.at_ + r19)), voerr33] rfl k133 (by kernel_rfl) (by kernel_rfl) Tryz.sizeOf3 rfl rfl rfl ?_)
        intro w144 s145 k146
        refine nil_ ?_
        refine then_normal (K142 _ _ _ _ ?_)
        refine seq_ (fun _ K147 => ?_)
        refine reg_ ?_
        refine sq (o_pv (.string (strOfNums ((d18.b.take (d18.at_ + r19).toNat).drop d18.at_.toNat))) rfl (by kernel_rfl) ?_)
        refine sq (o_pv (.string (strOfNums ((d18.b.take (d18.at_ + r19).toNat).drop d18.at_.toNat))) rfl (by kernel_rfl) ?_)
        refine nil_ ?_
        refine then_normal (K147 _ _ _ _ ?_)
        refine wp_ret ?_
        have hXo148 := (Old.step hXo127 s145)
        have E149 := (Evo.thenW E128 (Step.evo s145) k133.2.2)
        have hS150 := (Sub.trans hS129 (Step.up s145))
        have hN151 := (News.step hN130 s145)
        have hob152 := (Sl.step hob131 s145)
        have hoerr153 := (Rep.step (rErr 68 70 72) hoerr132 s145)
        have hob154 := (Sl.step hob134 s145)
        have hoerr155 := (Rep.step (rErr 68 70 72) hoerr135 s145)
        have h156 := (Sl.step h139 s145)
        obtain ⟨F157, m158, hs159⟩ := MO.pack (o_codec_Dec_mk k146 hob154 rfl h143 hoerr155)
        refine end_ret hQ (.string (strOfNums ((d18.b.take (d18.at_ + r19).toNat).drop d18.at_.toNat))) (by kernel_rfl) ?_
        exact ⟨(S_codec_Dec.mk d18.b (d18.at_ + r19) d18.err), (strOfNums ((d18.b.take (d18.at_ + r19).toNat).drop d18.at_.toNat)), hp, X21, F157, step_of E149 hF0 hS150 hN151, rfl, m158, (strOfNums_le hl141)⟩

def codec_Enc_Int_p (e : S_codec_Enc) (l : (List Int)) (Q : S_codec_Enc → Prop) : Prop :=
  ((l.length ≤ 9223372036854775807) → (∃ (I443 : Int → S_codec_Enc → Prop) (m444 : Int → S_codec_Enc → Nat), (I443 (0 : Int) e) ∧ (∀ (s224 : Int) (o226 : S_codec_Enc), (I443 s224 o226) → (inR .i64 s224) → (((s224 < (l.length : Int)) → ((inL l s224) ∧ ((inR .i64 (lget l s224)) → (∀ y474 : Int, y474 = (ixor .u64 (ishl .u64 (iwrap .u64 (lget l s224)) (1 : Int)) (iwrap .u64 (ishr .i64 (lget l s224) (63 : Int)))) → (∃ (I570 : Int → S_codec_Enc → Prop) (m571 : Int → S_codec_Enc → Nat), (I570 y474 o226) ∧ (∀ (v522 : Int) (o524 : S_codec_Enc), (I570 v522 o524) → (inR .u64 v522) → (((v522 ≥ (128 : Int)) → ((o524.b.length ≤ 9223372036854775807) → (((o524.b.length + ([ior .u8 (iwrap .u8 (iand .u64 v522 (127 : Int))) (128 : Int)]).length) * 1 ≤ 140737488355328) ∧ ((I570 (ishr .u64 v522 (7 : Int)) (S_codec_Enc.mk (o524.b ++ ([ior .u8 (iwrap .u8 (iand .u64 v522 (127 : Int))) (128 : Int)])))) ∧ m571 (ishr .u64 v522 (7 : Int)) (S_codec_Enc.mk (o524.b ++ ([ior .u8 (iwrap .u8 (iand .u64 v522 (127 : Int))) (128 : Int)]))) < m571 v522 o524)))) ∧ ((¬ (v522 ≥ (128 : Int))) → ((o524.b.length ≤ 9223372036854775807) → (((o524.b.length + ([iwrap .u8 v522]).length) * 1 ≤ 140737488355328) ∧ ((inR .i64 (s224 + (1 : Int))) ∧ ((I443 (s224 + (1 : Int)) (S_codec_Enc.mk (o524.b ++ ([iwrap .u8 v522])))) ∧ m444 (s224 + (1 : Int)) (S_codec_Enc.mk (o524.b ++ ([iwrap .u8 v522]))) < m444 s224 o226)))))))))))) ∧ ((¬ (s224 < (l.length : Int))) → Q o226)))))
set_option maxRecDepth 20000 in
set_option maxHeartbeats 4000000 in
theorem codec_Enc_Int_w {X : List Nat} {w : World} {e : S_codec_Enc} {l : (List Int)} {be1 : Nat} {Fe2 : List Nat} {al4 : Option Addr} {cl5 : Nat} {Q : S_codec_Enc → Prop} (hX0 : Old X w) (me3 : MO o_codec_Enc tyE Fe2 w.heap.size X w Fe2 be1 e) (hl6 : Sl (rInt .i64) X w al4 cl5 l) (hp : codec_Enc_Int_p e l Q) :
    Calls Tryz.prog 130 #[(.pointer (some ⟨be1, 0, none⟩)), (.slice al4 l.length cl5)] w (Ret fun v w' => ∃ (m0 : S_codec_Enc), Q m0 ∧ ∃ (X' : List Nat) (Fm0 : List Nat), Step X w Fe2 X' w' ∧ v = .tuple #[] ∧ MO o_codec_Enc tyE Fe2 w.heap.size X' w' Fm0 be1 m0) := by
  have hXo := hX0
  have E0 : Evo Fe2 w w := RB.refl _ _ _
  have hS : Sub X X := Sub.refl _
  have hN : News X w X w := News.refl _ _
  have hF0 : Sub Fe2 X := MO.mem me3
  unfold codec_Enc_Int_p at hp
  refine enter_ Tryz.func130 rfl 49 [(0, (.pointer (some ⟨be1, 0, none⟩))), (1, (.slice al4 l.length cl5))] (by kernel_rfl) (fun Qe hQ => ?_)
  replace hp := hp (Sl.len hl6)
  refine seq_ (fun _ K7 => ?_)
  refine reg_ ?_
  refine sq (o_pv (.slice al4 l.length cl5) rfl (by kernel_rfl) ?_)
  refine sq (o_pv (.int .i64 (l.length : Int)) rfl (by kernel_rfl) ?_)
  refine sq (o_pv (.int .i64 (0 : Int)) rfl (by kernel_rfl) ?_)
  refine nil_ ?_
  refine then_normal (K7 _ _ _ _ ?_)
  refine wp_block ?_
  obtain ⟨I443, m444, hI445, hp⟩ := hp
  refine loop_ 562949953420896 (fun kq lq w447 => ∃ (X448 : List Nat) (s224 : Int) (o226 : S_codec_Enc) (F227 : List Nat), (lq = [(9, (.int .i64 s224))]) ∧ (kq = m444 s224 o226) ∧ (Evo Fe2 w w447) ∧ (Old X448 w447) ∧ (Sub X X448) ∧ (News X w X448 w447) ∧ (Sl (rInt .i64) X448 w447 al4 cl5 l) ∧ (MO o_codec_Enc tyE Fe2 w.heap.size X448 w447 F227 be1 o226) ∧ (inR .i64 s224) ∧ (I443 s224 o226)) (m444 (0 : Int) e) [(9, (.int .i64 (0 : Int)))] (vs_cons (by kernel_rfl) vs_nil) ⟨X, (0 : Int), e, Fe2, rfl, rfl, E0, hXo, hS, hN, hl6, me3, (by decide : inR .i64 (0 : Int)), hI445⟩ ?_
  rintro _ _ w447 g450 ⟨X448, s224, o226, F227, rfl, rfl, E453, hXo454, hS455, hN456, hl457, m228, rs225, hI446⟩ Kl451 hA452
  replace hp := hp s224 o226 hI446 rs225
  refine seq_ (fun _ K458 => ?_)
  refine reg_ ?_
  refine sq (o_pv (.bool (decide (s224 < (l.length : Int)))) rfl (by kernel_rfl) ?_)
  refine nil_ ?_
  refine then_normal (K458 _ _ _ _ ?_)
  refine seq_ (fun _ K459 => ?_)
  refine cond_d (s224 < (l.length : Int)) (by kernel_rfl) (fun h460 => ?_) (fun h460 => ?_)
  ·
    replace hp := hp.1 h460
    refine wp_skip ?_
    refine then_normal (K459 _ _ _ _ ?_)
    refine seq_ (fun _ K461 => ?_)
    refine wp_block ?_
    refine seq_ (fun _ K462 => ?_)
    refine reg_ ?_
    obtain ⟨h463, hp⟩ := hp
    obtain ⟨b464, o465, cs466, ha467, nx468, lt469, ok470, hc471⟩ := Sl.atI hl457 s224 h463
    obtain ⟨rfl, re472⟩ := ok470
    replace hp := hp re472
    refine sq (o_pv (.pointer (some ⟨b464, o465 + s224.toNat * 1, none⟩)) rfl (x_ixA (m := l.length) (c := cl5) (k := .i64) (i := s224) Tryz.underlying52 Tryz.sizeOf3 (by rw [← ha467]; kernel_rfl) (by kernel_rfl) h463) ?_)
    refine sq (o_pv (.int .i64 (lget l s224)) rfl (x_load1 (by kernel_rfl) Tryz.isAgg3 (hc471 0 _ rfl)) ?_)
    refine sq (o_pv (.int .i64 (lget l s224)) rfl (by kernel_rfl) ?_)
    refine nil_ ?_
    refine then_normal (K462 _ _ _ _ ?_)
    refine seq_ (fun _ K473 => ?_)
    refine reg_ ?_
    refine sq (o_pv (.int .i64 (lget l s224)) rfl (by kernel_rfl) ?_)
    refine sq (o_pv (.int .u64 (iwrap .u64 (lget l s224))) rfl (x_convw (k := .i64) Tryz.underlying3 Tryz.underlying279 (by kernel_rfl)) ?_)
    refine sq (o_pv (.int .u64 (ishl .u64 (iwrap .u64 (lget l s224)) (1 : Int))) rfl (x_shl (k := .u64) (k' := .u64) (a := iwrap .u64 (lget l s224)) (b := (1 : Int)) (by kernel_rfl) (by kernel_rfl) (by decide)) ?_)
    refine sq (o_pv (.int .i64 (lget l s224)) rfl (by kernel_rfl) ?_)
    refine sq (o_pv (.int .i64 (ishr .i64 (lget l s224) (63 : Int))) rfl (x_shr (k := .i64) (k' := .u64) (a := lget l s224) (b := (63 : Int)) (by kernel_rfl) (by kernel_rfl) (by decide)) ?_)
    refine sq (o_pv (.int .u64 (iwrap .u64 (ishr .i64 (lget l s224) (63 : Int)))) rfl (x_convw (k := .i64) Tryz.underlying2 Tryz.underlying279 (by kernel_rfl)) ?_)
    obtain ⟨y474, qy474⟩ : ∃ y, y = (ixor .u64 (ishl .u64 (iwrap .u64 (lget l s224)) (1 : Int)) (iwrap .u64 (ishr .i64 (lget l s224) (63 : Int)))) := ⟨_, rfl⟩
    replace hp := hp y474 qy474
    have r475 : inR .u64 y474 := by rw [qy474]; exact (inR_ixor _ _ _)
    refine sq (o_pv (.int .u64 y474) rfl (by rw [qy474]; exact (x_xor (k := .u64) (a := ishl .u64 (iwrap .u64 (lget l s224)) (1 : Int)) (b := iwrap .u64 (ishr .i64 (lget l s224) (63 : Int))) (by kernel_rfl) (by kernel_rfl))) ?_)
    refine sq (o_pv (.int .u64 y474) rfl (by kernel_rfl) ?_)
    refine nil_ ?_
    refine then_normal (K473 _ _ _ _ ?_)
    refine seq_ (fun _ K476 => ?_)
    refine wp_block ?_
    obtain ⟨I570, m571, hI572, hp⟩ := hp
    refine loop_ 137437904960 (fun kq lq w574 => ∃ (X575 : List Nat) (v522 : Int) (o524 : S_codec_Enc) (F525 : List Nat), (lq = [(6, (.int .u64 v522))]) ∧ (kq = m571 v522 o524) ∧ (Evo Fe2 w w574) ∧ (Old X575 w574) ∧ (Sub X X575) ∧ (News X w X575 w574) ∧ (Sl (rInt .i64) X575 w574 al4 cl5 l) ∧ (MO o_codec_Enc tyE Fe2 w.heap.size X575 w574 F525 be1 o524) ∧ (inR .u64 v522) ∧ (I570 v522 o524)) (m571 y474 o226) [(6, (.int .u64 y474))] (vs_cons (by kernel_rfl) vs_nil) ⟨X448, y474, o226, F227, rfl, rfl, E453, hXo454, hS455, hN456, hl457, m228, r475, hI572⟩ ?_
    rintro _ _ w574 g577 ⟨X575, v522, o524, F525, rfl, rfl, E580, hXo581, hS582, hN583, hl584, m526, rv523, hI573⟩ Kl578 hA579
    replace hp := hp v522 o524 hI573 rv523
    refine seq_ (fun _ K585 => ?_)
    refine seq_ (fun _ K586 => ?_)
    refine reg_ ?_
    refine sq (o_pv (.int .u64 v522) rfl (by kernel_rfl) ?_)
    refine sq (o_pv (.bool (decide (v522 ≥ (128 : Int)))) rfl (by kernel_rfl) ?_)
    refine nil_ ?_
    refine then_normal (K586 _ _ _ _ ?_)
    refine cond_d (v522 ≥ (128 : Int)) (by kernel_rfl) (fun h587 => ?_) (fun h587 => ?_)
    ·
      replace hp := hp.1 h587
      refine wp_skip ?_
      refine then_normal (K585 _ _ _ _ ?_)
      refine wp_block ?_
      refine seq_ (fun _ K588 => ?_)
      refine reg_ ?_
      refine sq (o_pv (.pointer (some ⟨be1, 0, none⟩)) rfl (by kernel_rfl) ?_)
      refine sq (o_pv (.pointer (some ⟨be1, 0, none⟩)) rfl (by kernel_rfl) ?_)
      refine sq (o_pv (.pointer (some ⟨be1, 0, none⟩)) rfl (by kernel_rfl) ?_)
      obtain ⟨ao589, no590, co591, k593, Oo592, sb594, sb595, p596⟩ := o_codec_Enc_open m526
      replace hp := hp (OS.len Oo592)
      refine sq (o_pv (.pointer (some ⟨be1, 0, none⟩)) rfl (by kernel_rfl) ?_)
      refine sq (o_pv (.slice ao589 no590 co591) rfl (x_load1 (by kernel_rfl) Tryz.isAgg44 (k593.2.1.cell' 0 rfl)) ?_)
      refine sq (o_pv (.int .u64 v522) rfl (by kernel_rfl) ?_)
      refine sq (o_pv (.int .u64 (iand .u64 v522 (127 : Int))) rfl (x_and (k := .u64) (a := v522) (b := (127 : Int)) (by kernel_rfl) (by kernel_rfl)) ?_)
      refine sq (o_pv (.int .u8 (iwrap .u8 (iand .u64 v522 (127 : Int)))) rfl (x_convw (k := .u64) Tryz.underlying279 Tryz.underlying5 (by kernel_rfl)) ?_)
      refine sq (o_pv (.int .u8 (ior .u8 (iwrap .u8 (iand .u64 v522 (127 : Int))) (128 : Int))) rfl (x_or (k := .u8) (a := iwrap .u8 (iand .u64 v522 (127 : Int))) (b := (128 : Int)) (by kernel_rfl) (by kernel_rfl)) ?_)
      refine sq (o_rowX (R := (rInt .u8)) [(.int .u8 (ior .u8 (iwrap .u8 (iand .u64 v522 (127 : Int))) (128 : Int)))] [ior .u8 (iwrap .u8 (iand .u64 v522 (127 : Int))) (128 : Int)] 5 1 (X := X575) (B := w.heap.size) E580.size rfl (by kernel_rfl) (Flat.cons (cs := [(.int .u8 (ior .u8 (iwrap .u8 (iand .u64 v522 (127 : Int))) (128 : Int)))]) (rInt_mk (inR_ior _ _ _)) Flat.nil) rfl (by decide) ?_)
      intro b597 w598 X599 s600 O601 n602
      have p603 := n602 _ (OB.old k593)
      have p604 := n602 _ (OS.old Oo592)
      obtain ⟨h605, hp⟩ := hp
      have Oo606 := (OS.step0 Oo592 s600)
      have k607 := (OB.step0 k593 s600)
      have E608 := (Evo.then0 E580 (Step.evo s600))
      refine sq (o_appX (R := (rInt .u8)) (X := X599) (B := w.heap.size) (L := o524.b) (M := [ior .u8 (iwrap .u8 (iand .u64 v522 (127 : Int))) (128 : Int)]) rfl elT44 rfl E608.size Oo606 (OS.src O601) O601.1 (by kernel_rfl) (by kernel_rfl) h605 ?_)
      intro a609 n610 c611 w612 X613 s614 O615 gr616
      have p617 := gr616 _ p596 (OB.old k607)
      refine sq (o_pv (.pointer (some ⟨be1, 0, none⟩)) rfl (by kernel_rfl) ?_)
      refine sq (o_pv (.pointer (some ⟨be1, 0, none⟩)) rfl (by kernel_rfl) ?_)
      have k618 := (OB.step k607 s614 p596)
      have E619 := (Evo.thenW E608 (Step.evo s614) Oo606.2.2)
      refine sq (o_stB (o := 0) (v := (.slice a609 n610 c611)) [(.slice a609 n610 c611)] rfl k618 (by kernel_rfl) (by kernel_rfl) Tryz.sizeOf44 rfl rfl rfl ?_)
      intro w620 s621 k622
      refine nil_ ?_
      refine then_normal (K588 _ _ _ _ ?_)
      refine reg_ ?_
      refine sq (o_pv (.int .u64 v522) rfl (by kernel_rfl) ?_)
      refine sq (o_pv (.int .u64 (ishr .u64 v522 (7 : Int))) rfl (x_shr (k := .u64) (k' := .u64) (a := v522) (b := (7 : Int)) (by kernel_rfl) (by kernel_rfl) (by decide)) ?_)
      refine sq (o_pv (.int .u64 (ishr .u64 v522 (7 : Int))) rfl (by kernel_rfl) ?_)
      refine nil_ ?_
      refine blk_normal ?_
      have E623 := (Evo.thenW E619 (Step.evo s621) k618.2.2)
      have hXo624 := (Old.step (Old.step (Old.step hXo581 s600) s614) s621)
      have hS625 := (Sub.trans (Sub.trans (Sub.trans hS582 (Step.up s600)) (Step.up s614)) (Step.up s621))
      have hN626 := (News.step (News.step (News.step hN583 s600) s614) s621)
      have hl627 := (Sl.step (Sl.step (Sl.step hl584 s600) s614) s621)
      have O628 := (OS.step O615 s621 (Ap.symm p617))
      obtain ⟨F629, m630, hs631⟩ := MO.pack (o_codec_Enc_mk k622 O628 p617)
      refine then_normal (hA579 _ _ _ ⟨_, [(6, (.int .u64 (ishr .u64 v522 (7 : Int))))], hp.2, fit_mk (AgB.mix _ _ _) (by kernel_rfl) (vs_cons (by kernel_rfl) vs_nil), ?_⟩)
      exact ⟨X613, (ishr .u64 v522 (7 : Int)), (S_codec_Enc.mk (o524.b ++ ([ior .u8 (iwrap .u8 (iand .u64 v522 (127 : Int))) (128 : Int)]))), F629, rfl, rfl, E623, hXo624, hS625, hN626, hl627, m630, (inR_ishr _ rv523), hp.1⟩
    ·
      replace hp := hp.2 h587
      refine wp_exit ?_
      refine then_exit ?_
      refine then_exit ?_
      refine blk_exit ?_
      refine then_normal (K476 _ _ _ _ ?_)
      refine reg_ ?_
      refine sq (o_pv (.pointer (some ⟨be1, 0, none⟩)) rfl (by kernel_rfl) ?_)
      refine sq (o_pv (.pointer (some ⟨be1, 0, none⟩)) rfl (by kernel_rfl) ?_)
      refine sq (o_pv (.pointer (some ⟨be1, 0, none⟩)) rfl (by kernel_rfl) ?_)
      obtain ⟨ao632, no633, co634, k636, Oo635, sb637, sb638, p639⟩ := o_codec_Enc_open m526
      replace hp := hp (OS.len Oo635)
      refine sq (o_pv (.pointer (some ⟨be1, 0, none⟩)) rfl (by kernel_rfl) ?_)
      refine sq (o_pv (.slice ao632 no633 co634) rfl (x_load1 (by kernel_rfl) Tryz.isAgg44 (k636.2.1.cell' 0 rfl)) ?_)
      refine sq (o_pv (.int .u64 v522) rfl (by kernel_rfl) ?_)
      refine sq (o_pv (.int .u8 (iwrap .u8 v522)) rfl (x_convw (k := .u64) Tryz.underlying279 Tryz.underlying5 (by kernel_rfl)) ?_)
      refine sq (o_rowX (R := (rInt .u8)) [(.int .u8 (iwrap .u8 v522))] [iwrap .u8 v522] 5 1 (X := X575) (B := w.heap.size) E580.size rfl (by kernel_rfl) (Flat.cons (cs := [(.int .u8 (iwrap .u8 v522))]) (rInt_mk (inR_iwrap _ _)) Flat.nil) rfl (by decide) ?_)
      intro b640 w641 X642 s643 O644 n645
      have p646 := n645 _ (OB.old k636)
      have p647 := n645 _ (OS.old Oo635)
      obtain ⟨h648, hp⟩ := hp
      have Oo649 := (OS.step0 Oo635 s643)
      have k650 := (OB.step0 k636 s643)
      have E651 := (Evo.then0 E580 (Step.evo s643))
      refine sq (o_appX (R := (rInt .u8)) (X := X642) (B := w.heap.size) (L := o524.b) (M := [iwrap .u8 v522]) rfl elT44 rfl E651.size Oo649 (OS.src O644) O644.1 (by kernel_rfl) (by kernel_rfl) h648 ?_)
      intro a652 n653 c654 w655 X656 s657 O658 gr659
      have p660 := gr659 _ p639 (OB.old k650)
      refine sq (o_pv (.pointer (some ⟨be1, 0, none⟩)) rfl (by kernel_rfl) ?_)
      refine sq (o_pv (.pointer (some ⟨be1, 0, none⟩)) rfl (by kernel_rfl) ?_)
      have k661 := (OB.step k650 s657 p639)
      have E662 := (Evo.thenW E651 (Step.evo s657) Oo649.2.2)
      refine sq (o_stB (o := 0) (v := (.slice a652 n653 c654)) [(.slice a652 n653 c654)] rfl k661 (by kernel_rfl) (by kernel_rfl) Tryz.sizeOf44 rfl rfl rfl ?_)
      intro w663 s664 k665
      refine nil_ ?_
      refine blk_normal ?_
      refine then_normal (K461 _ _ _ _ ?_)
      refine reg_ ?_
      obtain ⟨h666, hp⟩ := hp
      refine sq (o_pv (.int .i64 (s224 + (1 : Int))) rfl (x_add2 (k := .i64) (a := s224) (b := (1 : Int)) (s224 + (1 : Int)) (by kernel_rfl) (by kernel_rfl) (wrap_inR h666)) ?_)
      refine sq (o_pv (.int .i64 (s224 + (1 : Int))) rfl (by kernel_rfl) ?_)
      refine nil_ ?_
      have E667 := (Evo.thenW E662 (Step.evo s664) k661.2.2)
      have hXo668 := (Old.step (Old.step (Old.step hXo581 s643) s657) s664)
      have hS669 := (Sub.trans (Sub.trans (Sub.trans hS582 (Step.up s643)) (Step.up s657)) (Step.up s664))
      have hN670 := (News.step (News.step (News.step hN583 s643) s657) s664)
      have hl671 := (Sl.step (Sl.step (Sl.step hl584 s643) s657) s664)
      have O672 := (OS.step O658 s664 (Ap.symm p660))
      obtain ⟨F673, m674, hs675⟩ := MO.pack (o_codec_Enc_mk k665 O672 p660)
      refine then_normal (hA452 _ _ _ ⟨_, [(9, (.int .i64 (s224 + (1 : Int))))], hp.2, fit_mk (AgB.nest (AgB.mix _ _ _) (by kernel_rfl) (by kernel_rfl)) (by kernel_rfl) (vs_cons (by kernel_rfl) vs_nil), ?_⟩)
      exact ⟨X656, (s224 + (1 : Int)), (S_codec_Enc.mk (o524.b ++ ([iwrap .u8 v522]))), F673, rfl, rfl, E667, hXo668, hS669, hN670, hl671, m674, h666, hp.1⟩
  ·
    replace hp := hp.2 h460
    refine wp_exit ?_
    refine then_exit ?_
    refine then_exit ?_
    refine blk_exit ?_
    refine end_normal hQ (.tuple #[]) (by kernel_rfl) ?_
    exact ⟨o226, hp, X448, F227, step_of E453 hF0 hS455 hN456, rfl, m228⟩

def codec_Enc_Text_p (e : S_codec_Enc) (l : (List ByteArray)) (Q : S_codec_Enc → Prop) : Prop :=
  ((l.length ≤ 9223372036854775807) → (∃ (I169 : Int → S_codec_Enc → Prop) (m170 : Int → S_codec_Enc → Nat), (I169 (0 : Int) e) ∧ (∀ (s87 : Int) (o89 : S_codec_Enc), (I169 s87 o89) → (inR .i64 s87) → (((s87 < (l.length : Int)) → ((inL l s87) ∧ (((lget l s87).size ≤ maxLen) → (codec_Enc_Int_p o89 ([((lget l s87).size : Int)]) (fun (e224 : S_codec_Enc) => ((e224.b.length ≤ 9223372036854775807) → ((e224.b.length + (lget l s87).size ≤ 140737488355328) ∧ ((inR .i64 (s87 + (1 : Int))) ∧ ((I169 (s87 + (1 : Int)) (S_codec_Enc.mk (e224.b ++ bytesL (lget l s87)))) ∧ m170 (s87 + (1 : Int)) (S_codec_Enc.mk (e224.b ++ bytesL (lget l s87))) < m170 s87 o89))))))))) ∧ ((¬ (s87 < (l.length : Int))) → Q o89)))))
set_option maxRecDepth 20000 in
set_option maxHeartbeats 4000000 in
theorem codec_Enc_Text_w {X : List Nat} {w : World} {e : S_codec_Enc} {l : (List ByteArray)} {be1 : Nat} {Fe2 : List Nat} {al4 : Option Addr} {cl5 : Nat} {Q : S_codec_Enc → Prop} (hX0 : Old X w) (me3 : MO o_codec_Enc tyE Fe2 w.heap.size X w Fe2 be1 e) (hl6 : Sl rStr X w al4 cl5 l) (hp : codec_Enc_Text_p e l Q) :
    Calls Tryz.prog 131 #[(.pointer (some ⟨be1, 0, none⟩)), (.slice al4 l.length cl5)] w (Ret fun v w' => ∃ (m0 : S_codec_Enc), Q m0 ∧ ∃ (X' : List Nat) (Fm0 : List Nat), Step X w Fe2 X' w' ∧ v = .tuple #[] ∧ MO o_codec_Enc tyE Fe2 w.heap.size X' w' Fm0 be1 m0) := by
  have hXo := hX0
  have E0 : Evo Fe2 w w := RB.refl _ _ _
  have hS : Sub X X := Sub.refl _
  have hN : News X w X w := News.refl _ _
  have hF0 : Sub Fe2 X := MO.mem me3
  unfold codec_Enc_Text_p at hp
  refine enter_ Tryz.func131 rfl 27 [(0, (.pointer (some ⟨be1, 0, none⟩))), (1, (.slice al4 l.length cl5))] (by kernel_rfl) (fun Qe hQ => ?_)
  replace hp := hp (Sl.len hl6)
  refine seq_ (fun _ K7 => ?_)
  refine reg_ ?_
  refine sq (o_pv (.slice al4 l.length cl5) rfl (by kernel_rfl) ?_)
  refine sq (o_pv (.int .i64 (l.length : Int)) rfl (by kernel_rfl) ?_)
  refine sq (o_pv (.int .i64 (0 : Int)) rfl (by kernel_rfl) ?_)
  refine nil_ ?_
  refine then_normal (K7 _ _ _ _ ?_)
  refine wp_block ?_
  obtain ⟨I169, m170, hI171, hp⟩ := hp
  refine loop_ 134217504 (fun kq lq w173 => ∃ (X174 : List Nat) (s87 : Int) (o89 : S_codec_Enc) (F90 : List Nat), (lq = [(8, (.int .i64 s87))]) ∧ (kq = m170 s87 o89) ∧ (Evo Fe2 w w173) ∧ (Old X174 w173) ∧ (Sub X X174) ∧ (News X w X174 w173) ∧ (Sl rStr X174 w173 al4 cl5 l) ∧ (MO o_codec_Enc tyE Fe2 w.heap.size X174 w173 F90 be1 o89) ∧ (inR .i64 s87) ∧ (I169 s87 o89)) (m170 (0 : Int) e) [(8, (.int .i64 (0 : Int)))] (vs_cons (by kernel_rfl) vs_nil) ⟨X, (0 : Int), e, Fe2, rfl, rfl, E0, hXo, hS, hN, hl6, me3, (by decide : inR .i64 (0 : Int)), hI171⟩ ?_
  rintro _ _ w173 g176 ⟨X174, s87, o89, F90, rfl, rfl, E179, hXo180, hS181, hN182, hl183, m91, rs88, hI172⟩ Kl177 hA178
  replace hp := hp s87 o89 hI172 rs88
  refine seq_ (fun _ K184 => ?_)
  refine reg_ ?_
  refine sq (o_pv (.bool (decide (s87 < (l.length : Int)))) rfl (by kernel_rfl) ?_)
  refine nil_ ?_
  refine then_normal (K184 _ _ _ _ ?_)
  refine seq_ (fun _ K185 => ?_)
  refine cond_d (s87 < (l.length : Int)) (by kernel_rfl) (fun h186 => ?_) (fun h186 => ?_)
  ·
    replace hp := hp.1 h186
    refine wp_skip ?_
    refine then_normal (K185 _ _ _ _ ?_)
    refine seq_ (fun _ K187 => ?_)
    refine wp_block ?_
    refine seq_ (fun _ K188 => ?_)
    refine reg_ ?_
    obtain ⟨h189, hp⟩ := hp
    obtain ⟨b190, o191, cs192, ha193, nx194, lt195, ok196, hc197⟩ := Sl.atI hl183 s87 h189
    obtain ⟨rfl, ze198⟩ := ok196
    replace hp := hp ze198
    refine sq (o_pv (.pointer (some ⟨b190, o191 + s87.toNat * 1, none⟩)) rfl (x_ixA (m := l.length) (c := cl5) (k := .i64) (i := s87) Tryz.underlying37 Tryz.sizeOf9 (by rw [← ha193]; kernel_rfl) (by kernel_rfl) h189) ?_)
    refine sq (o_pv (.string (lget l s87)) rfl (x_load1 (by kernel_rfl) Tryz.isAgg9 (hc197 0 _ rfl)) ?_)
    refine sq (o_pv (.string (lget l s87)) rfl (by kernel_rfl) ?_)
    refine nil_ ?_
    refine then_normal (K188 _ _ _ _ ?_)
    refine seq_ (fun _ K199 => ?_)
    refine reg_ ?_
    refine sq (o_pv (.pointer (some ⟨be1, 0, none⟩)) rfl (by kernel_rfl) ?_)
    refine sq (o_pv (.string (lget l s87)) rfl (by kernel_rfl) ?_)
    refine sq (o_pv (.int .i64 ((lget l s87).size : Int)) rfl (by kernel_rfl) ?_)
    refine sq (o_rowX (R := (rInt .i64)) [(.int .i64 ((lget l s87).size : Int))] [((lget l s87).size : Int)] 3 1 (X := X174) (B := w.heap.size) E179.size rfl (by kernel_rfl) (Flat.cons (cs := [(.int .i64 ((lget l s87).size : Int))]) (rInt_mk (inR_size ze198)) Flat.nil) rfl (by decide) ?_)
    intro b200 w201 X202 s203 O204 n205
    have p206 := n205 _ (MO.old m91)
    have hS207 := (Sub.trans hS181 (Step.up s203))
    have E213 := (Evo.then0 E179 (Step.evo s203))
    have hXo214 := (Old.step hXo180 s203)
    have hN215 := (News.step hN182 s203)
    have hl216 := (Sl.step hl183 s203)
    have m217 := (MO.step0 m91 s203)
    have ax212 := OS.apold O204 hX0
    obtain ⟨X208, u209, r210, hm211⟩ := OS.release O204
    have E218 := E213
    have hXo219 := (Old.less hXo214 u209)
    have hS220 := (hm211 _ ax212 hS207)
    have hN221 := (News.less hN215 u209)
    have hl222 := (Sl.less hl216 u209)
    have m223 := (MO.less m217 u209 (hm211 _ p206 (MO.mem m217)))
    refine sq (o_call 130 #[(.pointer (some ⟨be1, 0, none⟩)), (.slice (some ⟨b200, 0, none⟩) ([((lget l s87).size : Int)]).length 1)] rfl (x_call Tryz.call130 (by rw [← show 1 = ([((lget l s87).size : Int)]).length from O204.1]; kernel_rfl)) (codec_Enc_Int_w (X := X208) (e := o89) (l := [((lget l s87).size : Int)]) hXo219 (MO.re m223 (Wr.self _ _ (Sub.refl _))) r210 hp) ?_)
    rintro _ w225 ⟨e224, hp, X226, F228, s227, rfl, m229⟩
    have m230 := MO.re m229 (Wr.trans m229.wr m223.wr E218.size)
    refine nil_ ?_
    refine then_normal (K199 _ _ _ _ ?_)
    refine reg_ ?_
    refine sq (o_pv (.pointer (some ⟨be1, 0, none⟩)) rfl (by kernel_rfl) ?_)
    refine sq (o_pv (.pointer (some ⟨be1, 0, none⟩)) rfl (by kernel_rfl) ?_)
    refine sq (o_pv (.pointer (some ⟨be1, 0, none⟩)) rfl (by kernel_rfl) ?_)
    obtain ⟨ao231, no232, co233, k235, Oo234, sb236, sb237, p238⟩ := o_codec_Enc_open m230
    replace hp := hp (OS.len Oo234)
    refine sq (o_pv (.pointer (some ⟨be1, 0, none⟩)) rfl (by kernel_rfl) ?_)
    refine sq (o_pv (.slice ao231 no232 co233) rfl (x_load1 (by kernel_rfl) Tryz.isAgg44 (k235.2.1.cell' 0 rfl)) ?_)
    refine sq (o_pv (.string (lget l s87)) rfl (by kernel_rfl) ?_)
    obtain ⟨h239, hp⟩ := hp
    have E240 := (Evo.thenW E218 (Step.evo s227) m223.wr)
    refine sq (o_appS (X := X226) (B := w.heap.size) (L := e224.b) (sv := (lget l s87)) rfl Tryz.underlying44 Tryz.underlying9 (by kernel_rfl) E240.size Oo234 (by kernel_rfl) (by kernel_rfl) h239 ?_)
    intro a241 n242 c243 w244 X245 s246 O247 gr248
    have p249 := gr248 _ p238 (OB.old k235)
    refine sq (o_pv (.pointer (some ⟨be1, 0, none⟩)) rfl (by kernel_rfl) ?_)
    refine sq (o_pv (.pointer (some ⟨be1, 0, none⟩)) rfl (by kernel_rfl) ?_)
    have k250 := (OB.step k235 s246 p238)
    have E251 := (Evo.thenW E240 (Step.evo s246) Oo234.2.2)
    refine sq (o_stB (o := 0) (v := (.slice a241 n242 c243)) [(.slice a241 n242 c243)] rfl k250 (by kernel_rfl) (by kernel_rfl) Tryz.sizeOf44 rfl rfl rfl ?_)
    intro w252 s253 k254
    refine nil_ ?_
    refine blk_normal ?_
    refine then_normal (K187 _ _ _ _ ?_)
    refine reg_ ?_
    obtain ⟨h255, hp⟩ := hp
    refine sq (o_pv (.int .i64 (s87 + (1 : Int))) rfl (x_add2 (k := .i64) (a := s87) (b := (1 : Int)) (s87 + (1 : Int)) (by kernel_rfl) (by kernel_rfl) (wrap_inR h255)) ?_)
    refine sq (o_pv (.int .i64 (s87 + (1 : Int))) rfl (by kernel_rfl) ?_)
    refine nil_ ?_
    have E256 := (Evo.thenW E251 (Step.evo s253) k250.2.2)
    have hXo257 := (Old.step (Old.step (Old.step hXo219 s227) s246) s253)
    have hS258 := (Sub.trans (Sub.trans (Sub.trans hS220 (Step.up s227)) (Step.up s246)) (Step.up s253))
    have hN259 := (News.step (News.step (News.step hN221 s227) s246) s253)
    have hl260 := (Sl.step (Sl.step (Sl.step hl222 s227) s246) s253)
    have r261 := (Sl.step (Sl.step (Sl.step r210 s227) s246) s253)
    have O262 := (OS.step O247 s253 (Ap.symm p249))
    obtain ⟨F263, m264, hs265⟩ := MO.pack (o_codec_Enc_mk k254 O262 p249)
    refine then_normal (hA178 _ _ _ ⟨_, [(8, (.int .i64 (s87 + (1 : Int))))], hp.2, fit_mk (AgB.mix _ _ _) (by kernel_rfl) (vs_cons (by kernel_rfl) vs_nil), ?_⟩)
    exact ⟨X245, (s87 + (1 : Int)), (S_codec_Enc.mk (e224.b ++ bytesL (lget l s87))), F263, rfl, rfl, E256, hXo257, hS258, hN259, hl260, m264, h255, hp.1⟩
  ·
    replace hp := hp.2 h186
    refine wp_exit ?_
    refine then_exit ?_
    refine then_exit ?_
    refine blk_exit ?_
    refine end_normal hQ (.tuple #[]) (by kernel_rfl) ?_
    exact ⟨o89, hp, X174, F90, step_of E179 hF0 hS181 hN182, rfl, m91⟩

end Go.Proofs.YtdnahdcjnahfkaaGreatDoor
namespace Go.Proofs.YtdnahdcjnahfkaaGreatDoor
open Go
def encI (n : Int) : List Int := vb (zz n)
def encT (s : ByteArray) : List Int := encI (s.size : Int) ++ bytesL s
def encIs (l : List Int) : List Int := l.flatMap encI
theorem encI_len {n : Int} (h : inR .i64 n) : (encI n).length ≤ 10 := vb_ten (zz_lt h)
theorem encI_pos (n : Int) : 0 < (encI n).length := vb_pos _
theorem flat_take {α β : Type} [Inhabited α] (g : α → List β) {l : List α} {k : Nat} (h : k < l.length) : (l.take (k + 1)).flatMap g = (l.take k).flatMap g ++ g (lget l (k : Int)) := by
  rw [take_lget h, List.flatMap_append]; simp
theorem flat_cut {α β : Type} [Inhabited α] (g : α → List β) {l : List α} {k : Nat} (h : k < l.length) : l.flatMap g = (l.take k).flatMap g ++ (g (lget l (k : Int)) ++ (l.drop (k + 1)).flatMap g) := by
  rw [← List.append_assoc, ← flat_take g h, ← List.flatMap_append, List.take_append_drop]
theorem EncInt_p {e : S_codec_Enc} {l : List Int} {Q : S_codec_Enc → Prop} (hb : e.b.length + 10 * l.length ≤ 1000000000000) (h : Q ⟨e.b ++ encIs l⟩) : codec_Enc_Int_p e l Q := by
  unfold codec_Enc_Int_p; simp only [inR_i64]; intro _
  refine ⟨fun s o => ∃ k : Nat, s = k ∧ k ≤ l.length ∧ o.b = e.b ++ encIs (l.take k) ∧ o.b.length ≤ e.b.length + 10 * k, fun s _ => l.length - s.toNat, ⟨0, rfl, Nat.zero_le _, by simp [encIs], by omega⟩, ?_⟩
  rintro _ o ⟨k, rfl, hk, ho, hl⟩ _
  refine ⟨fun hlt => ?_, fun hge => ?_⟩
  · have hkl : k < l.length := by omega
    refine ⟨inL_nat.2 hkl, fun hr => ?_⟩
    rw [← inR_i64] at hr
    rintro _ rfl
    rw [enc_zz hr]
    have hlen := encI_len hr
    refine ⟨fun v o2 => ∃ u : Nat, v = u ∧ u < 18446744073709551616 ∧ o2.b ++ vb u = e.b ++ encIs (l.take (k + 1)) ∧ o2.b.length + (vb u).length ≤ e.b.length + 10 * (k + 1), fun v _ => v.toNat, ⟨zz (lget l (k : Int)), rfl, zz_lt hr, ?_, ?_⟩, ?_⟩
    · rw [ho]; unfold encIs; rw [flat_take encI hkl, List.append_assoc]; rfl
    · show o.b.length + (encI _).length ≤ _; omega
    rintro _ o2 ⟨u, rfl, hu, he, hl2⟩ _
    refine ⟨fun hge => ?_, fun hnl => ?_⟩
    · have hn : ¬ u < 128 := by omega
      rw [vb_ge hn] at he hl2
      rw [ior128 hu, shr7]
      refine fun _ => ⟨by simp at hl2 ⊢; omega, ⟨u / 128, rfl, by omega, by simpa using he, by simp at hl2 ⊢; omega⟩, by dsimp only; omega⟩
    · have hn : u < 128 := by omega
      rw [vb_lt hn] at he hl2
      rw [iwrap8 hn]
      refine fun _ => ⟨by simp at hl2 ⊢; omega, ⟨by omega, by omega⟩, ⟨k + 1, rfl, hkl, he, by simp at hl2 ⊢; omega⟩, by dsimp only; omega⟩
  · have : k = l.length := by omega
    subst this
    rw [List.take_length] at ho
    have : o = ⟨e.b ++ encIs l⟩ := by cases o; simp at ho; rw [ho]
    rw [this]; exact h
theorem EncText_p {e : S_codec_Enc} {s : ByteArray} {Q : S_codec_Enc → Prop} (hb : e.b.length + 10 + s.size ≤ 1000000000000) (h : Q ⟨e.b ++ encT s⟩) : codec_Enc_Text_p e [s] Q := by
  unfold codec_Enc_Text_p; simp only [inR_i64]; intro _
  have hr : inR .i64 (s.size : Int) := inR_i64.2 ⟨by omega, by omega⟩
  have hlen := encI_len hr
  refine ⟨fun k o => (k = 0 ∧ o = e) ∨ (k = 1 ∧ o = ⟨e.b ++ encT s⟩), fun k _ => 1 - k.toNat, .inl ⟨rfl, rfl⟩, ?_⟩
  rintro _ _ (⟨rfl, rfl⟩ | ⟨rfl, rfl⟩) _
  · refine ⟨fun _ => ⟨⟨Int.le_refl _, by simp⟩, fun _ => ?_⟩, fun hn => absurd (by simp) hn⟩
    rw [lget_zero]
    refine EncInt_p (by simp; omega) (fun _ => ⟨?_, by decide, .inr ⟨rfl, ?_⟩, by dsimp only; omega⟩)
    · simp [encIs]; omega
    · unfold encT; simp [encIs]
  · exact ⟨fun hl => absurd hl (by simp), fun _ => h⟩
theorem strOfNums_bytesL (s : ByteArray) : strOfNums (bytesL s) = s := by
  unfold strOfNums bytesL
  rw [List.map_map]
  have : (fun n : Int => UInt8.ofNat n.toNat) ∘ (fun b : UInt8 => (b.toNat : Int)) = id := by funext b; simp
  rw [this, List.map_id]
theorem DecUint_p {d : S_codec_Dec} {Q : S_codec_Dec → Int → Int → Prop} {pre post : List Int} {u : Nat} (hu : u < 18446744073709551616) (hb : d.b = pre ++ (vb u ++ post)) (hat : d.at_ = (pre.length : Int)) (hlen : d.b.length ≤ 1000000000000)
    (h : Q ⟨d.b, ((pre.length + (vb u).length : Nat) : Int), d.err⟩ (u : Int) 0) : codec_Dec_uint_p d Q := by
  unfold codec_Dec_uint_p; simp only [inR_i64]
  refine ⟨fun _ => False, fun _ hf => hf.elim, ?_⟩
  refine ⟨fun v s o => o = d ∧ ∃ k : Nat, s = k ∧ v = ((u % 128 ^ k : Nat) : Int) ∧ d.b.drop (pre.length + k) = vb (u / 128 ^ k) ++ post ∧ (k = 0 ∨ u / 128 ^ k ≠ 0) ∧ k + (vb (u / 128 ^ k)).length = (vb u).length, fun _ s _ => 10 - s.toNat,
    ⟨rfl, 0, rfl, by simp [Nat.mod_one], by rw [hb]; simp, .inl rfl, by simp⟩, ?_⟩
  rintro _ _ o ⟨ho, k, rfl, rfl, hd, hw, hkl⟩ hv _
  obtain rfl := ho.symm
  have hten := vb_ten hu
  have hp2 := vb_pos (u / 128 ^ k)
  have hk10 : k < 10 := by omega
  refine ⟨fun _ => ?_, fun hn => absurd (by omega) hn⟩
  intro _ _
  rw [hat]
  have hlen2 : pre.length + k < d.b.length := by
    have := congrArg List.length hd
    rw [List.length_drop, List.length_append] at this; omega
  have hin : inL d.b ((pre.length : Int) + k) := by unfold inL; omega
  have hget : lget d.b ((pre.length : Int) + k) = lget (vb (u / 128 ^ k) ++ post) 0 := by
    rw [← hd, show ((pre.length : Int) + k) = ((pre.length + k : Nat) : Int) from by omega, lget_nat, show (0 : Int) = ((0 : Nat) : Int) from rfl, lget_nat]
    simp [List.getD]
  generalize hwd : u / 128 ^ k = x at *
  have hxu : x * 128 ^ k + u % 128 ^ k = u := by rw [← hwd, Nat.mul_comm]; exact Nat.div_add_mod u (128 ^ k)
  have hpk : 128 ^ k = 2 ^ (7 * k) := by rw [Nat.pow_mul]
  have hlow : u % 128 ^ k < 2 ^ (7 * k) := by rw [← hpk]; exact Nat.mod_lt _ (Nat.pow_pos (by decide))
  have hc : ∃ c : Nat, lget d.b ((pre.length : Int) + k) = (c : Int) ∧ c < 256 ∧ ((x < 128 ∧ c = x) ∨ (¬ x < 128 ∧ c = x % 128 + 128)) := by
    rw [hget]
    by_cases hx : x < 128
    · rw [vb_lt hx]; exact ⟨x, rfl, by omega, .inl ⟨hx, rfl⟩⟩
    · rw [vb_ge hx]; exact ⟨x % 128 + 128, rfl, by omega, .inr ⟨hx, rfl⟩⟩
  obtain ⟨c, hcg, hc256, hcx⟩ := hc
  rw [hcg]
  have h9 : k = 9 → c ≤ 1 := by
    intro h9
    have : x < 2 := by rw [← hwd, h9, Nat.div_lt_iff_lt_mul (by decide)]; exact Nat.lt_of_lt_of_le hu (by decide)
    rcases hcx with ⟨_, rfl⟩ | ⟨hn, _⟩ <;> omega
  have h0 : 0 < k → c ≠ 0 := by
    intro hk0
    rcases hcx with ⟨_, rfl⟩ | ⟨hn, rfl⟩
    · rcases hw with hw | hw
      · omega
      · exact hw
    · omega
  have hy : ishl .u64 (iand .u8 (c : Int) (127 : Int)) ((7 : Int) * (k : Int)) = ((c % 128 * 2 ^ (7 * k) : Nat) : Int) ∧ u % 128 ^ k + c % 128 * 2 ^ (7 * k) < 18446744073709551616 := by
    have h1 : iand .u8 (c : Int) (127 : Int) = ((c % 128 : Nat) : Int) := by rw [← and127]; exact iand_u8 hc256 (by decide)
    have hle : u % 128 ^ k + c % 128 * 2 ^ (7 * k) ≤ u := by
      rw [← hpk]
      have : c % 128 ≤ x := by rcases hcx with ⟨_, rfl⟩ | ⟨hn, rfl⟩ <;> omega
      have := Nat.mul_le_mul_right (128 ^ k) this
      omega
    refine ⟨?_, by omega⟩
    rw [h1, show (7 : Int) * (k : Int) = ((7 * k : Nat) : Int) from by omega, ishl_u64 _ _ (by omega), Nat.mod_eq_of_lt (by omega)]
  have hor : ior .u64 ((u % 128 ^ k : Nat) : Int) ((c % 128 * 2 ^ (7 * k) : Nat) : Int) = ((u % 128 ^ k + c % 128 * 2 ^ (7 * k) : Nat) : Int) := by
    rw [ior_u64 (by omega) (by omega), or_disj hlow]
  refine ⟨⟨by omega, by omega⟩, fun hbad => absurd hbad (by omega), fun _ => ⟨⟨by omega, by omega⟩, hin, fun _ => ?_⟩⟩
  have hkf : ∀ (K : Bool → Prop), K false → (((k : Int) = (9 : Int)) → ((((c : Int) > (1 : Int)) → (K true)) ∧ ((¬ ((c : Int) > (1 : Int))) → ((((k : Int) > (0 : Int)) → (K (decide ((c : Int) = (0 : Int))))) ∧ ((¬ ((k : Int) > (0 : Int))) → (K false)))))) ∧ ((¬ ((k : Int) = (9 : Int))) → ((((k : Int) > (0 : Int)) → (K (decide ((c : Int) = (0 : Int))))) ∧ ((¬ ((k : Int) > (0 : Int))) → (K false)))) := by
    intro K hK
    have hz : ((k : Int) > 0) → decide ((c : Int) = 0) = false := fun hk => decide_eq_false (by have := h0 (by omega); omega)
    exact ⟨fun h => ⟨fun hg => absurd hg (by have := h9 (by omega); omega), fun _ => ⟨fun hk => by rw [hz hk]; exact hK, fun _ => hK⟩⟩, fun _ => ⟨fun hk => by rw [hz hk]; exact hK, fun _ => hK⟩⟩
  refine ⟨fun b => b = false, ?_, hkf (fun b => b = false) rfl⟩
  rintro _ rfl
  refine ⟨fun hb => (by cases hb), fun _ => ⟨⟨by omega, by omega⟩, by omega, ?_⟩⟩
  rintro _ rfl
  rw [hy.1, hor]
  refine ⟨fun hlt => ⟨⟨by omega, by omega⟩, ⟨by omega, by omega⟩, ?_⟩, fun hge => ⟨⟨by omega, by omega⟩, ⟨rfl, k + 1, rfl, ?_, ?_, ?_, ?_⟩, by dsimp only; omega⟩⟩
  · rcases hcx with ⟨hx, rfl⟩ | ⟨hn, rfl⟩
    · have e1 : u % 128 ^ k + c % 128 * 2 ^ (7 * k) = u := by rw [← hpk, Nat.mod_eq_of_lt hx]; omega
      rw [vb_lt hx] at hkl
      rw [e1, show (pre.length : Int) + ((k : Int) + 1) = ((pre.length + (vb u).length : Nat) : Int) from by rw [← hkl]; simp]
      exact h
    · omega
  · rcases hcx with ⟨hx, rfl⟩ | ⟨hn, rfl⟩
    · omega
    · have : u % 128 ^ (k + 1) = u % 128 ^ k + 128 ^ k * (u / 128 ^ k % 128) := by rw [Nat.pow_succ, Nat.mod_mul]
      rw [this, hwd, ← hpk, show (x % 128 + 128) % 128 = x % 128 from by omega, Nat.mul_comm]
  · rcases hcx with ⟨hx, rfl⟩ | ⟨hn, rfl⟩
    · omega
    · rw [vb_ge hn] at hd
      have : d.b.drop (pre.length + (k + 1)) = (d.b.drop (pre.length + k)).drop 1 := by rw [List.drop_drop]; congr 1
      rw [this, hd, Nat.pow_succ, ← Nat.div_div_eq_div_mul, hwd]; rfl
  · rcases hcx with ⟨hx, rfl⟩ | ⟨hn, rfl⟩
    · omega
    · right; rw [Nat.pow_succ, ← Nat.div_div_eq_div_mul, hwd]; omega
  · rcases hcx with ⟨hx, rfl⟩ | ⟨hn, rfl⟩
    · omega
    · rw [vb_ge hn] at hkl
      rw [Nat.pow_succ, ← Nat.div_div_eq_div_mul, hwd]; simp at hkl; omega
theorem DecInt_p {d : S_codec_Dec} {Q : S_codec_Dec → Int → Prop} {pre post : List Int} {n : Int} (hn : inR .i64 n) (hb : d.b = pre ++ (encI n ++ post)) (hat : d.at_ = (pre.length : Int)) (he : d.err = .nil) (hlen : d.b.length ≤ 1000000000000)
    (h : Q ⟨d.b, ((pre.length + (encI n).length : Nat) : Int), .nil⟩ n) : codec_Dec_Int_p d Q := by
  unfold codec_Dec_Int_p; simp only [inR_i64]; intro _ _
  refine ⟨fun hx => (by rw [he] at hx; cases hx), fun _ => DecUint_p (zz_lt hn) hb hat hlen (fun _ _ => ⟨fun hx => absurd rfl hx, fun _ => ?_⟩)⟩
  have hz := zz_lt hn
  have h1 : iand .u64 ((zz n : Nat) : Int) (1 : Int) = ((zz n % 2 : Nat) : Int) := by rw [← and1]; exact iand_u64 hz (by decide)
  have h4 : iwrap .i64 ((zz n % 2 : Nat) : Int) = ((zz n % 2 : Nat) : Int) := by unfold iwrap; rw [IntKind.wrap_i64]; omega
  refine ⟨by rw [h1, h4]; omega, ?_⟩
  rintro _ rfl
  rw [dec_uz hz, uz_zz, he]
  exact h
theorem DecText_p {d : S_codec_Dec} {Q : S_codec_Dec → ByteArray → Prop} {pre post : List Int} {s : ByteArray} (hb : d.b = pre ++ (encT s ++ post)) (hat : d.at_ = (pre.length : Int)) (he : d.err = .nil) (hlen : d.b.length ≤ 1000000000000)
    (h : Q ⟨d.b, ((pre.length + (encT s).length : Nat) : Int), .nil⟩ s) : codec_Dec_Text_p d Q := by
  unfold codec_Dec_Text_p; simp only [inR_i64]; intro _ _
  have hb2 : d.b = pre ++ (encI (s.size : Int) ++ (bytesL s ++ post)) := by rw [hb]; unfold encT; simp
  have hl : d.b.length = pre.length + ((encI (s.size : Int)).length + (s.size + post.length)) := by rw [hb2]; simp [bytesL_len]
  have hr : inR .i64 (s.size : Int) := inR_i64.2 ⟨by omega, by omega⟩
  refine DecInt_p hr hb2 hat he hlen (fun _ _ _ => ⟨fun hx => (by cases hx), fun _ => ⟨fun hx => absurd hx (by omega), fun _ => ?_⟩⟩)
  refine ⟨by dsimp only; omega, fun hx => absurd hx (by dsimp only; omega), fun _ => ⟨by dsimp only; omega, by dsimp only; omega, by dsimp only; omega, ?_⟩⟩
  have e1 : (d.b.take ((((pre.length + (encI (s.size : Int)).length : Nat) : Int) + (s.size : Int))).toNat).drop (((pre.length + (encI (s.size : Int)).length : Nat) : Int)).toNat = bytesL s := by
    rw [hb2, ← List.append_assoc, Int.toNat_natCast]
    rw [show ((((pre.length + (encI (s.size : Int)).length : Nat) : Int) + (s.size : Int))).toNat = (pre ++ encI (s.size : Int)).length + s.size from by simp; omega, show pre.length + (encI (s.size : Int)).length = (pre ++ encI (s.size : Int)).length from by simp]
    rw [List.take_length_add_append, List.drop_left, ← bytesL_len, List.take_left]
  rw [e1, strOfNums_bytesL]
  rw [show (((pre.length + (encI (s.size : Int)).length : Nat) : Int) + (s.size : Int)) = ((pre.length + (encT s).length : Nat) : Int) from by unfold encT; simp [bytesL_len]; omega]
  exact h
/-- A number that is cut: too short, at its place. -/
theorem DecCut_p {d : S_codec_Dec} {Q : S_codec_Dec → Int → Int → Prop} {pre : List Int} {u c : Nat} (hu : u < 18446744073709551616) (hb : d.b = pre ++ (vb u).take c) (hc : c < (vb u).length) (hat : d.at_ = (pre.length : Int)) (hlen : pre.length ≤ 1000000000000)
    (h : Q d 0 3) : codec_Dec_uint_p d Q := by
  have hten := vb_ten hu
  have hl : d.b.length = pre.length + c := by rw [hb, List.length_append, List.length_take]; omega
  unfold codec_Dec_uint_p; simp only [inR_i64]
  refine ⟨fun _ => False, fun _ hf => hf.elim, ?_⟩
  refine ⟨fun _ s o => o = d ∧ ∃ k : Nat, s = k ∧ k ≤ c ∧ d.b.drop (pre.length + k) = (vb (u / 128 ^ k)).take (c - k) ∧ c - k < (vb (u / 128 ^ k)).length, fun _ s _ => 10 - s.toNat,
    ⟨rfl, 0, rfl, Nat.zero_le _, by rw [hb]; simp, by simpa using hc⟩, ?_⟩
  rintro _ _ o ⟨ho, k, rfl, hkc, hd, hk2⟩ hv _
  obtain rfl := ho.symm
  refine ⟨fun _ => ?_, fun hn => absurd (by omega) hn⟩
  intro _ _
  rw [hat]
  refine ⟨⟨by omega, by omega⟩, fun _ => h, fun hbad => ?_⟩
  have hk : k < c := by omega
  have hx : ¬ u / 128 ^ k < 128 := fun hx => by rw [vb_lt hx] at hk2; simp at hk2; omega
  have hin : inL d.b ((pre.length : Int) + k) := by unfold inL; omega
  have hget : lget d.b ((pre.length : Int) + k) = ((u / 128 ^ k % 128 + 128 : Nat) : Int) := by
    have e : lget d.b ((pre.length : Int) + k) = lget ((vb (u / 128 ^ k)).take (c - k)) 0 := by
      rw [← hd, show ((pre.length : Int) + k) = ((pre.length + k : Nat) : Int) from by omega, lget_nat, show (0 : Int) = ((0 : Nat) : Int) from rfl, lget_nat]
      simp [List.getD]
    obtain ⟨m, hm⟩ : ∃ m, c - k = m + 1 := ⟨c - k - 1, by omega⟩
    rw [e, vb_ge hx, hm]; rfl
  rw [hget]
  refine ⟨⟨by omega, by omega⟩, hin, fun _ => ⟨fun b => b = false, ?_, ?_⟩⟩
  · rintro _ rfl
    refine ⟨fun hb => (by cases hb), fun _ => ⟨⟨by omega, by omega⟩, by omega, ?_⟩⟩
    rintro _ rfl
    refine ⟨fun hlt => absurd hlt (by omega), fun hge => ⟨⟨by omega, by omega⟩, ⟨rfl, k + 1, rfl, hk, ?_, ?_⟩, by dsimp only; omega⟩⟩
    · have e1 : d.b.drop (pre.length + (k + 1)) = (d.b.drop (pre.length + k)).drop 1 := by rw [List.drop_drop]; congr 1
      obtain ⟨m, hm⟩ : ∃ m, c - k = m + 1 := ⟨c - k - 1, by omega⟩
      rw [e1, hd, Nat.pow_succ, ← Nat.div_div_eq_div_mul, vb_ge hx, hm, show c - (k + 1) = m from by omega]; rfl
    · rw [vb_ge hx, List.length_cons] at hk2
      rw [Nat.pow_succ, ← Nat.div_div_eq_div_mul]; omega
  · have hz : decide (((u / 128 ^ k % 128 + 128 : Nat) : Int) = 0) = false := decide_eq_false (by omega)
    exact ⟨fun h9 => absurd h9 (by omega), fun _ => ⟨fun _ => (by show decide _ = false; exact hz), fun _ => rfl⟩⟩
theorem DecIntCut_p {d : S_codec_Dec} {Q : S_codec_Dec → Int → Prop} {pre : List Int} {n : Int} {c : Nat} (hn : inR .i64 n) (hb : d.b = pre ++ (encI n).take c) (hc : c < (encI n).length) (hat : d.at_ = (pre.length : Int)) (he : d.err = .nil) (hlen : pre.length ≤ 1000000000000)
    (h : Q ⟨d.b, (pre.length : Int), .fault (ByteArray.mk #[98, 121, 116, 101]) (pre.length : Int) 3⟩ 0) : codec_Dec_Int_p d Q := by
  unfold codec_Dec_Int_p; simp only [inR_i64]; intro _ _
  refine ⟨fun hx => (by rw [he] at hx; cases hx), fun _ => DecCut_p (zz_lt hn) hb hc hat hlen (fun _ _ => ⟨fun _ => ?_, fun hx => absurd hx (by decide)⟩)⟩
  unfold codec_Dec_fail_p; intro _ _ _ _
  rw [hat]; exact h
end Go.Proofs.YtdnahdcjnahfkaaGreatDoor
