/- Walks of functions: what each asks and computes, as a plain predicate, and the contract from it. -/
import Derived.Test.YtaolmfepdmgohaaDoorChecked
import Derived.Test.YtaolmfepdmgohaaDoorFi1
namespace Go.Proofs.YtaolmfepdmgohaaDoor
open Go

theorem elT28 : ElemT Tryd.prog 28 5 1 1 := elemT_mk (i := Tryd.t5) (z := (.int .u8 0)) (by kernel_rfl) (by kernel_rfl) (by kernel_rfl) (by kernel_rfl) Tryd.underlying28 Tryd.sizeOf5 (by decide) (by decide)
theorem elT34 : ElemT Tryd.prog 34 4 1 1 := elemT_mk (i := Tryd.t4) (z := (.bool false)) (by kernel_rfl) (by kernel_rfl) (by kernel_rfl) (by kernel_rfl) Tryd.underlying34 Tryd.sizeOf4 (by decide) (by decide)
def simfs_FS_may_p (f_ : S_simfs_FS) (p : ByteArray) (mode : Int) (b : (List Int)) (Q : S_simfs_FS → Int → Prop) : Prop :=
  ((p.size ≤ maxLen) → ((inR .i64 mode) → ((b.length ≤ 9223372036854775807) → ((f_.pending.length ≤ 9223372036854775807) → ((inR .i64 f_.quota) → ((inR .i64 f_.now) → ((inR .i64 f_.inodes) → ((inR .i64 f_.ops_) → ((inR .i64 f_.left) → ((f_.keep.length ≤ 9223372036854775807) → (((f_.off = true) → Q f_ (13 : Int)) ∧ ((f_.off = false) → (path_Check_p p (fun (r46 : Int) => ((inR .i64 r46) → (((¬ (r46 = (0 : Int))) → Q f_ r46) ∧ ((r46 = (0 : Int)) → ((((b.length : Int) > (65536 : Int)) → Q f_ (4 : Int)) ∧ ((¬ ((b.length : Int) > (65536 : Int))) → ((((¬ (mode = (1 : Int))) ∧ (¬ (mode = (2 : Int)))) → Q f_ (1 : Int)) ∧ ((¬ ((¬ (mode = (1 : Int))) ∧ (¬ (mode = (2 : Int))))) → (simfs_clash_p f_.files p (ByteArray.mk #[]) (fun (r109 : Bool) => (((r109 = true) → Q f_ (11 : Int)) ∧ ((r109 = false) → (simfs_FS_room_p f_ p (b.length : Int) (fun (f_142 : S_simfs_FS) (r143 : Bool) => ((((!r143) = true) → Q f_142 (14 : Int)) ∧ (((!r143) = false) → Q f_142 (0 : Int))))))))))))))))))))))))))))))
set_option maxRecDepth 20000 in
set_option maxHeartbeats 4000000 in
theorem simfs_FS_may_w {X : List Nat} {w : World} {f_ : S_simfs_FS} {p : ByteArray} {mode : Int} {b : (List Int)} {bf_1 : Nat} {Ff_2 : List Nat} {ab6 : Option Addr} {cb7 : Nat} {Q : S_simfs_FS → Int → Prop} (hX0 : Old X w) (mf_3 : MO o_simfs_FS 50 Ff_2 w.heap.size X w Ff_2 bf_1 f_) (zp4 : p.size ≤ maxLen) (rmode5 : inR .i64 mode) (hb8 : Sl (rInt .u8) X w ab6 cb7 b) (hp : simfs_FS_may_p f_ p mode b Q) :
    Calls Tryd.prog 24 #[(.pointer (some ⟨bf_1, 0, none⟩)), (.string p), (.int .i64 mode), (.slice ab6 b.length cb7)] w (Ret fun v w' => ∃ (m0 : S_simfs_FS) (r0 : Int), Q m0 r0 ∧ ∃ (X' : List Nat) (Fm0 : List Nat), Step X w Ff_2 X' w' ∧ v = (.int .i64 r0) ∧ MO o_simfs_FS 50 Ff_2 w.heap.size X' w' Fm0 bf_1 m0 ∧ inR .i64 r0) := by
  have hXo := hX0
  have E0 : Evo Ff_2 w w := RB.refl _ _ _
  have hS : Sub X X := Sub.refl _
  have hN : News X w X w := News.refl _ _
  have hF0 : Sub Ff_2 X := MO.mem mf_3
  unfold simfs_FS_may_p at hp
  refine enter_ Tryd.func24 rfl 44 [(0, (.pointer (some ⟨bf_1, 0, none⟩))), (1, (.string p)), (2, (.int .i64 mode)), (3, (.slice ab6 b.length cb7))] (by kernel_rfl) (fun Qe hQ => ?_)
  replace hp := hp zp4
  replace hp := hp rmode5
  replace hp := hp (Sl.len hb8)
  refine seq_ (fun _ K9 => ?_)
  refine reg_ ?_
  refine sq (o_pv (.int .i64 (0 : Int)) rfl (by kernel_rfl) ?_)
  refine nil_ ?_
  refine then_normal (K9 _ _ _ _ ?_)
  refine seq_ (fun _ K10 => ?_)
  refine seq_ (fun _ K11 => ?_)
  refine reg_ ?_
  refine sq (o_pv (.pointer (some ⟨bf_1, 0, none⟩)) rfl (by kernel_rfl) ?_)
  refine sq (o_pv (.pointer (some ⟨bf_1, 0, none⟩)) rfl (by kernel_rfl) ?_)
  obtain ⟨rokept12, rofiles14, ao16, no17, co18, aokeep25, cokeep26, k28, mokept13, mofiles15, Oo19, roquota20, ronow21, roinodes22, roops_23, roleft24, hokeep27, sb29, sb30, sb31, sb32, p33, p34, p35, p36, p37, p38⟩ := o_simfs_FS_open mf_3
  replace hp := hp (OS.len Oo19)
  replace hp := hp roquota20
  replace hp := hp ronow21
  replace hp := hp roinodes22
  replace hp := hp roops_23
  replace hp := hp roleft24
  replace hp := hp (Sl.len hokeep27)
  refine sq (o_pv (.pointer (some ⟨bf_1, 7, none⟩)) rfl (by kernel_rfl) ?_)
  refine sq (o_pv (.bool f_.off) rfl (x_load1 (by kernel_rfl) Tryd.isAgg4 (k28.2.1.cell' 7 rfl)) ?_)
  refine nil_ ?_
  refine then_normal (K11 _ _ _ _ ?_)
  refine cond_b f_.off (by kernel_rfl) (fun h39 => ?_) (fun h39 => ?_)
  ·
    replace hp := hp.1 h39
    refine seq_ (fun _ K40 => ?_)
    refine reg_ ?_
    refine sq (o_pv (.int .i64 (13 : Int)) rfl (by kernel_rfl) ?_)
    refine nil_ ?_
    refine then_normal (K40 _ _ _ _ ?_)
    refine wp_ret ?_
    refine then_ret ?_
    obtain ⟨F41, m42, hs43⟩ := MO.pack (o_simfs_FS_mk k28 mokept13 mofiles15 Oo19 roquota20 ronow21 roinodes22 roops_23 roleft24 hokeep27 rfl p33 p34 p35 p36 p37 p38)
    refine end_ret hQ (.int .i64 (13 : Int)) (by kernel_rfl) ?_
    exact ⟨f_, (13 : Int), hp, X, F41, step_of E0 hF0 hS hN, rfl, m42, (by decide : inR .i64 (13 : Int))⟩
  ·
    replace hp := hp.2 h39
    refine wp_skip ?_
    refine then_normal (K10 _ _ _ _ ?_)
    refine seq_ (fun _ K44 => ?_)
    refine seq_ (fun _ K45 => ?_)
    refine reg_ ?_
    refine sq (o_pv (.string p) rfl (by kernel_rfl) ?_)
    refine sq (o_call 37 #[(.string p)] rfl (x_call Tryd.call37 (by kernel_rfl)) (path_Check_w (X := []) (p := p) (Old.nil _) zp4 hp) ?_)
    rintro _ w47 ⟨r46, hp, e48, rfl, rr50⟩
    have s49 := Step.of0 X e48
    replace hp := hp rr50
    refine sq (o_pv (.int .i64 r46) rfl (by kernel_rfl) ?_)
    refine nil_ ?_
    refine then_normal (K45 _ _ _ _ ?_)
    refine seq_ (fun _ K51 => ?_)
    refine reg_ ?_
    refine sq (o_pv (.int .i64 r46) rfl (by kernel_rfl) ?_)
    refine sq (o_pv (.bool (!decide (r46 = (0 : Int)))) rfl (by kernel_rfl) ?_)
    refine nil_ ?_
    refine then_normal (K51 _ _ _ _ ?_)
    refine cond_nd (r46 = (0 : Int)) (by kernel_rfl) (fun h52 => ?_) (fun h52 => ?_)
    ·
      replace hp := hp.1 h52
      refine seq_ (fun _ K53 => ?_)
      refine reg_ ?_
      refine sq (o_pv (.int .i64 r46) rfl (by kernel_rfl) ?_)
      refine sq (o_pv (.int .i64 r46) rfl (by kernel_rfl) ?_)
      refine nil_ ?_
      refine then_normal (K53 _ _ _ _ ?_)
      refine wp_ret ?_
      refine then_ret ?_
      have hb54 := (Sl.step hb8 s49)
      have hXo55 := (Old.step hXo s49)
      have E56 := (Evo.then0 E0 e48)
      have hS57 := (Sub.trans hS (Step.up s49))
      have hN58 := (News.step hN s49)
      have k59 := (OB.step0 k28 s49)
      have mokept60 := (OM.step0 mokept13 s49)
      have mofiles61 := (OM.step0 mofiles15 s49)
      have Oo62 := (OS.step0 Oo19 s49)
      have hokeep63 := (Sl.step hokeep27 s49)
      obtain ⟨F64, m65, hs66⟩ := MO.pack (o_simfs_FS_mk k59 mokept60 mofiles61 Oo62 roquota20 ronow21 roinodes22 roops_23 roleft24 hokeep63 rfl p33 p34 p35 p36 p37 p38)
      refine end_ret hQ (.int .i64 r46) (by kernel_rfl) ?_
      exact ⟨f_, r46, hp, X, F64, step_of E56 hF0 hS57 hN58, rfl, m65, rr50⟩
    ·
      replace hp := hp.2 h52
      refine wp_skip ?_
      refine then_normal (K44 _ _ _ _ ?_)
      refine seq_ (fun _ K67 => ?_)
      refine wp_block ?_
      refine seq_ (fun _ K68 => ?_)
      refine reg_ ?_
      refine sq (o_pv (.slice ab6 b.length cb7) rfl (by kernel_rfl) ?_)
      refine sq (o_pv (.int .i64 (b.length : Int)) rfl (by kernel_rfl) ?_)
      refine sq (o_pv (.bool (decide ((b.length : Int) > (65536 : Int)))) rfl (by kernel_rfl) ?_)
      refine sq (o_pv (.bool (decide ((b.length : Int) > (65536 : Int)))) rfl (by kernel_rfl) ?_)
      refine nil_ ?_
      refine then_normal (K68 _ _ _ _ ?_)
      refine cond_d ((b.length : Int) > (65536 : Int)) (by kernel_rfl) (fun h69 => ?_) (fun h69 => ?_)
      ·
        replace hp := hp.1 h69
        refine seq_ (fun _ K70 => ?_)
        refine reg_ ?_
        refine sq (o_pv (.int .i64 (4 : Int)) rfl (by kernel_rfl) ?_)
        refine nil_ ?_
        refine then_normal (K70 _ _ _ _ ?_)
        refine wp_ret ?_
        refine blk_ret ?_
        refine then_ret ?_
        have hb71 := (Sl.step hb8 s49)
        have hXo72 := (Old.step hXo s49)
        have E73 := (Evo.then0 E0 e48)
        have hS74 := (Sub.trans hS (Step.up s49))
        have hN75 := (News.step hN s49)
        have k76 := (OB.step0 k28 s49)
        have mokept77 := (OM.step0 mokept13 s49)
        have mofiles78 := (OM.step0 mofiles15 s49)
        have Oo79 := (OS.step0 Oo19 s49)
        have hokeep80 := (Sl.step hokeep27 s49)
        obtain ⟨F81, m82, hs83⟩ := MO.pack (o_simfs_FS_mk k76 mokept77 mofiles78 Oo79 roquota20 ronow21 roinodes22 roops_23 roleft24 hokeep80 rfl p33 p34 p35 p36 p37 p38)
        refine end_ret hQ (.int .i64 (4 : Int)) (by kernel_rfl) ?_
        exact ⟨f_, (4 : Int), hp, X, F81, step_of E73 hF0 hS74 hN75, rfl, m82, (by decide : inR .i64 (4 : Int))⟩
      ·
        replace hp := hp.2 h69
        refine seq_ (fun _ K84 => ?_)
        refine ground_ ?_
        refine join_ 1065353216 (fun lq w88 => lq = [(23, (.bool (decide ((¬ (mode = (1 : Int))) ∧ (¬ (mode = (2 : Int)))))))] ∧ w47 = w88) (fun Kj86 hJ87 => ?_) ?_
        ·
          refine reg_ ?_
          refine sq (o_pv (.int .i64 mode) rfl (by kernel_rfl) ?_)
          by_cases h90 : mode = (1 : Int)
          ·
            refine sq (o_pv (.bool false) rfl (x_ndf (p := mode = (1 : Int)) (by kernel_rfl) h90) ?_)
            refine sq (o_pv (.bool false) rfl (by kernel_rfl) ?_)
            refine sq (o_not (by kernel_rfl) ?_)
            refine sq (o_not (by kernel_rfl) ?_)
            refine sq (o_pv (.bool false) rfl (by kernel_rfl) ?_)
            refine sq (o_pv (.bool false) rfl (by kernel_rfl) ?_)
            refine nil_ ?_
            refine then_normal (hJ87 _ _ _ ⟨[(23, (.bool (decide ((¬ (mode = (1 : Int))) ∧ (¬ (mode = (2 : Int)))))))], fit_mk (fun _ _ => rfl) (by kernel_rfl) (vs_cons (Eq.trans (b := (.bool false)) (by kernel_rfl) (dec_f (iff_false_intro (fun h => (fun h1 => h1 h90) h.1))).symm) vs_nil), rfl, rfl⟩)
          ·
            refine sq (o_pv (.bool true) rfl (x_ndt (p := mode = (1 : Int)) (by kernel_rfl) h90) ?_)
            refine sq (o_pv (.bool true) rfl (by kernel_rfl) ?_)
            refine sq (o_pv (.int .i64 mode) (by kernel_rfl) (by kernel_rfl) ?_)
            refine sq (o_pv (.bool (!decide (mode = (2 : Int)))) (by kernel_rfl) (by kernel_rfl) ?_)
            refine sq (o_pv (.bool (!decide (mode = (2 : Int)))) rfl (by kernel_rfl) ?_)
            refine sq (o_pv (.bool (!decide (mode = (2 : Int)))) rfl (by kernel_rfl) ?_)
            refine nil_ ?_
            refine then_normal (hJ87 _ _ _ ⟨[(23, (.bool (decide ((¬ (mode = (1 : Int))) ∧ (¬ (mode = (2 : Int)))))))], fit_mk (fun _ _ => rfl) (by kernel_rfl) (vs_cons (Eq.trans (b := (.bool (!decide (mode = (2 : Int))))) (by kernel_rfl) (dec_n ((and_iff_right h90).trans Iff.rfl)).symm) vs_nil), rfl, rfl⟩)
        ·
          rintro _ w88 g89 ⟨rfl, hw⟩
          subst hw
          refine then_normal (K84 _ _ _ _ ?_)
          refine cond_d ((¬ (mode = (1 : Int))) ∧ (¬ (mode = (2 : Int)))) (by kernel_rfl) (fun h91 => ?_) (fun h91 => ?_)
          ·
            replace hp := hp.1 h91
            refine seq_ (fun _ K92 => ?_)
            refine reg_ ?_
            refine sq (o_pv (.int .i64 (1 : Int)) rfl (by kernel_rfl) ?_)
            refine nil_ ?_
            refine then_normal (K92 _ _ _ _ ?_)
            refine wp_ret ?_
            refine blk_ret ?_
            refine then_ret ?_
            have hb93 := (Sl.step hb8 s49)
            have hXo94 := (Old.step hXo s49)
            have E95 := (Evo.then0 E0 e48)
            have hS96 := (Sub.trans hS (Step.up s49))
            have hN97 := (News.step hN s49)
            have k98 := (OB.step0 k28 s49)
            have mokept99 := (OM.step0 mokept13 s49)
            have mofiles100 := (OM.step0 mofiles15 s49)
            have Oo101 := (OS.step0 Oo19 s49)
            have hokeep102 := (Sl.step hokeep27 s49)
            obtain ⟨F103, m104, hs105⟩ := MO.pack (o_simfs_FS_mk k98 mokept99 mofiles100 Oo101 roquota20 ronow21 roinodes22 roops_23 roleft24 hokeep102 rfl p33 p34 p35 p36 p37 p38)
            refine end_ret hQ (.int .i64 (1 : Int)) (by kernel_rfl) ?_
            exact ⟨f_, (1 : Int), hp, X, F103, step_of E95 hF0 hS96 hN97, rfl, m104, (by decide : inR .i64 (1 : Int))⟩
          ·
            replace hp := hp.2 h91
            refine seq_ (fun _ K106 => ?_)
            refine reg_ ?_
            refine sq (o_pv (.pointer (some ⟨bf_1, 0, none⟩)) rfl (by kernel_rfl) ?_)
            refine sq (o_pv (.pointer (some ⟨bf_1, 0, none⟩)) rfl (by kernel_rfl) ?_)
            refine sq (o_pv (.pointer (some ⟨bf_1, 1, none⟩)) rfl (by kernel_rfl) ?_)
            have k107 := (OB.step0 k28 s49)
            refine sq (o_pv (.map (some rofiles14)) rfl (x_load1 (by kernel_rfl) Tryd.isAgg47 (k107.2.1.cell' 1 rfl)) ?_)
            refine sq (o_pv (.string p) rfl (by kernel_rfl) ?_)
            have mofiles108 := (OM.step0 mofiles15 s49)
            refine sq (o_call 38 #[(.map (some rofiles14)), (.string p), (.string (ByteArray.mk #[]))] rfl (x_call Tryd.call38 (by kernel_rfl)) (simfs_clash_w (X := []) (l := f_.files) (p := p) (but := (ByteArray.mk #[])) (Old.nil _) (OM.rm mofiles108) zp4 (by decide : (ByteArray.mk #[]).size ≤ maxLen) hp) ?_)
            rintro _ w110 ⟨r109, hp, e111, rfl⟩
            have s112 := Step.of0 X e111
            refine sq (o_pv (.bool r109) rfl (by kernel_rfl) ?_)
            refine nil_ ?_
            refine then_normal (K106 _ _ _ _ ?_)
            refine cond_b r109 (by kernel_rfl) (fun h113 => ?_) (fun h113 => ?_)
            ·
              replace hp := hp.1 h113
              refine seq_ (fun _ K114 => ?_)
              refine reg_ ?_
              refine sq (o_pv (.int .i64 (11 : Int)) rfl (by kernel_rfl) ?_)
              refine nil_ ?_
              refine then_normal (K114 _ _ _ _ ?_)
              refine wp_ret ?_
              refine blk_ret ?_
              refine then_ret ?_
              have hb115 := (Sl.step (Sl.step hb8 s49) s112)
              have hXo116 := (Old.step (Old.step hXo s49) s112)
              have E117 := (Evo.then0 (Evo.then0 E0 e48) e111)
              have hS118 := (Sub.trans (Sub.trans hS (Step.up s49)) (Step.up s112))
              have hN119 := (News.step (News.step hN s49) s112)
              have k120 := (OB.step0 k107 s112)
              have mokept121 := (OM.step0 (OM.step0 mokept13 s49) s112)
              have mofiles122 := (OM.step0 mofiles108 s112)
              have Oo123 := (OS.step0 (OS.step0 Oo19 s49) s112)
              have hokeep124 := (Sl.step (Sl.step hokeep27 s49) s112)
              obtain ⟨F125, m126, hs127⟩ := MO.pack (o_simfs_FS_mk k120 mokept121 mofiles122 Oo123 roquota20 ronow21 roinodes22 roops_23 roleft24 hokeep124 rfl p33 p34 p35 p36 p37 p38)
              refine end_ret hQ (.int .i64 (11 : Int)) (by kernel_rfl) ?_
              exact ⟨f_, (11 : Int), hp, X, F125, step_of E117 hF0 hS118 hN119, rfl, m126, (by decide : inR .i64 (11 : Int))⟩
            ·
              replace hp := hp.2 h113
              refine seq_ (fun _ K128 => ?_)
              refine reg_ ?_
              refine sq (o_pv (.pointer (some ⟨bf_1, 0, none⟩)) rfl (by kernel_rfl) ?_)
              refine sq (o_pv (.string p) rfl (by kernel_rfl) ?_)
              refine sq (o_pv (.slice ab6 b.length cb7) rfl (by kernel_rfl) ?_)
              refine sq (o_pv (.int .i64 (b.length : Int)) rfl (by kernel_rfl) ?_)
              have hb129 := (Sl.step (Sl.step hb8 s49) s112)
              have hXo130 := (Old.step (Old.step hXo s49) s112)
              have E131 := (Evo.then0 (Evo.then0 E0 e48) e111)
              have hS132 := (Sub.trans (Sub.trans hS (Step.up s49)) (Step.up s112))
              have hN133 := (News.step (News.step hN s49) s112)
              have k134 := (OB.step0 k107 s112)
              have mokept135 := (OM.step0 (OM.step0 mokept13 s49) s112)
              have mofiles136 := (OM.step0 mofiles108 s112)
              have Oo137 := (OS.step0 (OS.step0 Oo19 s49) s112)
              have hokeep138 := (Sl.step (Sl.step hokeep27 s49) s112)
              obtain ⟨F139, m140, hs141⟩ := MO.pack (o_simfs_FS_mk k134 mokept135 mofiles136 Oo137 roquota20 ronow21 roinodes22 roops_23 roleft24 hokeep138 rfl p33 p34 p35 p36 p37 p38)
              refine sq (o_call 40 #[(.pointer (some ⟨bf_1, 0, none⟩)), (.string p), (.int .i64 (b.length : Int))] rfl (x_call Tryd.call40 (by kernel_rfl)) (simfs_FS_room_w (X := X) (f_ := f_) (p := p) (n_ := (b.length : Int)) hXo130 (MO.re m140 (Wr.self _ _ (Sub.refl _))) zp4 (inR_len (Sl.len hb8)) hp) ?_)
              rintro _ w144 ⟨f_142, r143, hp, X145, F147, s146, rfl, m148⟩
              have m149 := MO.re m148 (Wr.trans m148.wr m140.wr E131.size)
              refine sq (o_pv (.bool (!r143)) rfl (by kernel_rfl) ?_)
              refine sq (o_pv (.bool (!r143)) rfl (by kernel_rfl) ?_)
              refine nil_ ?_
              refine then_normal (K128 _ _ _ _ ?_)
              refine cond_b (!r143) (by kernel_rfl) (fun h150 => ?_) (fun h150 => ?_)
              ·
                replace hp := hp.1 h150
                refine seq_ (fun _ K151 => ?_)
                refine reg_ ?_
                refine sq (o_pv (.int .i64 (14 : Int)) rfl (by kernel_rfl) ?_)
                refine nil_ ?_
                refine then_normal (K151 _ _ _ _ ?_)
                refine wp_ret ?_
                refine blk_ret ?_
                refine then_ret ?_
                have hb152 := (Sl.step hb129 s146)
                have hXo153 := (Old.step hXo130 s146)
                have E154 := (Evo.thenW E131 (Step.evo s146) m140.wr)
                have hS155 := (Sub.trans hS132 (Step.up s146))
                have hN156 := (News.step hN133 s146)
                have hokeep157 := (Sl.step hokeep138 s146)
                refine end_ret hQ (.int .i64 (14 : Int)) (by kernel_rfl) ?_
                exact ⟨f_142, (14 : Int), hp, X145, F147, step_of E154 hF0 hS155 hN156, rfl, m149, (by decide : inR .i64 (14 : Int))⟩
              ·
                replace hp := hp.2 h150
                refine wp_skip ?_
                refine blk_normal ?_
                refine then_normal (K67 _ _ _ _ ?_)
                refine seq_ (fun _ K158 => ?_)
                refine reg_ ?_
                refine sq (o_pv (.int .i64 (0 : Int)) rfl (by kernel_rfl) ?_)
                refine nil_ ?_
                refine then_normal (K158 _ _ _ _ ?_)
                refine wp_ret ?_
                have hb159 := (Sl.step hb129 s146)
                have hXo160 := (Old.step hXo130 s146)
                have E161 := (Evo.thenW E131 (Step.evo s146) m140.wr)
                have hS162 := (Sub.trans hS132 (Step.up s146))
                have hN163 := (News.step hN133 s146)
                have hokeep164 := (Sl.step hokeep138 s146)
                refine end_ret hQ (.int .i64 (0 : Int)) (by kernel_rfl) ?_
                exact ⟨f_142, (0 : Int), hp, X145, F147, step_of E161 hF0 hS162 hN163, rfl, m149, (by decide : inR .i64 (0 : Int))⟩

def slices_Clone_bool_bool_p (s : (List Bool)) (Q : (List Bool) → Prop) : Prop :=
  ((s.length ≤ 9223372036854775807) → ((s.length * 1 ≤ 140737488355328) ∧ Q s))
set_option maxRecDepth 20000 in
set_option maxHeartbeats 4000000 in
theorem slices_Clone_bool_bool_w {X : List Nat} {w : World} {s : (List Bool)} {as1 : Option Addr} {cs2 : Nat} {Q : (List Bool) → Prop} (hX0 : Old X w) (hs3 : Sq rBool X w as1 cs2 s) (hp : slices_Clone_bool_bool_p s Q) :
    Calls Tryd.prog 23 #[(.slice as1 s.length cs2)] w (Ret fun v w' => ∃ (r0 : (List Bool)), Q r0 ∧ Evo [] w w' ∧ ∃ (a0 : Option Addr) (c0 : Nat), v = .slice a0 r0.length c0 ∧ OS rBool [] w.heap.size (blkL a0 ++ X) w' 4 a0 r0.length c0 r0) := by
  have hXo := hX0
  have E0 : Evo [] w w := RB.refl _ _ _
  have hS : Sub X X := Sub.refl _
  unfold slices_Clone_bool_bool_p at hp
  refine enter_ Tryd.func23 rfl 8 [(0, (.slice as1 s.length cs2))] (by kernel_rfl) (fun Qe hQ => ?_)
  replace hp := hp (Sq.len hs3)
  refine seq_ (fun _ K4 => ?_)
  refine reg_ ?_
  refine sq (o_pv (.slice none 0 0) rfl (by kernel_rfl) ?_)
  refine nil_ ?_
  refine then_normal (K4 _ _ _ _ ?_)
  refine seq_ (fun _ K5 => ?_)
  refine seq_ (fun _ K6 => ?_)
  refine reg_ ?_
  refine sq (o_pv (.slice as1 s.length cs2) rfl (by kernel_rfl) ?_)
  rcases as1 with _ | ad
  ·
    obtain rfl : s = [] := hs3.2.elim (fun h => h.1) (fun ⟨b, o, xs, h, _⟩ => by cases h)
    replace hp := hp.2
    refine sq (o_pv (.bool true) rfl (by kernel_rfl) ?_)
    refine nil_ ?_
    refine then_normal (K6 _ _ _ _ ?_)
    refine cond_t (by kernel_rfl) ?_
    refine seq_ (fun _ K7 => ?_)
    refine reg_ ?_
    refine sq (o_pv (.slice none 0 0) rfl (by kernel_rfl) ?_)
    refine nil_ ?_
    refine then_normal (K7 _ _ _ _ ?_)
    refine wp_ret ?_
    refine then_ret ?_
    refine end_ret hQ (.slice none 0 0) (by kernel_rfl) ?_
    exact ⟨([] : List Bool), hp, E0, none, 0, rfl, (OS.nil _ _ _ _)⟩
  ·
    refine sq (o_pv (.bool false) rfl (by kernel_rfl) ?_)
    refine nil_ ?_
    refine then_normal (K6 _ _ _ _ ?_)
    refine cond_f (by kernel_rfl) ?_
    refine wp_skip ?_
    refine then_normal (K5 _ _ _ _ ?_)
    refine seq_ (fun _ K8 => ?_)
    refine reg_ ?_
    refine sq (o_rowX (R := rBool) [] ([] : List Bool) 4 0 (X := X) (B := w.heap.size) E0.size rfl (by kernel_rfl) Flat.nil rfl (by decide) ?_)
    intro b9 w10 X11 s12 O13 n14
    refine sq (o_pv (.slice (some ad) s.length cs2) rfl (by kernel_rfl) ?_)
    obtain ⟨h15, hp⟩ := hp
    have hs16 := (Sq.step hs3 s12)
    have E17 := (Evo.then0 E0 (Step.evo s12))
    refine sq (o_appX (R := rBool) (X := X11) (B := w.heap.size) (L := ([] : List Bool)) (M := s) rfl elT34 rfl E17.size O13 (Sq.src hs16) rfl (by kernel_rfl) (by kernel_rfl) (by simpa using h15) ?_)
    intro a18 n19 c20 w21 X22 s23 O24 gr25
    rw [List.nil_append] at O24
    refine sq (o_pv (.slice a18 n19 c20) rfl (by kernel_rfl) ?_)
    refine nil_ ?_
    refine then_normal (K8 _ _ _ _ ?_)
    refine wp_ret ?_
    have hS26 := (Sub.trans (Sub.trans hS (Step.up s12)) (Step.up s23))
    have E27 := (Evo.thenW E17 (Step.evo s23) O13.2.2)
    refine end_ret hQ (.slice a18 n19 c20) (by kernel_rfl) ?_
    exact ⟨s, hp, E27, a18, c20, (by (rw [show n19 = s.length from O24.1]); first | done | rfl), (OS.give O24 hS26)⟩

def simfs_apply_p (l : (List (ByteArray × S_simfs_file))) (o : S_simfs_op) (Q : (List (ByteArray × S_simfs_file)) → Bool → Prop) : Prop :=
  ((inR .i64 o.kind) → ((o.path.size ≤ maxLen) → ((o.to_.size ≤ maxLen) → ((inR .i64 o.file.mode) → ((inR .i64 o.file.time) → ((inR .i64 o.file.inode) → ((o.file.b.length ≤ 9223372036854775807) → ((inR .i64 ((mgetD l o.path).mode)) → ((inR .i64 ((mgetD l o.path).time)) → ((inR .i64 ((mgetD l o.path).inode)) → ((((mgetD l o.path).b).length ≤ 9223372036854775807) → (∃ k240 : (List (ByteArray × S_simfs_file)) → Prop, (∀ (m238 : (List (ByteArray × S_simfs_file))), k240 m238 → Q m238 (mhas l o.path)) ∧ (∃ k334 : (List (ByteArray × S_simfs_file)) → Prop, (∀ (s332 : (List (ByteArray × S_simfs_file))), k334 s332 → (k240 (mdel s332 o.path))) ∧ (((o.kind = (1 : Int)) → (simfs_clash_p l o.path (ByteArray.mk #[]) (fun (r356 : Bool) => (((r356 = true) → Q l false) ∧ ((r356 = false) → Q (mset l o.path o.file) true))))) ∧ ((¬ (o.kind = (1 : Int))) → (((o.kind = (2 : Int)) → (∃ k399 : Bool → Prop, (∀ (s398 : Bool), k399 s398 → (((s398 = true) → Q l false) ∧ ((s398 = false) → (k334 (mset l o.to_ (mgetD l o.path)))))) ∧ ((((mhas l o.path) = true) → (simfs_clash_p l o.to_ o.path (fun (r416 : Bool) => (k399 r416)))) ∧ ((¬ ((mhas l o.path) = true)) → (k399 true))))) ∧ ((¬ (o.kind = (2 : Int))) → (((o.kind = (3 : Int)) → (k334 l)) ∧ ((¬ (o.kind = (3 : Int))) → (k240 l))))))))))))))))))))
set_option maxRecDepth 20000 in
set_option maxHeartbeats 4000000 in
theorem simfs_apply_w {X : List Nat} {w : World} {l : (List (ByteArray × S_simfs_file))} {o : S_simfs_op} {rl1 : Nat} {aofileb9 : Option Addr} {cofileb10 : Nat} {Q : (List (ByteArray × S_simfs_file)) → Bool → Prop} (hX0 : Old X w) (ml2 : OM r_simfs_file true ([rl1]) w.heap.size X w rl1 l) (rokind3 : inR .i64 o.kind) (zopath4 : o.path.size ≤ maxLen) (zoto_5 : o.to_.size ≤ maxLen) (rofilemode6 : inR .i64 o.file.mode) (rofiletime7 : inR .i64 o.file.time) (rofileinode8 : inR .i64 o.file.inode) (hofileb11 : Sl (rInt .u8) X w aofileb9 cofileb10 o.file.b) (hp : simfs_apply_p l o Q) :
    Calls Tryd.prog 32 #[(.map (some rl1)), (.agg #[(.int .i64 o.kind), (.string o.path), (.string o.to_), (.int .i64 o.file.mode), (.int .i64 o.file.time), (.int .i64 o.file.inode), (.slice aofileb9 o.file.b.length cofileb10)])] w (Ret fun v w' => ∃ (m0 : (List (ByteArray × S_simfs_file))) (r0 : Bool), Q m0 r0 ∧ ∃ (X' : List Nat), Step X w ([rl1]) X' w' ∧ v = (.bool r0) ∧ OM r_simfs_file true ([rl1]) w.heap.size X' w' rl1 m0) := by
  have hXo := hX0
  have E0 : Evo [rl1] w w := RB.refl _ _ _
  have hS : Sub X X := Sub.refl _
  have hN : News X w X w := News.refl _ _
  have hF0 : Sub [rl1] X := OM.mem ml2
  unfold simfs_apply_p at hp
  refine enter_ Tryd.func32 rfl 49 [(0, (.map (some rl1))), (1, (.agg #[(.int .i64 o.kind), (.string o.path), (.string o.to_), (.int .i64 o.file.mode), (.int .i64 o.file.time), (.int .i64 o.file.inode), (.slice aofileb9 o.file.b.length cofileb10)]))] (by kernel_rfl) (fun Qe hQ => ?_)
  replace hp := hp rokind3
  replace hp := hp zopath4
  replace hp := hp zoto_5
  replace hp := hp rofilemode6
  replace hp := hp rofiletime7
  replace hp := hp rofileinode8
  replace hp := hp (Sl.len hofileb11)
  refine seq_ (fun _ K12 => ?_)
  refine reg_ ?_
  refine sq (o_newX [(.int .i64 o.kind), (.string o.path), (.string o.to_), (.int .i64 o.file.mode), (.int .i64 o.file.time), (.int .i64 o.file.inode), (.slice aofileb9 o.file.b.length cofileb10)] 56 (X := X) (B := w.heap.size) E0.size rfl (by kernel_rfl) ?_)
  intro b13 w14 X15 s16 k17 n18
  have p19 := n18 _ (OM.old ml2)
  refine sq (o_pv (.bool false) rfl (by kernel_rfl) ?_)
  refine nil_ ?_
  refine then_normal (K12 _ _ _ _ ?_)
  refine seq_ (fun _ K20 => ?_)
  refine reg_ ?_
  refine sq (o_pv (.map (some rl1)) rfl (by kernel_rfl) ?_)
  refine sq (o_pv (.pointer (some ⟨b13, 1, none⟩)) rfl (by kernel_rfl) ?_)
  refine sq (o_pv (.string o.path) rfl (x_load1 (by kernel_rfl) Tryd.isAgg9 (k17.2.1.cell' 1 rfl)) ?_)
  have ml21 := (OM.step0 ml2 s16)
  obtain ⟨cs22, ok23, lk24⟩ := MapAt.look ml21.2.1 o.path [(.int .i64 (0 : Int)), (.int .i64 (0 : Int)), (.int .i64 (0 : Int)), (.slice none 0 0)] (fun _ _ => (r_simfs_file_mk (by decide : inR .i64 (0 : Int)) (by decide : inR .i64 (0 : Int)) (by decide : inR .i64 (0 : Int)) (Sl.nil) rfl))
  obtain ⟨alb28, clb29, rfl, rlmode25, rltime26, rlinode27, hlb30⟩ := r_simfs_file_open ok23
  replace hp := hp rlmode25
  replace hp := hp rltime26
  replace hp := hp rlinode27
  replace hp := hp (Sl.len hlb30)
  refine sq (o_pv (.tuple #[(.agg #[(.int .i64 ((mgetD l o.path).mode)), (.int .i64 ((mgetD l o.path).time)), (.int .i64 ((mgetD l o.path).inode)), (.slice alb28 (((mgetD l o.path).b).length) clb29)]), (.bool (mhas l o.path))]) rfl (x_lookup2 (w0 := w14) (k := o.path) (v := (.agg #[(.int .i64 ((mgetD l o.path).mode)), (.int .i64 ((mgetD l o.path).time)), (.int .i64 ((mgetD l o.path).inode)), (.slice alb28 (((mgetD l o.path).b).length) clb29)])) (z := (.agg #[(.int .i64 (0 : Int)), (.int .i64 (0 : Int)), (.int .i64 (0 : Int)), (.slice none 0 0)])) (b := mhas l o.path) (s := 4) (bts := 48) (by kernel_rfl) (by kernel_rfl) lk24 rfl Tryd.underlying47 Tryd.underlying9 (by kernel_rfl)) ?_)
  refine sq (o_pv (.tuple #[(.agg #[(.int .i64 ((mgetD l o.path).mode)), (.int .i64 ((mgetD l o.path).time)), (.int .i64 ((mgetD l o.path).inode)), (.slice alb28 (((mgetD l o.path).b).length) clb29)]), (.bool (mhas l o.path))]) rfl (by kernel_rfl) ?_)
  refine sq (o_pv (.agg #[(.int .i64 ((mgetD l o.path).mode)), (.int .i64 ((mgetD l o.path).time)), (.int .i64 ((mgetD l o.path).inode)), (.slice alb28 (((mgetD l o.path).b).length) clb29)]) rfl (by kernel_rfl) ?_)
  refine sq (o_pv (.bool (mhas l o.path)) rfl (by kernel_rfl) ?_)
  have E37 := (Evo.then0 E0 (Step.evo s16))
  refine sq (o_newX [(.int .i64 (0 : Int)), (.int .i64 (0 : Int)), (.int .i64 (0 : Int)), (.slice none 0 0)] 54 (X := X15) (B := w.heap.size) E37.size rfl (by kernel_rfl) ?_)
  intro b31 w32 X33 s34 k35 n36
  have p38 := n36 _ (OM.old ml21)
  have p39 := n36 _ (OB.old k17)
  have ml40 := (OM.step0 ml21 s34)
  have k41 := (OB.step0 k17 s34)
  have E42 := (Evo.then0 E37 (Step.evo s34))
  refine sq (o_stB (o := 0) (v := (.agg #[(.int .i64 ((mgetD l o.path).mode)), (.int .i64 ((mgetD l o.path).time)), (.int .i64 ((mgetD l o.path).inode)), (.slice alb28 (((mgetD l o.path).b).length) clb29)])) [(.int .i64 ((mgetD l o.path).mode)), (.int .i64 ((mgetD l o.path).time)), (.int .i64 ((mgetD l o.path).inode)), (.slice alb28 (((mgetD l o.path).b).length) clb29)] rfl k35 (by kernel_rfl) (by kernel_rfl) Tryd.sizeOf54 rfl rfl rfl ?_)
  intro w43 s44 k45
  refine sq (o_pv (.bool (mhas l o.path)) rfl (by kernel_rfl) ?_)
  refine nil_ ?_
  refine then_normal (K20 _ _ _ _ ?_)
  refine seq_ (fun _ K46 => ?_)
  refine seq_ (fun _ K47 => ?_)
  refine reg_ ?_
  refine sq (o_pv (.pointer (some ⟨b13, 0, none⟩)) rfl (by kernel_rfl) ?_)
  have k48 := (OB.step k41 s44 p39)
  refine sq (o_pv (.int .i64 o.kind) rfl (x_load1 (by kernel_rfl) Tryd.isAgg3 (k48.2.1.cell' 0 rfl)) ?_)
  refine nil_ ?_
  refine then_normal (K47 _ _ _ _ ?_)
  have hofileb247 := (Sl.step (Sl.step (Sl.step hofileb11 s16) s34) s44)
  have ml248 := (OM.step ml40 s44 p38)
  have hXo249 := (Old.step (Old.step (Old.step hXo s16) s34) s44)
  have E250 := (Evo.thenW E42 (Step.evo s44) (Wr.of k35.2.2))
  have hS251 := (Sub.trans (Sub.trans (Sub.trans hS (Step.up s16)) (Step.up s34)) (Step.up s44))
  have hN252 := (News.step (News.step (News.step hN s16) s34) s44)
  have hlb253 := (Sl.step (Sl.step hlb30 s34) s44)
  obtain ⟨k240, hk241, hp⟩ := hp
  refine ground_ ?_
  refine join_ 281474976645136 (fun lq w242 => ∃ (X243 : List Nat) (m238 : (List (ByteArray × S_simfs_file))), (lq = []) ∧ (Evo [rl1] w w242) ∧ (Old X243 w242) ∧ (Sub X X243) ∧ (News X w X243 w242) ∧ (OM r_simfs_file true ([rl1]) w.heap.size X243 w242 rl1 m238) ∧ (k240 m238)) (fun Kj244 hJ245 => ?_) ?_
  ·
    refine wp_block ?_
    refine seq_ (fun _ K258 => ?_)
    obtain ⟨k334, hk335, hp⟩ := hp
    refine ground_ ?_
    refine join_ 35184372023312 (fun lq w336 => ∃ (X337 : List Nat) (s332 : (List (ByteArray × S_simfs_file))), (lq = []) ∧ (Evo [rl1] w w336) ∧ (Old X337 w336) ∧ (Sub X X337) ∧ (News X w X337 w336) ∧ (Sl (rInt .u8) X337 w336 aofileb9 cofileb10 o.file.b) ∧ (OB ([]) w.heap.size X337 w336 b13 [(.int .i64 o.kind), (.string o.path), (.string o.to_), (.int .i64 o.file.mode), (.int .i64 o.file.time), (.int .i64 o.file.inode), (.slice aofileb9 o.file.b.length cofileb10)] 56) ∧ (OM r_simfs_file true ([rl1]) w.heap.size X337 w336 rl1 s332) ∧ (k334 s332)) (fun Kj338 hJ339 => ?_) ?_
    ·
      refine wp_block ?_
      refine seq_ (fun _ K347 => ?_)
      refine wp_block ?_
      refine seq_ (fun _ K348 => ?_)
      refine wp_block ?_
      refine seq_ (fun _ K349 => ?_)
      refine seq_ (fun _ K350 => ?_)
      refine seq_ (fun _ K351 => ?_)
      refine reg_ ?_
      refine sq (o_pv (.bool (decide (o.kind = (1 : Int)))) rfl (by kernel_rfl) ?_)
      refine sq (o_pv (.bool (decide (o.kind = (1 : Int)))) rfl (by kernel_rfl) ?_)
      refine nil_ ?_
      refine then_normal (K351 _ _ _ _ ?_)
      refine cond_d (o.kind = (1 : Int)) (by kernel_rfl) (fun h352 => ?_) (fun h352 => ?_)
      ·
        replace hp := hp.1 h352
        refine wp_exit ?_
        refine then_exit ?_
        refine then_exit ?_
        refine blk_exit ?_
        refine then_normal (K348 _ _ _ _ ?_)
        refine seq_ (fun _ K353 => ?_)
        refine seq_ (fun _ K354 => ?_)
        refine seq_ (fun _ K355 => ?_)
        refine reg_ ?_
        refine sq (o_pv (.map (some rl1)) rfl (by kernel_rfl) ?_)
        refine sq (o_pv (.pointer (some ⟨b13, 1, none⟩)) rfl (by kernel_rfl) ?_)
        refine sq (o_pv (.string o.path) rfl (x_load1 (by kernel_rfl) Tryd.isAgg9 (k48.2.1.cell' 1 rfl)) ?_)
        refine sq (o_call 38 #[(.map (some rl1)), (.string o.path), (.string (ByteArray.mk #[]))] rfl (x_call Tryd.call38 (by kernel_rfl)) (simfs_clash_w (X := []) (l := l) (p := o.path) (but := (ByteArray.mk #[])) (Old.nil _) (OM.rm ml248) zopath4 (by decide : (ByteArray.mk #[]).size ≤ maxLen) hp) ?_)
        rintro _ w357 ⟨r356, hp, e358, rfl⟩
        have s359 := Step.of0 X33 e358
        refine nil_ ?_
        refine then_normal (K355 _ _ _ _ ?_)
        refine cond_b r356 (by kernel_rfl) (fun h360 => ?_) (fun h360 => ?_)
        ·
          replace hp := hp.1 h360
          refine seq_ (fun _ K361 => ?_)
          refine reg_ ?_
          refine sq (o_pv (.bool false) rfl (by kernel_rfl) ?_)
          refine nil_ ?_
          refine then_normal (K361 _ _ _ _ ?_)
          refine wp_ret ?_
          refine then_ret ?_
          refine then_ret ?_
          refine blk_ret ?_
          refine then_ret ?_
          refine blk_ret ?_
          refine then_ret ?_
          refine then_ret ?_
          refine blk_ret ?_
          refine then_ret ?_
          refine then_ret ?_
          have hofileb362 := (Sl.step hofileb247 s359)
          have ml363 := (OM.step0 ml248 s359)
          have hXo364 := (Old.step hXo249 s359)
          have E365 := (Evo.then0 E250 e358)
          have hS366 := (Sub.trans hS251 (Step.up s359))
          have hN367 := (News.step hN252 s359)
          have k368 := (OB.step0 k48 s359)
          have hlb369 := (Sl.step hlb253 s359)
          have k370 := (OB.step0 k45 s359)
          refine end_ret hQ (.bool false) (by kernel_rfl) ?_
          exact ⟨l, false, hp, X33, step_of E365 hF0 hS366 hN367, rfl, ml363⟩
        ·
          replace hp := hp.2 h360
          refine wp_skip ?_
          refine then_normal (K354 _ _ _ _ ?_)
          refine seq_ (fun _ K371 => ?_)
          refine reg_ ?_
          refine sq (o_pv (.map (some rl1)) rfl (by kernel_rfl) ?_)
          refine sq (o_pv (.pointer (some ⟨b13, 1, none⟩)) rfl (by kernel_rfl) ?_)
          have k372 := (OB.step0 k48 s359)
          refine sq (o_pv (.string o.path) rfl (x_load1 (by kernel_rfl) Tryd.isAgg9 (k372.2.1.cell' 1 rfl)) ?_)
          refine sq (o_pv (.pointer (some ⟨b13, 3, none⟩)) rfl (by kernel_rfl) ?_)
          refine sq (o_pv (.agg #[(.int .i64 o.file.mode), (.int .i64 o.file.time), (.int .i64 o.file.inode), (.slice aofileb9 o.file.b.length cofileb10)]) rfl (x_loadN [(.int .i64 o.file.mode), (.int .i64 o.file.time), (.int .i64 o.file.inode), (.slice aofileb9 o.file.b.length cofileb10)] (by kernel_rfl) Tryd.isAgg54 Tryd.sizeOf54 (k372.2.1.cells' 3 rfl)) ?_)
          have hofileb373 := (Sl.step hofileb247 s359)
          have ml374 := (OM.step0 ml248 s359)
          have k375 := (OB.step0 k45 s359)
          refine sq (o_mapset (cs := [(.int .i64 o.file.mode), (.int .i64 o.file.time), (.int .i64 o.file.inode), (.slice aofileb9 o.file.b.length cofileb10)]) (d := o.file) rfl ml374 Tryd.underlying47 Tryd.underlying9 (by kernel_rfl) (by kernel_rfl) (by kernel_rfl) (r_simfs_file_mk rofilemode6 rofiletime7 rofileinode8 hofileb373 rfl) zopath4 ?_)
          intro w376 s377 m378
          refine nil_ ?_
          refine then_normal (K371 _ _ _ _ ?_)
          refine seq_ (fun _ K379 => ?_)
          refine reg_ ?_
          refine sq (o_pv (.bool true) rfl (by kernel_rfl) ?_)
          refine nil_ ?_
          refine then_normal (K379 _ _ _ _ ?_)
          refine wp_ret ?_
          refine then_ret ?_
          refine blk_ret ?_
          refine then_ret ?_
          refine blk_ret ?_
          refine then_ret ?_
          refine then_ret ?_
          refine blk_ret ?_
          refine then_ret ?_
          refine then_ret ?_
          have hofileb380 := (Sl.step hofileb373 s377)
          have hXo381 := (Old.step (Old.step hXo249 s359) s377)
          have E382 := (Evo.thenW (Evo.then0 E250 e358) (Step.evo s377) ml374.2.2)
          have hS383 := (Sub.trans (Sub.trans hS251 (Step.up s359)) (Step.up s377))
          have hN384 := (News.step (News.step hN252 s359) s377)
          have k385 := (OB.step k372 s377 (Ap.symm p19))
          have hlb386 := (Sl.step (Sl.step hlb253 s359) s377)
          have k387 := (OB.step k375 s377 (Ap.symm p38))
          refine end_ret hQ (.bool true) (by kernel_rfl) ?_
          exact ⟨(mset l o.path o.file), true, hp, X33, step_of E382 hF0 hS383 hN384, rfl, m378⟩
      ·
        replace hp := hp.2 h352
        refine wp_skip ?_
        refine then_normal (K350 _ _ _ _ ?_)
        refine seq_ (fun _ K388 => ?_)
        refine seq_ (fun _ K389 => ?_)
        refine reg_ ?_
        refine sq (o_pv (.bool (decide (o.kind = (2 : Int)))) rfl (by kernel_rfl) ?_)
        refine sq (o_pv (.bool (decide (o.kind = (2 : Int)))) rfl (by kernel_rfl) ?_)
        refine nil_ ?_
        refine then_normal (K389 _ _ _ _ ?_)
        refine cond_d (o.kind = (2 : Int)) (by kernel_rfl) (fun h390 => ?_) (fun h390 => ?_)
        ·
          replace hp := hp.1 h390
          refine wp_exit ?_
          refine then_exit ?_
          refine then_exit ?_
          refine blk_exit_ne rfl ?_
          refine then_exit ?_
          refine blk_exit ?_
          refine then_normal (K347 _ _ _ _ ?_)
          refine seq_ (fun _ K391 => ?_)
          refine seq_ (fun _ K392 => ?_)
          obtain ⟨k399, hk400, hp⟩ := hp
          refine ground_ ?_
          refine join_ 2196875771904 (fun lq w401 => ∃ (X402 : List Nat) (s398 : Bool), (lq = [(40, (.bool s398))]) ∧ (Evo [rl1] w w401) ∧ (Old X402 w401) ∧ (Sub X X402) ∧ (News X w X402 w401) ∧ (OM r_simfs_file true ([rl1]) w.heap.size X402 w401 rl1 l) ∧ (Sl (rInt .u8) X402 w401 aofileb9 cofileb10 o.file.b) ∧ (OB ([]) w.heap.size X402 w401 b13 [(.int .i64 o.kind), (.string o.path), (.string o.to_), (.int .i64 o.file.mode), (.int .i64 o.file.time), (.int .i64 o.file.inode), (.slice aofileb9 o.file.b.length cofileb10)] 56) ∧ (Sl (rInt .u8) X402 w401 alb28 clb29 ((mgetD l o.path).b)) ∧ (OB ([]) w.heap.size X402 w401 b31 [(.int .i64 ((mgetD l o.path).mode)), (.int .i64 ((mgetD l o.path).time)), (.int .i64 ((mgetD l o.path).inode)), (.slice alb28 (((mgetD l o.path).b).length) clb29)] 54) ∧ (k399 s398)) (fun Kj403 hJ404 => ?_) ?_
          ·
            refine reg_ ?_
            by_cases h415 : (mhas l o.path) = true
            ·
              replace hp := hp.1 h415
              refine sq (o_pv (.bool true) rfl (x_bt (by kernel_rfl) h415) ?_)
              refine sq (o_pv (.bool false) rfl (by kernel_rfl) ?_)
              refine sq (o_pv (.bool false) rfl (by kernel_rfl) ?_)
              refine sq (o_pv (.map (some rl1)) (by kernel_rfl) (by kernel_rfl) ?_)
              refine sq (o_pv (.pointer (some ⟨b13, 2, none⟩)) (by kernel_rfl) (by kernel_rfl) ?_)
              refine sq (o_pv (.string o.to_) (by kernel_rfl) (x_load1 (by kernel_rfl) Tryd.isAgg9 (k48.2.1.cell' 2 rfl)) ?_)
              refine sq (o_pv (.pointer (some ⟨b13, 1, none⟩)) (by kernel_rfl) (by kernel_rfl) ?_)
              refine sq (o_pv (.string o.path) (by kernel_rfl) (x_load1 (by kernel_rfl) Tryd.isAgg9 (k48.2.1.cell' 1 rfl)) ?_)
              refine sq (o_call 38 #[(.map (some rl1)), (.string o.to_), (.string o.path)] (by kernel_rfl) (x_call Tryd.call38 (by kernel_rfl)) (simfs_clash_w (X := []) (l := l) (p := o.to_) (but := o.path) (Old.nil _) (OM.rm ml248) zoto_5 zopath4 hp) ?_)
              rintro _ w417 ⟨r416, hp, e418, rfl⟩
              have s419 := Step.of0 X33 e418
              refine sq (o_pv (.bool r416) rfl (by kernel_rfl) ?_)
              refine nil_ ?_
              have E420 := (Evo.then0 E250 e418)
              have hXo421 := (Old.step hXo249 s419)
              have hS422 := (Sub.trans hS251 (Step.up s419))
              have hN423 := (News.step hN252 s419)
              have ml424 := (OM.step0 ml248 s419)
              have hofileb425 := (Sl.step hofileb247 s419)
              have k426 := (OB.step0 k48 s419)
              have hlb427 := (Sl.step hlb253 s419)
              have k428 := (OB.step0 k45 s419)
              refine then_normal (hJ404 _ _ _ ⟨[(40, (.bool r416))], fit_mk (fun _ _ => rfl) (by kernel_rfl) (vs_cons (by kernel_rfl) vs_nil), ?_⟩)
              exact ⟨X33, r416, rfl, E420, hXo421, hS422, hN423, ml424, hofileb425, k426, hlb427, k428, hp⟩
            ·
              replace hp := hp.2 h415
              refine sq (o_pv (.bool false) rfl (x_bf (by kernel_rfl) h415) ?_)
              refine sq (o_pv (.bool true) rfl (by kernel_rfl) ?_)
              refine sq (o_pv (.bool true) rfl (by kernel_rfl) ?_)
              refine sq (o_not (by kernel_rfl) ?_)
              refine sq (o_not (by kernel_rfl) ?_)
              refine sq (o_not (by kernel_rfl) ?_)
              refine sq (o_not (by kernel_rfl) ?_)
              refine sq (o_not (by kernel_rfl) ?_)
              refine sq (o_not (by kernel_rfl) ?_)
              refine sq (o_pv (.bool true) rfl (by kernel_rfl) ?_)
              refine nil_ ?_
              refine then_normal (hJ404 _ _ _ ⟨[(40, (.bool true))], fit_mk (fun _ _ => rfl) (by kernel_rfl) (vs_cons (by kernel_rfl) vs_nil), ?_⟩)
              exact ⟨X33, true, rfl, E250, hXo249, hS251, hN252, ml248, hofileb247, k48, hlb253, k45, hp⟩
          ·
            rintro _ w401 g429 ⟨X402, s398, rfl, E406, hXo407, hS408, hN409, ml410, hofileb411, k412, hlb413, k414, hv405⟩
            replace hp := hk400 s398 hv405
            refine then_normal (K392 _ _ _ _ ?_)
            refine cond_b s398 (by kernel_rfl) (fun h430 => ?_) (fun h430 => ?_)
            ·
              replace hp := hp.1 h430
              refine seq_ (fun _ K431 => ?_)
              refine reg_ ?_
              refine sq (o_pv (.bool false) rfl (by kernel_rfl) ?_)
              refine nil_ ?_
              refine then_normal (K431 _ _ _ _ ?_)
              refine wp_ret ?_
              refine then_ret ?_
              refine blk_ret ?_
              refine then_ret ?_
              refine then_ret ?_
              refine blk_ret ?_
              refine then_ret ?_
              refine then_ret ?_
              refine end_ret hQ (.bool false) (by kernel_rfl) ?_
              exact ⟨l, false, hp, X402, step_of E406 hF0 hS408 hN409, rfl, ml410⟩
            ·
              replace hp := hp.2 h430
              refine wp_skip ?_
              refine then_normal (K391 _ _ _ _ ?_)
              refine reg_ ?_
              refine sq (o_pv (.map (some rl1)) rfl (by kernel_rfl) ?_)
              refine sq (o_pv (.pointer (some ⟨b13, 2, none⟩)) rfl (by kernel_rfl) ?_)
              refine sq (o_pv (.string o.to_) rfl (x_load1 (by kernel_rfl) Tryd.isAgg9 (k412.2.1.cell' 2 rfl)) ?_)
              refine sq (o_pv (.agg #[(.int .i64 ((mgetD l o.path).mode)), (.int .i64 ((mgetD l o.path).time)), (.int .i64 ((mgetD l o.path).inode)), (.slice alb28 (((mgetD l o.path).b).length) clb29)]) rfl (x_loadN [(.int .i64 ((mgetD l o.path).mode)), (.int .i64 ((mgetD l o.path).time)), (.int .i64 ((mgetD l o.path).inode)), (.slice alb28 (((mgetD l o.path).b).length) clb29)] (by kernel_rfl) Tryd.isAgg54 Tryd.sizeOf54 (k414.2.1.cells' 0 rfl)) ?_)
              refine sq (o_mapset (cs := [(.int .i64 ((mgetD l o.path).mode)), (.int .i64 ((mgetD l o.path).time)), (.int .i64 ((mgetD l o.path).inode)), (.slice alb28 (((mgetD l o.path).b).length) clb29)]) (d := (mgetD l o.path)) rfl ml410 Tryd.underlying47 Tryd.underlying9 (by kernel_rfl) (by kernel_rfl) (by kernel_rfl) (r_simfs_file_mk rlmode25 rltime26 rlinode27 hlb413 rfl) zoto_5 ?_)
              intro w432 s433 m434
              refine nil_ ?_
              refine blk_normal ?_
              have E435 := (Evo.thenW E406 (Step.evo s433) ml410.2.2)
              have hXo436 := (Old.step hXo407 s433)
              have hS437 := (Sub.trans hS408 (Step.up s433))
              have hN438 := (News.step hN409 s433)
              have hofileb439 := (Sl.step hofileb411 s433)
              have k440 := (OB.step k412 s433 (Ap.symm p19))
              refine then_normal (hJ339 _ _ _ ⟨[], fit_mk (AgB.nest (AgB.look (fun _ _ => rfl) (by kernel_rfl)) (by kernel_rfl) (by kernel_rfl)) (by kernel_rfl) vs_nil, ?_⟩)
              exact ⟨X402, (mset l o.to_ (mgetD l o.path)), rfl, E435, hXo436, hS437, hN438, hofileb439, k440, m434, hp⟩
        ·
          replace hp := hp.2 h390
          refine wp_skip ?_
          refine then_normal (K388 _ _ _ _ ?_)
          refine seq_ (fun _ K441 => ?_)
          refine reg_ ?_
          refine sq (o_pv (.bool (decide (o.kind = (3 : Int)))) rfl (by kernel_rfl) ?_)
          refine sq (o_pv (.bool (decide (o.kind = (3 : Int)))) rfl (by kernel_rfl) ?_)
          refine nil_ ?_
          refine then_normal (K441 _ _ _ _ ?_)
          refine cond_d (o.kind = (3 : Int)) (by kernel_rfl) (fun h442 => ?_) (fun h442 => ?_)
          ·
            replace hp := hp.1 h442
            refine wp_exit ?_
            refine then_exit ?_
            refine blk_exit_ne rfl ?_
            refine then_exit ?_
            refine blk_exit_ne rfl ?_
            refine then_exit ?_
            refine blk_exit ?_
            refine then_normal (hJ339 _ _ _ ⟨[], fit_mk (fun _ _ => rfl) (by kernel_rfl) vs_nil, ?_⟩)
            exact ⟨X33, l, rfl, E250, hXo249, hS251, hN252, hofileb247, k48, ml248, hp⟩
          ·
            replace hp := hp.2 h442
            refine wp_skip ?_
            refine then_normal (K349 _ _ _ _ ?_)
            refine wp_exit ?_
            refine blk_exit_ne rfl ?_
            refine then_exit ?_
            refine blk_exit_ne rfl ?_
            refine then_exit ?_
            refine blk_exit_ne rfl ?_
            refine then_exit ?_
            refine then_exit ?_
            refine blk_exit ?_
            refine then_normal (hJ245 _ _ _ ⟨[], fit_mk (AgB.look (fun _ _ => rfl) (by kernel_rfl)) (by kernel_rfl) vs_nil, ?_⟩)
            exact ⟨X33, l, rfl, E250, hXo249, hS251, hN252, ml248, hp⟩
    ·
      rintro _ w336 g443 ⟨X337, s332, rfl, E341, hXo342, hS343, hN344, hofileb345, k346, m333, hv340⟩
      replace hp := hk335 s332 hv340
      refine then_normal (K258 _ _ _ _ ?_)
      refine seq_ (fun _ K444 => ?_)
      refine reg_ ?_
      refine sq (o_pv (.map (some rl1)) rfl (by kernel_rfl) ?_)
      refine sq (o_pv (.pointer (some ⟨b13, 1, none⟩)) rfl (by kernel_rfl) ?_)
      refine sq (o_pv (.string o.path) rfl (x_load1 (by kernel_rfl) Tryd.isAgg9 (k346.2.1.cell' 1 rfl)) ?_)
      refine sq (o_mapdel (k := o.path) rfl m333 Tryd.underlying47 Tryd.underlying9 (by kernel_rfl) (by kernel_rfl) ?_)
      intro w445 s446 m447
      refine nil_ ?_
      refine then_normal (K444 _ _ _ _ ?_)
      refine wp_exit ?_
      refine blk_exit ?_
      have E448 := (Evo.thenW E341 (Step.evo s446) m333.2.2)
      have hXo449 := (Old.step hXo342 s446)
      have hS450 := (Sub.trans hS343 (Step.up s446))
      have hN451 := (News.step hN344 s446)
      refine then_normal (hJ245 _ _ _ ⟨[], fit_mk (AgB.nest (AgB.look (fun _ _ => rfl) (by kernel_rfl)) (by kernel_rfl) (by kernel_rfl)) (by kernel_rfl) vs_nil, ?_⟩)
      exact ⟨X337, (mdel s332 o.path), rfl, E448, hXo449, hS450, hN451, m447, hp⟩
  ·
    rintro _ w242 g452 ⟨X243, m238, rfl, E254, hXo255, hS256, hN257, m239, hv246⟩
    replace hp := hk241 m238 hv246
    refine then_normal (K46 _ _ _ _ ?_)
    refine seq_ (fun _ K453 => ?_)
    refine reg_ ?_
    refine sq (o_pv (.bool (mhas l o.path)) rfl (by kernel_rfl) ?_)
    refine sq (o_pv (.bool (mhas l o.path)) rfl (by kernel_rfl) ?_)
    refine nil_ ?_
    refine then_normal (K453 _ _ _ _ ?_)
    refine wp_ret ?_
    refine end_ret hQ (.bool (mhas l o.path)) (by kernel_rfl) ?_
    exact ⟨m238, (mhas l o.path), hp, X243, step_of E254 hF0 hS256 hN257, rfl, m239⟩

def maps_Clone_map_string_simfs_file_string_simfs_file_p (m : (List (ByteArray × S_simfs_file))) (Q : (List (ByteArray × S_simfs_file)) → (List (ByteArray × S_simfs_file)) → Prop) : Prop :=
  Q m m
set_option maxRecDepth 20000 in
set_option maxHeartbeats 4000000 in
theorem maps_Clone_map_string_simfs_file_string_simfs_file_w {X : List Nat} {w : World} {m : (List (ByteArray × S_simfs_file))} {rm1 : Nat} {Q : (List (ByteArray × S_simfs_file)) → (List (ByteArray × S_simfs_file)) → Prop} (hX0 : Old X w) (mm2 : OM r_simfs_file true ([rm1]) w.heap.size X w rm1 m) (hp : maps_Clone_map_string_simfs_file_string_simfs_file_p m Q) :
    Calls Tryd.prog 33 #[(.map (some rm1))] w (Ret fun v w' => ∃ (m0 : (List (ByteArray × S_simfs_file))) (r0 : (List (ByteArray × S_simfs_file))), Q m0 r0 ∧ ∃ (X' : List Nat) (rq01 : Nat), Step X w ([rm1]) X' w' ∧ v = (.map (some rq01)) ∧ OM r_simfs_file true ([rm1]) w.heap.size X' w' rm1 m0 ∧ OM r_simfs_file true ([]) w.heap.size X' w' rq01 r0 ∧ Ap ([rm1]) ([rq01])) := by
  have hXo := hX0
  have E0 : Evo [rm1] w w := RB.refl _ _ _
  have hS : Sub X X := Sub.refl _
  have hN : News X w X w := News.refl _ _
  have hF0 : Sub [rm1] X := OM.mem mm2
  unfold maps_Clone_map_string_simfs_file_string_simfs_file_p at hp
  refine enter_ Tryd.func33 rfl 9 [(0, (.map (some rm1)))] (by kernel_rfl) (fun Qe hQ => ?_)
  refine seq_ (fun _ K3 => ?_)
  refine reg_ ?_
  refine sq (o_pv (.map none) rfl (by kernel_rfl) ?_)
  refine nil_ ?_
  refine then_normal (K3 _ _ _ _ ?_)
  refine seq_ (fun _ K4 => ?_)
  refine seq_ (fun _ K5 => ?_)
  refine reg_ ?_
  refine sq (o_pv (.map (some rm1)) rfl (by kernel_rfl) ?_)
  refine sq (o_pv (.bool false) rfl (x_mnil_eq (r := rm1) Tryd.underlying47 (by kernel_rfl) (by kernel_rfl)) ?_)
  refine nil_ ?_
  refine then_normal (K5 _ _ _ _ ?_)
  refine cond_f (by kernel_rfl) ?_
  refine wp_skip ?_
  refine then_normal (K4 _ _ _ _ ?_)
  refine seq_ (fun _ K6 => ?_)
  refine reg_ ?_
  refine sq (o_pv (.map (some rm1)) rfl (by kernel_rfl) ?_)
  refine sq (o_pv (.iface 47 (.map (some rm1))) rfl (by kernel_rfl) ?_)
  refine sq (o_mapclone (X := X) (B := w.heap.size) (t := 47) E0.size rfl Tryd.func44 (by kernel_rfl) (by kernel_rfl) (by kernel_rfl) (show _ = some Extern.MapsClone.clone by kernel_rfl) mm2 (by kernel_rfl) ?_)
  intro r7 w8 X9 s10 m11 n12
  have p13 := n12 _ (OM.old mm2)
  refine sq (o_pv (.map (some r7)) rfl (x_assert_map (v := (.map (some r7))) Tryd.underlying47 (by kernel_rfl)) ?_)
  refine sq (o_pv (.map (some r7)) rfl (by kernel_rfl) ?_)
  refine nil_ ?_
  refine then_normal (K6 _ _ _ _ ?_)
  refine wp_ret ?_
  have mm14 := (OM.step0 mm2 s10)
  have hXo15 := (Old.step hXo s10)
  have E16 := (Evo.then0 E0 (Step.evo s10))
  have hS17 := (Sub.trans hS (Step.up s10))
  have hN18 := (News.step hN s10)
  refine end_ret hQ (.map (some r7)) (by kernel_rfl) ?_
  exact ⟨m, m, hp, X9, r7, step_of E16 hF0 hS17 hN18, rfl, mm14, m11, p13⟩

def simfs_FS_Cut_p (f_ : S_simfs_FS) (keep : (List Bool)) (Q : S_simfs_FS → Prop) : Prop :=
  ((keep.length ≤ 9223372036854775807) → (slices_Clone_bool_bool_p keep (fun (r8 : (List Bool)) => ((r8.length ≤ 9223372036854775807) → ((f_.pending.length ≤ 9223372036854775807) → ((inR .i64 f_.quota) → ((inR .i64 f_.now) → ((inR .i64 f_.inodes) → ((inR .i64 f_.ops_) → ((inR .i64 f_.left) → ((f_.keep.length ≤ 9223372036854775807) → (∃ (I644 : Int → (List (ByteArray × S_simfs_file)) → Prop) (m645 : Int → (List (ByteArray × S_simfs_file)) → Nat), (I644 (0 : Int) f_.kept) ∧ (∀ (s347 : Int) (f349 : (List (ByteArray × S_simfs_file))), (I644 s347 f349) → (inR .i64 s347) → (((s347 < (f_.pending.length : Int)) → (∃ k801 : (List (ByteArray × S_simfs_file)) → Prop, (∀ (f798 : (List (ByteArray × S_simfs_file))), k801 f798 → ((inR .i64 (s347 + (1 : Int))) ∧ ((I644 (s347 + (1 : Int)) f798) ∧ m645 (s347 + (1 : Int)) f798 < m645 s347 f349))) ∧ ((inL f_.pending s347) ∧ ((inR .i64 ((lget f_.pending s347).kind)) → ((((lget f_.pending s347).path).size ≤ maxLen) → ((((lget f_.pending s347).to_).size ≤ maxLen) → ((inR .i64 (((lget f_.pending s347).file).mode)) → ((inR .i64 (((lget f_.pending s347).file).time)) → ((inR .i64 (((lget f_.pending s347).file).inode)) → (((((lget f_.pending s347).file).b).length ≤ 9223372036854775807) → (∃ k868 : Bool → Prop, (∀ (s867 : Bool), k868 s867 → (((s867 = true) → (simfs_apply_p f349 (S_simfs_op.mk ((lget f_.pending s347).kind) ((lget f_.pending s347).path) ((lget f_.pending s347).to_) ((lget f_.pending s347).file)) (fun (l929 : (List (ByteArray × S_simfs_file))) (r930 : Bool) => (k801 l929)))) ∧ ((s867 = false) → (k801 f349)))) ∧ (((s347 < (r8.length : Int)) → ((inL r8 s347) ∧ (k868 (lget r8 s347)))) ∧ ((¬ (s347 < (r8.length : Int))) → (k868 false)))))))))))))) ∧ ((¬ (s347 < (f_.pending.length : Int))) → (maps_Clone_map_string_simfs_file_string_simfs_file_p f349 (fun (m955 : (List (ByteArray × S_simfs_file))) (r956 : (List (ByteArray × S_simfs_file))) => Q (S_simfs_FS.mk m955 r956 ([] : List S_simfs_op) f_.quota f_.now f_.inodes f_.ops_ true false f_.left ([] : List Bool)))))))))))))))))))
set_option maxRecDepth 20000 in
set_option maxHeartbeats 4000000 in
theorem simfs_FS_Cut_w {X : List Nat} {w : World} {f_ : S_simfs_FS} {keep : (List Bool)} {bf_1 : Nat} {Ff_2 : List Nat} {akeep4 : Option Addr} {ckeep5 : Nat} {Q : S_simfs_FS → Prop} (hX0 : Old X w) (mf_3 : MO o_simfs_FS 50 Ff_2 w.heap.size X w Ff_2 bf_1 f_) (hkeep6 : Sl rBool X w akeep4 ckeep5 keep) (hp : simfs_FS_Cut_p f_ keep Q) :
    Calls Tryd.prog 16 #[(.pointer (some ⟨bf_1, 0, none⟩)), (.slice akeep4 keep.length ckeep5)] w (Ret fun v w' => ∃ (m0 : S_simfs_FS), Q m0 ∧ ∃ (X' : List Nat) (Fm0 : List Nat), Step X w Ff_2 X' w' ∧ v = .tuple #[] ∧ MO o_simfs_FS 50 Ff_2 w.heap.size X' w' Fm0 bf_1 m0) := by
  have hXo := hX0
  have E0 : Evo Ff_2 w w := RB.refl _ _ _
  have hS : Sub X X := Sub.refl _
  have hN : News X w X w := News.refl _ _
  have hF0 : Sub Ff_2 X := MO.mem mf_3
  unfold simfs_FS_Cut_p at hp
  refine enter_ Tryd.func16 rfl 55 [(0, (.pointer (some ⟨bf_1, 0, none⟩))), (1, (.slice akeep4 keep.length ckeep5))] (by kernel_rfl) (fun Qe hQ => ?_)
  replace hp := hp (Sl.len hkeep6)
  refine seq_ (fun _ K7 => ?_)
  refine reg_ ?_
  refine sq (o_pv (.slice akeep4 keep.length ckeep5) rfl (by kernel_rfl) ?_)
  refine sq (o_call 23 #[(.slice akeep4 keep.length ckeep5)] rfl (x_call Tryd.call23 (by kernel_rfl)) (slices_Clone_bool_bool_w (X := X) (s := keep) hXo (Sl.sq hkeep6) hp) ?_)
  rintro _ w9 ⟨r8, hp, e10, a12, c13, rfl, O14⟩
  obtain ⟨X15, s11, O16, n17⟩ := OS.own_in O14 e10 E0.size
  have p18 := n17 _ (MO.old mf_3)
  replace hp := hp (OS.len O16)
  refine sq (o_pv (.slice a12 r8.length c13) rfl (by kernel_rfl) ?_)
  refine nil_ ?_
  refine then_normal (K7 _ _ _ _ ?_)
  refine seq_ (fun _ K19 => ?_)
  refine seq_ (fun _ K20 => ?_)
  refine reg_ ?_
  refine sq (o_pv (.pointer (some ⟨bf_1, 0, none⟩)) rfl (by kernel_rfl) ?_)
  refine sq (o_pv (.pointer (some ⟨bf_1, 0, none⟩)) rfl (by kernel_rfl) ?_)
  have mf_21 := (MO.step0 mf_3 s11)
  obtain ⟨rokept22, rofiles24, ao26, no27, co28, aokeep35, cokeep36, k38, mokept23, mofiles25, Oo29, roquota30, ronow31, roinodes32, roops_33, roleft34, hokeep37, sb39, sb40, sb41, sb42, p43, p44, p45, p46, p47, p48⟩ := o_simfs_FS_open mf_21
  have p49 := Ap.subr (Ap.symm p18) sb39
  have p50 := Ap.subr (Ap.symm p18) sb40
  have p51 := Ap.subr (Ap.symm p18) sb41
  have p52 := Ap.subr (Ap.symm p18) sb42
  replace hp := hp (OS.len Oo29)
  replace hp := hp roquota30
  replace hp := hp ronow31
  replace hp := hp roinodes32
  replace hp := hp roops_33
  replace hp := hp roleft34
  replace hp := hp (Sl.len hokeep37)
  refine sq (o_pv (.pointer (some ⟨bf_1, 2, none⟩)) rfl (by kernel_rfl) ?_)
  refine sq (o_pv (.slice ao26 no27 co28) rfl (x_load1 (by kernel_rfl) Tryd.isAgg48 (k38.2.1.cell' 2 rfl)) ?_)
  refine sq (o_pv (.int .i64 (f_.pending.length : Int)) rfl (by rw [← show no27 = f_.pending.length from Oo29.1]; kernel_rfl) ?_)
  refine sq (o_pv (.int .i64 (0 : Int)) rfl (by kernel_rfl) ?_)
  refine nil_ ?_
  refine then_normal (K20 _ _ _ _ ?_)
  refine wp_block ?_
  have hkeep654 := (Sl.step hkeep6 s11)
  have hXo655 := (Old.step hXo s11)
  have E656 := (Evo.then0 E0 (Step.evo s11))
  have hS657 := (Sub.trans hS (Step.up s11))
  have hN658 := (News.step hN s11)
  obtain ⟨I644, m645, hI646, hp⟩ := hp
  refine loop_ 34359730224 (fun kq lq w648 => ∃ (X649 : List Nat) (s347 : Int) (f349 : (List (ByteArray × S_simfs_file))), (lq = [(13, (.int .i64 s347))]) ∧ (kq = m645 s347 f349) ∧ (Evo Ff_2 w w648) ∧ (Old X649 w648) ∧ (Sub X X649) ∧ (News X w X649 w648) ∧ (OS rBool ([]) w.heap.size X649 w648 4 a12 r8.length c13 r8) ∧ (OS r_simfs_op Ff_2 w.heap.size X649 w648 56 ao26 no27 co28 f_.pending) ∧ (OM r_simfs_file true Ff_2 w.heap.size X649 w648 rofiles24 f_.files) ∧ (Sl rBool X649 w648 aokeep35 cokeep36 f_.keep) ∧ (OM r_simfs_file true Ff_2 w.heap.size X649 w648 rokept22 f349) ∧ (OB Ff_2 w.heap.size X649 w648 bf_1 [(.map (some rokept22)), (.map (some rofiles24)), (.slice ao26 no27 co28), (.int .i64 f_.quota), (.int .i64 f_.now), (.int .i64 f_.inodes), (.int .i64 f_.ops_), (.bool f_.off), (.bool f_.armed), (.int .i64 f_.left), (.slice aokeep35 f_.keep.length cokeep36)] 50) ∧ (inR .i64 s347) ∧ (I644 s347 f349)) (m645 (0 : Int) f_.kept) [(13, (.int .i64 (0 : Int)))] (vs_cons (by kernel_rfl) vs_nil) ⟨X15, (0 : Int), f_.kept, rfl, rfl, E656, hXo655, hS657, hN658, O16, Oo29, mofiles25, hokeep37, mokept23, k38, (by decide : inR .i64 (0 : Int)), hI646⟩ ?_
  rintro _ _ w648 g651 ⟨X649, s347, f349, rfl, rfl, E659, hXo660, hS661, hN662, O663, Oo664, mofiles665, hokeep666, m350, k351, rs348, hI647⟩ Kl652 hA653
  replace hp := hp s347 f349 hI647 rs348
  refine seq_ (fun _ K667 => ?_)
  refine reg_ ?_
  refine sq (o_pv (.bool (decide (s347 < (f_.pending.length : Int)))) rfl (by kernel_rfl) ?_)
  refine nil_ ?_
  refine then_normal (K667 _ _ _ _ ?_)
  refine seq_ (fun _ K668 => ?_)
  refine cond_d (s347 < (f_.pending.length : Int)) (by kernel_rfl) (fun h669 => ?_) (fun h669 => ?_)
  ·
    replace hp := hp.1 h669
    refine wp_skip ?_
    refine then_normal (K668 _ _ _ _ ?_)
    refine seq_ (fun _ K670 => ?_)
    obtain ⟨k801, hk802, hp⟩ := hp
    refine ground_ ?_
    refine join_ 17179836464 (fun lq w803 => ∃ (X804 : List Nat) (f798 : (List (ByteArray × S_simfs_file))), (lq = []) ∧ (Evo Ff_2 w w803) ∧ (Old X804 w803) ∧ (Sub X X804) ∧ (News X w X804 w803) ∧ (OS rBool ([]) w.heap.size X804 w803 4 a12 r8.length c13 r8) ∧ (OS r_simfs_op Ff_2 w.heap.size X804 w803 56 ao26 no27 co28 f_.pending) ∧ (OM r_simfs_file true Ff_2 w.heap.size X804 w803 rofiles24 f_.files) ∧ (Sl rBool X804 w803 aokeep35 cokeep36 f_.keep) ∧ (OM r_simfs_file true Ff_2 w.heap.size X804 w803 rokept22 f798) ∧ (OB Ff_2 w.heap.size X804 w803 bf_1 [(.map (some rokept22)), (.map (some rofiles24)), (.slice ao26 no27 co28), (.int .i64 f_.quota), (.int .i64 f_.now), (.int .i64 f_.inodes), (.int .i64 f_.ops_), (.bool f_.off), (.bool f_.armed), (.int .i64 f_.left), (.slice aokeep35 f_.keep.length cokeep36)] 50) ∧ (k801 f798)) (fun Kj805 hJ806 => ?_) ?_
    ·
      refine wp_block ?_
      refine seq_ (fun _ K816 => ?_)
      refine reg_ ?_
      refine sq (o_pv (.int .i64 s347) rfl (by kernel_rfl) ?_)
      obtain ⟨h817, hp⟩ := hp
      obtain ⟨b818, o819, cs820, ha821, nx822, lt823, ok824, hc825⟩ := OS.atX Oo664 s347 h817
      obtain ⟨aefileb832, cefileb833, rfl, rekind826, zepath827, zeto_828, refilemode829, refiletime830, refileinode831, hefileb834⟩ := r_simfs_op_open ok824
      replace hp := hp rekind826
      replace hp := hp zepath827
      replace hp := hp zeto_828
      replace hp := hp refilemode829
      replace hp := hp refiletime830
      replace hp := hp refileinode831
      replace hp := hp (Sl.len hefileb834)
      refine sq (o_pv (.pointer (some ⟨b818, o819 + s347.toNat * 7, none⟩)) rfl (x_ixA (m := no27) (c := co28) (k := .i64) (i := s347) Tryd.underlying48 Tryd.sizeOf56 (by rw [← ha821]; kernel_rfl) (by kernel_rfl) ⟨h817.1, by rw [Oo664.1]; exact h817.2⟩) ?_)
      refine sq (o_pv (.agg #[(.int .i64 ((lget f_.pending s347).kind)), (.string ((lget f_.pending s347).path)), (.string ((lget f_.pending s347).to_)), (.int .i64 (((lget f_.pending s347).file).mode)), (.int .i64 (((lget f_.pending s347).file).time)), (.int .i64 (((lget f_.pending s347).file).inode)), (.slice aefileb832 ((((lget f_.pending s347).file).b).length) cefileb833)]) rfl (x_loadN [(.int .i64 ((lget f_.pending s347).kind)), (.string ((lget f_.pending s347).path)), (.string ((lget f_.pending s347).to_)), (.int .i64 (((lget f_.pending s347).file).mode)), (.int .i64 (((lget f_.pending s347).file).time)), (.int .i64 (((lget f_.pending s347).file).inode)), (.slice aefileb832 ((((lget f_.pending s347).file).b).length) cefileb833)] (by kernel_rfl) Tryd.isAgg56 Tryd.sizeOf56 hc825) ?_)
      refine sq (o_newX [(.int .i64 (0 : Int)), (.string (ByteArray.mk #[])), (.string (ByteArray.mk #[])), (.int .i64 (0 : Int)), (.int .i64 (0 : Int)), (.int .i64 (0 : Int)), (.slice none 0 0)] 56 (X := X649) (B := w.heap.size) E659.size rfl (by kernel_rfl) ?_)
      intro b835 w836 X837 s838 k839 n840
      have p841 := n840 _ (OS.old O663)
      have p842 := n840 _ (OS.old Oo664)
      have p843 := n840 _ (OM.old mofiles665)
      have p844 := n840 _ (OM.old m350)
      have p845 := n840 _ (OB.old k351)
      refine sq (o_pv (.int .i64 s347) rfl (by kernel_rfl) ?_)
      have O846 := (OS.step0 O663 s838)
      have Oo847 := (OS.step0 Oo664 s838)
      have mofiles848 := (OM.step0 mofiles665 s838)
      have m849 := (OM.step0 m350 s838)
      have k850 := (OB.step0 k351 s838)
      have E851 := (Evo.then0 E659 (Step.evo s838))
      refine sq (o_stB (o := 0) (v := (.agg #[(.int .i64 ((lget f_.pending s347).kind)), (.string ((lget f_.pending s347).path)), (.string ((lget f_.pending s347).to_)), (.int .i64 (((lget f_.pending s347).file).mode)), (.int .i64 (((lget f_.pending s347).file).time)), (.int .i64 (((lget f_.pending s347).file).inode)), (.slice aefileb832 ((((lget f_.pending s347).file).b).length) cefileb833)])) [(.int .i64 ((lget f_.pending s347).kind)), (.string ((lget f_.pending s347).path)), (.string ((lget f_.pending s347).to_)), (.int .i64 (((lget f_.pending s347).file).mode)), (.int .i64 (((lget f_.pending s347).file).time)), (.int .i64 (((lget f_.pending s347).file).inode)), (.slice aefileb832 ((((lget f_.pending s347).file).b).length) cefileb833)] rfl k839 (by kernel_rfl) (by kernel_rfl) Tryd.sizeOf56 rfl rfl rfl ?_)
      intro w852 s853 k854
      refine nil_ ?_
      refine then_normal (K816 _ _ _ _ ?_)
      refine seq_ (fun _ K855 => ?_)
      have E875 := (Evo.thenW E851 (Step.evo s853) (Wr.of k839.2.2))
      have hXo876 := (Old.step (Old.step hXo660 s838) s853)
      have hS877 := (Sub.trans (Sub.trans hS661 (Step.up s838)) (Step.up s853))
      have hN878 := (News.step (News.step hN662 s838) s853)
      have O879 := (OS.step O846 s853 p841)
      have Oo880 := (OS.step Oo847 s853 p842)
      have mofiles881 := (OM.step mofiles848 s853 p843)
      have hokeep882 := (Sl.step (Sl.step hokeep666 s838) s853)
      have m883 := (OM.step m849 s853 p844)
      have k884 := (OB.step k850 s853 p845)
      have hefileb885 := (Sl.step (Sl.step hefileb834 s838) s853)
      obtain ⟨k868, hk869, hp⟩ := hp
      refine ground_ ?_
      refine join_ 268173312 (fun lq w870 => ∃ (X871 : List Nat) (s867 : Bool), (lq = [(27, (.bool s867))]) ∧ (Evo Ff_2 w w870) ∧ (Old X871 w870) ∧ (Sub X X871) ∧ (News X w X871 w870) ∧ (OS rBool ([]) w.heap.size X871 w870 4 a12 r8.length c13 r8) ∧ (OS r_simfs_op Ff_2 w.heap.size X871 w870 56 ao26 no27 co28 f_.pending) ∧ (OM r_simfs_file true Ff_2 w.heap.size X871 w870 rokept22 f349) ∧ (OM r_simfs_file true Ff_2 w.heap.size X871 w870 rofiles24 f_.files) ∧ (Sl rBool X871 w870 aokeep35 cokeep36 f_.keep) ∧ (OB Ff_2 w.heap.size X871 w870 bf_1 [(.map (some rokept22)), (.map (some rofiles24)), (.slice ao26 no27 co28), (.int .i64 f_.quota), (.int .i64 f_.now), (.int .i64 f_.inodes), (.int .i64 f_.ops_), (.bool f_.off), (.bool f_.armed), (.int .i64 f_.left), (.slice aokeep35 f_.keep.length cokeep36)] 50) ∧ (Sl (rInt .u8) X871 w870 aefileb832 cefileb833 (((lget f_.pending s347).file).b)) ∧ (OB ([]) w.heap.size X871 w870 b835 [(.int .i64 ((lget f_.pending s347).kind)), (.string ((lget f_.pending s347).path)), (.string ((lget f_.pending s347).to_)), (.int .i64 (((lget f_.pending s347).file).mode)), (.int .i64 (((lget f_.pending s347).file).time)), (.int .i64 (((lget f_.pending s347).file).inode)), (.slice aefileb832 ((((lget f_.pending s347).file).b).length) cefileb833)] 56) ∧ (k868 s867)) (fun Kj872 hJ873 => ?_) ?_
      ·
        refine reg_ ?_
        refine sq (o_pv (.int .i64 s347) rfl (by kernel_rfl) ?_)
        refine sq (o_pv (.slice a12 r8.length c13) rfl (by kernel_rfl) ?_)
        refine sq (o_pv (.int .i64 (r8.length : Int)) rfl (by kernel_rfl) ?_)
        by_cases h898 : s347 < (r8.length : Int)
        ·
          replace hp := hp.1 h898
          refine sq (o_pv (.bool true) rfl (x_dt (p := s347 < (r8.length : Int)) (by kernel_rfl) h898) ?_)
          refine sq (o_pv (.bool true) rfl (by kernel_rfl) ?_)
          refine sq (o_pv (.slice a12 r8.length c13) (by kernel_rfl) (by kernel_rfl) ?_)
          refine sq (o_pv (.int .i64 s347) (by kernel_rfl) (by kernel_rfl) ?_)
          obtain ⟨h899, hp⟩ := hp
          obtain ⟨b900, o901, cs902, ha903, nx904, lt905, ok906, hc907⟩ := Sl.atI (OS.rd O879) s347 h899
          obtain rfl := ok906
          refine sq (o_pv (.pointer (some ⟨b900, o901 + s347.toNat * 1, none⟩)) (by kernel_rfl) (x_ixA (m := r8.length) (c := c13) (k := .i64) (i := s347) Tryd.underlying34 Tryd.sizeOf4 (by rw [← ha903]; kernel_rfl) (by kernel_rfl) ⟨h899.1, by rw [O879.1]; exact h899.2⟩) ?_)
          refine sq (o_pv (.bool (lget r8 s347)) (by kernel_rfl) (x_load1 (by kernel_rfl) Tryd.isAgg4 (hc907 0 _ rfl)) ?_)
          refine sq (o_pv (.bool (lget r8 s347)) rfl (by kernel_rfl) ?_)
          refine nil_ ?_
          refine then_normal (hJ873 _ _ _ ⟨[(27, (.bool (lget r8 s347)))], fit_mk (fun _ _ => rfl) (by kernel_rfl) (vs_cons (by kernel_rfl) vs_nil), ?_⟩)
          exact ⟨X837, (lget r8 s347), rfl, E875, hXo876, hS877, hN878, O879, Oo880, m883, mofiles881, hokeep882, k884, hefileb885, k854, hp⟩
        ·
          replace hp := hp.2 h898
          refine sq (o_pv (.bool false) rfl (x_df (p := s347 < (r8.length : Int)) (by kernel_rfl) h898) ?_)
          refine sq (o_pv (.bool false) rfl (by kernel_rfl) ?_)
          refine sq (o_not (by kernel_rfl) ?_)
          refine sq (o_not (by kernel_rfl) ?_)
          refine sq (o_not (by kernel_rfl) ?_)
          refine sq (o_not (by kernel_rfl) ?_)
          refine sq (o_pv (.bool false) rfl (by kernel_rfl) ?_)
          refine nil_ ?_
          refine then_normal (hJ873 _ _ _ ⟨[(27, (.bool false))], fit_mk (fun _ _ => rfl) (by kernel_rfl) (vs_cons (by kernel_rfl) vs_nil), ?_⟩)
          exact ⟨X837, false, rfl, E875, hXo876, hS877, hN878, O879, Oo880, m883, mofiles881, hokeep882, k884, hefileb885, k854, hp⟩
      ·
        rintro _ w870 g908 ⟨X871, s867, rfl, E886, hXo887, hS888, hN889, O890, Oo891, m892, mofiles893, hokeep894, k895, hefileb896, k897, hv874⟩
        replace hp := hk869 s867 hv874
        refine then_normal (K855 _ _ _ _ ?_)
        refine cond_b s867 (by kernel_rfl) (fun h909 => ?_) (fun h909 => ?_)
        ·
          replace hp := hp.1 h909
          have hFX916 : Sub [rokept22] X871 := (OM.mem m892)
          refine reg_drawn (RB w870.heap.size [rokept22]) 6 (by kernel_rfl) (fun w910 hd911 => ?_)
          have e912 := Evo.of_drew hd911
          have z913 : w910.heap.size = w870.heap.size := by rw [hd911]
          clear hd911
          have s915 := Step.of0 X871 e912
          have er914 := RB.refl w870.heap.size [rokept22] w910
          have E917 := (Evo.then0 E886 (Step.evo s915))
          have hXo918 := (Old.step hXo887 s915)
          have hS919 := (Sub.trans hS888 (Step.up s915))
          have hN920 := (News.step hN889 s915)
          have O921 := (OS.step0 O890 s915)
          have Oo922 := (OS.step0 Oo891 s915)
          have m923 := (OM.step0 m892 s915)
          have mofiles924 := (OM.step0 mofiles893 s915)
          have hokeep925 := (Sl.step hokeep894 s915)
          have k926 := (OB.step0 k895 s915)
          have hefileb927 := (Sl.step hefileb896 s915)
          have k928 := (OB.step0 k897 s915)
          refine r_take 0 (.pointer (some ⟨bf_1, 0, none⟩)) (RB.pre _ _) rfl (by kernel_rfl) (fun _ _ _ h => hQ.panic _ _ _ _ _ h) (.inl ⟨rfl, fun wq hq => (by kernel_rfl)⟩) ?_
          refine r_take 1 (.pointer (some ⟨bf_1, 0, none⟩)) (RB.pre _ _) rfl (by kernel_rfl) (fun _ _ _ h => hQ.panic _ _ _ _ _ h) (.inl ⟨rfl, fun wq hq => (by kernel_rfl)⟩) ?_
          refine r_take 2 (.pointer (some ⟨bf_1, 0, none⟩)) (RB.pre _ _) rfl (by kernel_rfl) (fun _ _ _ h => hQ.panic _ _ _ _ _ h) (.inl ⟨rfl, fun wq hq => (by kernel_rfl)⟩) ?_
          refine r_take 3 (.map (some rokept22)) (RB.pre _ _) rfl (by kernel_rfl) (fun _ _ _ h => hQ.panic _ _ _ _ _ h) (.inl ⟨rfl, fun wq hq => (x_load1 (by kernel_rfl) Tryd.isAgg47 ((OB.step k926 (stepR (RB.trans er914 hq) z913 hFX916) p43).2.1.cell' 0 rfl))⟩) ?_
          refine r_take 4 (.agg #[(.int .i64 ((lget f_.pending s347).kind)), (.string ((lget f_.pending s347).path)), (.string ((lget f_.pending s347).to_)), (.int .i64 (((lget f_.pending s347).file).mode)), (.int .i64 (((lget f_.pending s347).file).time)), (.int .i64 (((lget f_.pending s347).file).inode)), (.slice aefileb832 ((((lget f_.pending s347).file).b).length) cefileb833)]) (RB.pre _ _) rfl (by kernel_rfl) (fun _ _ _ h => hQ.panic _ _ _ _ _ h) (.inl ⟨rfl, fun wq hq => (x_loadN [(.int .i64 ((lget f_.pending s347).kind)), (.string ((lget f_.pending s347).path)), (.string ((lget f_.pending s347).to_)), (.int .i64 (((lget f_.pending s347).file).mode)), (.int .i64 (((lget f_.pending s347).file).time)), (.int .i64 (((lget f_.pending s347).file).inode)), (.slice aefileb832 ((((lget f_.pending s347).file).b).length) cefileb833)] (by kernel_rfl) Tryd.isAgg56 Tryd.sizeOf56 ((OB.step k928 (stepR (RB.trans er914 hq) z913 hFX916) (Ap.symm p844)).2.1.cells' 0 rfl))⟩) ?_
          refine r_ready [5] (by kernel_rfl) rfl (all_cons ⟨_, _, _, _, _, _, rfl, ?_⟩ all_nil)
          refine o_call 32 #[(.map (some rokept22)), (.agg #[(.int .i64 ((lget f_.pending s347).kind)), (.string ((lget f_.pending s347).path)), (.string ((lget f_.pending s347).to_)), (.int .i64 (((lget f_.pending s347).file).mode)), (.int .i64 (((lget f_.pending s347).file).time)), (.int .i64 (((lget f_.pending s347).file).inode)), (.slice aefileb832 (((lget f_.pending s347).file).b).length cefileb833)])] rfl (x_call Tryd.call32 (by rw []; kernel_rfl)) (simfs_apply_w (X := X871) (l := f349) (o := (S_simfs_op.mk ((lget f_.pending s347).kind) ((lget f_.pending s347).path) ((lget f_.pending s347).to_) ((lget f_.pending s347).file))) hXo918 (OM.re m923 (Wr.self _ _ (Sub.refl _))) rekind826 zepath827 zeto_828 refilemode829 refiletime830 refileinode831 hefileb927 hp) ?_
          rintro _ w931 ⟨l929, r930, hp, X932, s933, rfl, m934⟩
          have rm := RB.mono (F' := [rokept22]) (Step.evo s933) (Nat.le_trans (Nat.le_of_eq z913.symm) (RB.size er914)) (Wr.self _ _ (Sub.refl _))
          have er935 := RB.trans er914 rm
          refine ⟨fun _ => rm, ?_⟩
          have wn936 : Wr [rokept22] w870.heap.size [rokept22] := Wr.trans m934.wr (Wr.self _ _ (Sub.refl _)) (Nat.le_trans (Nat.le_of_eq z913.symm) (RB.size er914))
          have m937 := OM.re m934 (Wr.trans m934.wr m923.wr E917.size)
          have p938 := Ap.grow m934.wr p50 (OS.old O921) (Nat.le_refl _)
          have p939 := Ap.grow m934.wr (Ap.symm p47) (OS.old Oo922) (Nat.le_refl _)
          have p940 := Ap.grow m934.wr (Ap.symm p46) (OM.old mofiles924) (Nat.le_refl _)
          have p941 := Ap.grow m934.wr p43 (OB.old k926) (Nat.le_refl _)
          have p942 := Ap.grow m934.wr (Ap.symm p844) (OB.old k928) (Nat.le_refl _)
          refine r_done (by kernel_rfl) ?_
          refine blk_normal ?_
          have E943 := (Evo.thenW E917 (Step.evo s933) m923.wr)
          have hXo944 := (Old.step hXo918 s933)
          have hS945 := (Sub.trans hS919 (Step.up s933))
          have hN946 := (News.step hN920 s933)
          have O947 := (OS.step O921 s933 p938)
          have Oo948 := (OS.step Oo922 s933 p939)
          have mofiles949 := (OM.step mofiles924 s933 p940)
          have hokeep950 := (Sl.step hokeep925 s933)
          have k951 := (OB.step k926 s933 p941)
          refine then_normal (hJ806 _ _ _ ⟨[], fit_mk (AgB.nest (AgB.look (fun _ _ => rfl) (by kernel_rfl)) (by kernel_rfl) (by kernel_rfl)) (by kernel_rfl) vs_nil, ?_⟩)
          exact ⟨X932, l929, rfl, E943, hXo944, hS945, hN946, O947, Oo948, mofiles949, hokeep950, m937, k951, hp⟩
        ·
          replace hp := hp.2 h909
          refine wp_skip ?_
          refine blk_normal ?_
          refine then_normal (hJ806 _ _ _ ⟨[], fit_mk (AgB.nest (AgB.look (fun _ _ => rfl) (by kernel_rfl)) (by kernel_rfl) (by kernel_rfl)) (by kernel_rfl) vs_nil, ?_⟩)
          exact ⟨X871, f349, rfl, E886, hXo887, hS888, hN889, O890, Oo891, mofiles893, hokeep894, m892, k895, hp⟩
    ·
      rintro _ w803 g952 ⟨X804, f798, rfl, E808, hXo809, hS810, hN811, O812, Oo813, mofiles814, hokeep815, m799, k800, hv807⟩
      replace hp := hk802 f798 hv807
      refine then_normal (K670 _ _ _ _ ?_)
      refine reg_ ?_
      obtain ⟨h953, hp⟩ := hp
      refine sq (o_pv (.int .i64 (s347 + (1 : Int))) rfl (x_add2 (k := .i64) (a := s347) (b := (1 : Int)) (s347 + (1 : Int)) (by kernel_rfl) (by kernel_rfl) (wrap_inR h953)) ?_)
      refine sq (o_pv (.int .i64 (s347 + (1 : Int))) rfl (by kernel_rfl) ?_)
      refine nil_ ?_
      refine then_normal (hA653 _ _ _ ⟨_, [(13, (.int .i64 (s347 + (1 : Int))))], hp.2, fit_mk (AgB.nest (AgB.look (AgB.mix _ _ _) (by kernel_rfl)) (by kernel_rfl) (by kernel_rfl)) (by kernel_rfl) (vs_cons (by kernel_rfl) vs_nil), ?_⟩)
      exact ⟨X804, (s347 + (1 : Int)), f798, rfl, rfl, E808, hXo809, hS810, hN811, O812, Oo813, mofiles814, hokeep815, m799, k800, h953, hp.1⟩
  ·
    replace hp := hp.2 h669
    refine wp_exit ?_
    refine then_exit ?_
    refine then_exit ?_
    refine blk_exit ?_
    refine then_normal (K19 _ _ _ _ ?_)
    refine seq_ (fun _ K954 => ?_)
    refine reg_ ?_
    refine sq (o_pv (.pointer (some ⟨bf_1, 0, none⟩)) rfl (by kernel_rfl) ?_)
    refine sq (o_pv (.pointer (some ⟨bf_1, 0, none⟩)) rfl (by kernel_rfl) ?_)
    refine sq (o_pv (.pointer (some ⟨bf_1, 0, none⟩)) rfl (by kernel_rfl) ?_)
    refine sq (o_pv (.pointer (some ⟨bf_1, 0, none⟩)) rfl (by kernel_rfl) ?_)
    refine sq (o_pv (.pointer (some ⟨bf_1, 0, none⟩)) rfl (by kernel_rfl) ?_)
    refine sq (o_pv (.map (some rokept22)) rfl (x_load1 (by kernel_rfl) Tryd.isAgg47 (k351.2.1.cell' 0 rfl)) ?_)
    refine sq (o_call 33 #[(.map (some rokept22))] rfl (x_call Tryd.call33 (by kernel_rfl)) (maps_Clone_map_string_simfs_file_string_simfs_file_w (X := X649) (m := f349) hXo660 (OM.re m350 (Wr.self _ _ (Sub.refl _))) hp) ?_)
    rintro _ w957 ⟨m955, r956, hp, X958, rr961, s959, rfl, m960, mr962, p963⟩
    have m964 := OM.re m960 (Wr.trans m960.wr m350.wr E659.size)
    have p965 := Ap.grow m960.wr p50 (OS.old O663) (Nat.le_refl _)
    have p966 := Ap.grow m960.wr (Ap.symm p47) (OS.old Oo664) (Nat.le_refl _)
    have p967 := Ap.grow m960.wr (Ap.symm p46) (OM.old mofiles665) (Nat.le_refl _)
    have p968 := Ap.grow m960.wr p43 (OB.old k351) (Nat.le_refl _)
    have m969 := OM.re mr962 (Wr.trans mr962.wr (Wr.nil [] _) E659.size)
    have p970 := Ap.grow mr962.wr (Ap.nil_r _) (OS.old O663) (Nat.le_refl _)
    have p971 := Ap.grow mr962.wr (Ap.nil_r _) (OS.old Oo664) (Nat.le_refl _)
    have p972 := Ap.grow mr962.wr (Ap.nil_r _) (OM.old mofiles665) (Nat.le_refl _)
    have p973 := Ap.grow mr962.wr (Ap.nil_r _) (OB.old k351) (Nat.le_refl _)
    refine sq (o_pv (.pointer (some ⟨bf_1, 0, none⟩)) rfl (by kernel_rfl) ?_)
    refine sq (o_pv (.pointer (some ⟨bf_1, 1, none⟩)) rfl (by kernel_rfl) ?_)
    have O974 := (OS.step O663 s959 p965)
    have Oo975 := (OS.step Oo664 s959 p966)
    have mofiles976 := (OM.step mofiles665 s959 p967)
    have k977 := (OB.step k351 s959 p968)
    have E978 := (Evo.thenW E659 (Step.evo s959) m350.wr)
    refine sq (o_stB (o := 1) (v := (.map (some rr961))) [(.map (some rokept22)), (.map (some rr961)), (.slice ao26 no27 co28), (.int .i64 f_.quota), (.int .i64 f_.now), (.int .i64 f_.inodes), (.int .i64 f_.ops_), (.bool f_.off), (.bool f_.armed), (.int .i64 f_.left), (.slice aokeep35 f_.keep.length cokeep36)] rfl k977 (by kernel_rfl) (by kernel_rfl) Tryd.sizeOf47 rfl rfl rfl ?_)
    intro w979 s980 k981
    refine sq (o_pv (.pointer (some ⟨bf_1, 0, none⟩)) rfl (by kernel_rfl) ?_)
    refine sq (o_pv (.pointer (some ⟨bf_1, 2, none⟩)) rfl (by kernel_rfl) ?_)
    have O982 := (OS.step O974 s980 p49)
    have Oo983 := (OS.step Oo975 s980 (Ap.symm p45))
    have mofiles984 := (OM.step mofiles976 s980 (Ap.symm p44))
    have m985 := (OM.step m964 s980 (Ap.symm p968))
    have m986 := (OM.step m969 s980 (Ap.symm p973))
    have E987 := (Evo.thenW E978 (Step.evo s980) k977.2.2)
    refine sq (o_stB (o := 2) (v := (.slice none 0 0)) [(.map (some rokept22)), (.map (some rr961)), (.slice none 0 0), (.int .i64 f_.quota), (.int .i64 f_.now), (.int .i64 f_.inodes), (.int .i64 f_.ops_), (.bool f_.off), (.bool f_.armed), (.int .i64 f_.left), (.slice aokeep35 f_.keep.length cokeep36)] rfl k981 (by kernel_rfl) (by kernel_rfl) Tryd.sizeOf48 rfl rfl rfl ?_)
    intro w988 s989 k990
    refine nil_ ?_
    refine then_normal (K954 _ _ _ _ ?_)
    refine reg_ ?_
    refine sq (o_pv (.pointer (some ⟨bf_1, 0, none⟩)) rfl (by kernel_rfl) ?_)
    refine sq (o_pv (.pointer (some ⟨bf_1, 0, none⟩)) rfl (by kernel_rfl) ?_)
    refine sq (o_pv (.pointer (some ⟨bf_1, 0, none⟩)) rfl (by kernel_rfl) ?_)
    refine sq (o_pv (.pointer (some ⟨bf_1, 0, none⟩)) rfl (by kernel_rfl) ?_)
    refine sq (o_pv (.pointer (some ⟨bf_1, 7, none⟩)) rfl (by kernel_rfl) ?_)
    have O991 := (OS.step O982 s989 p49)
    have Oo992 := (OS.step Oo983 s989 (Ap.symm p45))
    have mofiles993 := (OM.step mofiles984 s989 (Ap.symm p44))
    have m994 := (OM.step m985 s989 (Ap.symm p968))
    have m995 := (OM.step m986 s989 (Ap.symm p973))
    have E996 := (Evo.thenW E987 (Step.evo s989) k981.2.2)
    refine sq (o_stB (o := 7) (v := (.bool true)) [(.map (some rokept22)), (.map (some rr961)), (.slice none 0 0), (.int .i64 f_.quota), (.int .i64 f_.now), (.int .i64 f_.inodes), (.int .i64 f_.ops_), (.bool true), (.bool f_.armed), (.int .i64 f_.left), (.slice aokeep35 f_.keep.length cokeep36)] rfl k990 (by kernel_rfl) (by kernel_rfl) Tryd.sizeOf4 rfl rfl rfl ?_)
    intro w997 s998 k999
    refine sq (o_pv (.pointer (some ⟨bf_1, 0, none⟩)) rfl (by kernel_rfl) ?_)
    refine sq (o_pv (.pointer (some ⟨bf_1, 8, none⟩)) rfl (by kernel_rfl) ?_)
    have O1000 := (OS.step O991 s998 p49)
    have Oo1001 := (OS.step Oo992 s998 (Ap.symm p45))
    have mofiles1002 := (OM.step mofiles993 s998 (Ap.symm p44))
    have m1003 := (OM.step m994 s998 (Ap.symm p968))
    have m1004 := (OM.step m995 s998 (Ap.symm p973))
    have E1005 := (Evo.thenW E996 (Step.evo s998) k990.2.2)
    refine sq (o_stB (o := 8) (v := (.bool false)) [(.map (some rokept22)), (.map (some rr961)), (.slice none 0 0), (.int .i64 f_.quota), (.int .i64 f_.now), (.int .i64 f_.inodes), (.int .i64 f_.ops_), (.bool true), (.bool false), (.int .i64 f_.left), (.slice aokeep35 f_.keep.length cokeep36)] rfl k999 (by kernel_rfl) (by kernel_rfl) Tryd.sizeOf4 rfl rfl rfl ?_)
    intro w1006 s1007 k1008
    refine sq (o_pv (.pointer (some ⟨bf_1, 0, none⟩)) rfl (by kernel_rfl) ?_)
    refine sq (o_pv (.pointer (some ⟨bf_1, 10, none⟩)) rfl (by kernel_rfl) ?_)
    have O1009 := (OS.step O1000 s1007 p49)
    have Oo1010 := (OS.step Oo1001 s1007 (Ap.symm p45))
    have mofiles1011 := (OM.step mofiles1002 s1007 (Ap.symm p44))
    have m1012 := (OM.step m1003 s1007 (Ap.symm p968))
    have m1013 := (OM.step m1004 s1007 (Ap.symm p973))
    have E1014 := (Evo.thenW E1005 (Step.evo s1007) k999.2.2)
    refine sq (o_stB (o := 10) (v := (.slice none 0 0)) [(.map (some rokept22)), (.map (some rr961)), (.slice none 0 0), (.int .i64 f_.quota), (.int .i64 f_.now), (.int .i64 f_.inodes), (.int .i64 f_.ops_), (.bool true), (.bool false), (.int .i64 f_.left), (.slice none 0 0)] rfl k1008 (by kernel_rfl) (by kernel_rfl) Tryd.sizeOf34 rfl rfl rfl ?_)
    intro w1015 s1016 k1017
    refine nil_ ?_
    have E1018 := (Evo.thenW E1014 (Step.evo s1016) k1008.2.2)
    have hXo1019 := (Old.step (Old.step (Old.step (Old.step (Old.step (Old.step hXo660 s959) s980) s989) s998) s1007) s1016)
    have hS1020 := (Sub.trans (Sub.trans (Sub.trans (Sub.trans (Sub.trans (Sub.trans hS661 (Step.up s959)) (Step.up s980)) (Step.up s989)) (Step.up s998)) (Step.up s1007)) (Step.up s1016))
    have hN1021 := (News.step (News.step (News.step (News.step (News.step (News.step hN662 s959) s980) s989) s998) s1007) s1016)
    have O1022 := (OS.step O1009 s1016 p49)
    have Oo1023 := (OS.step Oo1010 s1016 (Ap.symm p45))
    have mofiles1024 := (OM.step mofiles1011 s1016 (Ap.symm p44))
    have hokeep1025 := (Sl.step (Sl.step (Sl.step (Sl.step (Sl.step (Sl.step hokeep666 s959) s980) s989) s998) s1007) s1016)
    have m1026 := (OM.step m1012 s1016 (Ap.symm p968))
    have m1027 := (OM.step m1013 s1016 (Ap.symm p973))
    obtain ⟨F1028, m1029, hs1030⟩ := MO.pack (o_simfs_FS_mk k1017 m1026 (OM.re m1027 (Wr.of m1027.wr)) (OS.nil2 _ _ _ _ _) roquota30 ronow31 roinodes32 roops_33 roleft34 (Sl.nil) rfl p968 p973 (Ap.nil_r _) p963 (Ap.nil_r _) (Ap.nil_r _))
    have p1031 := hs1030 _ (Ap.cons p49 (Ap.app p965 (Ap.app p970 (Ap.app (Ap.nil_r _) (Ap.app (Ap.nil_r _) (Ap.app (Ap.nil_r _) (Ap.app (Ap.nil_r _) (Ap.app (Ap.nil_r _) (Ap.app (Ap.nil_r _) (Ap.app (Ap.nil_r _) (Ap.app (Ap.nil_r _) (Ap.nil_r _))))))))))))
    have p1032 := hs1030 _ (Ap.cons (Ap.symm p45) (Ap.app p966 (Ap.app p971 (Ap.app (Ap.nil_r _) (Ap.app (Ap.nil_r _) (Ap.app (Ap.nil_r _) (Ap.app (Ap.nil_r _) (Ap.app (Ap.nil_r _) (Ap.app (Ap.nil_r _) (Ap.app (Ap.nil_r _) (Ap.app (Ap.nil_r _) (Ap.nil_r _))))))))))))
    have p1033 := hs1030 _ (Ap.cons (Ap.symm p44) (Ap.app p967 (Ap.app p972 (Ap.app (Ap.nil_r _) (Ap.app (Ap.nil_r _) (Ap.app (Ap.nil_r _) (Ap.app (Ap.nil_r _) (Ap.app (Ap.nil_r _) (Ap.app (Ap.nil_r _) (Ap.app (Ap.nil_r _) (Ap.app (Ap.nil_r _) (Ap.nil_r _))))))))))))
    refine end_normal hQ (.tuple #[]) (by kernel_rfl) ?_
    exact ⟨(S_simfs_FS.mk m955 r956 ([] : List S_simfs_op) f_.quota f_.now f_.inodes f_.ops_ true false f_.left ([] : List Bool)), hp, X958, F1028, step_of E1018 hF0 hS1020 hN1021, rfl, m1029⟩

def simfs_FS_trips_p (f_ : S_simfs_FS) (Q : S_simfs_FS → Bool → Prop) : Prop :=
  ((f_.pending.length ≤ 9223372036854775807) → ((inR .i64 f_.quota) → ((inR .i64 f_.now) → ((inR .i64 f_.inodes) → ((inR .i64 f_.ops_) → ((inR .i64 f_.left) → ((f_.keep.length ≤ 9223372036854775807) → ((((!f_.armed) = true) → Q f_ false) ∧ (((!f_.armed) = false) → ((inR .i64 (f_.left - (1 : Int))) ∧ ((((f_.left - (1 : Int)) > (0 : Int)) → Q (S_simfs_FS.mk f_.kept f_.files f_.pending f_.quota f_.now f_.inodes f_.ops_ f_.off f_.armed (f_.left - (1 : Int)) f_.keep) false) ∧ ((¬ ((f_.left - (1 : Int)) > (0 : Int))) → (simfs_FS_Cut_p (S_simfs_FS.mk f_.kept f_.files f_.pending f_.quota f_.now f_.inodes f_.ops_ f_.off f_.armed (f_.left - (1 : Int)) f_.keep) f_.keep (fun (f_71 : S_simfs_FS) => Q f_71 true))))))))))))))
set_option maxRecDepth 20000 in
set_option maxHeartbeats 4000000 in
theorem simfs_FS_trips_w {X : List Nat} {w : World} {f_ : S_simfs_FS} {bf_1 : Nat} {Ff_2 : List Nat} {Q : S_simfs_FS → Bool → Prop} (hX0 : Old X w) (mf_3 : MO o_simfs_FS 50 Ff_2 w.heap.size X w Ff_2 bf_1 f_) (hp : simfs_FS_trips_p f_ Q) :
    Calls Tryd.prog 25 #[(.pointer (some ⟨bf_1, 0, none⟩))] w (Ret fun v w' => ∃ (m0 : S_simfs_FS) (r0 : Bool), Q m0 r0 ∧ ∃ (X' : List Nat) (Fm0 : List Nat), Step X w Ff_2 X' w' ∧ v = (.bool r0) ∧ MO o_simfs_FS 50 Ff_2 w.heap.size X' w' Fm0 bf_1 m0) := by
  have hXo := hX0
  have E0 : Evo Ff_2 w w := RB.refl _ _ _
  have hS : Sub X X := Sub.refl _
  have hN : News X w X w := News.refl _ _
  have hF0 : Sub Ff_2 X := MO.mem mf_3
  unfold simfs_FS_trips_p at hp
  refine enter_ Tryd.func25 rfl 26 [(0, (.pointer (some ⟨bf_1, 0, none⟩)))] (by kernel_rfl) (fun Qe hQ => ?_)
  refine seq_ (fun _ K4 => ?_)
  refine reg_ ?_
  refine sq (o_pv (.bool false) rfl (by kernel_rfl) ?_)
  refine nil_ ?_
  refine then_normal (K4 _ _ _ _ ?_)
  refine seq_ (fun _ K5 => ?_)
  refine seq_ (fun _ K6 => ?_)
  refine reg_ ?_
  refine sq (o_pv (.pointer (some ⟨bf_1, 0, none⟩)) rfl (by kernel_rfl) ?_)
  refine sq (o_pv (.pointer (some ⟨bf_1, 0, none⟩)) rfl (by kernel_rfl) ?_)
  obtain ⟨rokept7, rofiles9, ao11, no12, co13, aokeep20, cokeep21, k23, mokept8, mofiles10, Oo14, roquota15, ronow16, roinodes17, roops_18, roleft19, hokeep22, sb24, sb25, sb26, sb27, p28, p29, p30, p31, p32, p33⟩ := o_simfs_FS_open mf_3
  replace hp := hp (OS.len Oo14)
  replace hp := hp roquota15
  replace hp := hp ronow16
  replace hp := hp roinodes17
  replace hp := hp roops_18
  replace hp := hp roleft19
  replace hp := hp (Sl.len hokeep22)
  refine sq (o_pv (.pointer (some ⟨bf_1, 8, none⟩)) rfl (by kernel_rfl) ?_)
  refine sq (o_pv (.bool f_.armed) rfl (x_load1 (by kernel_rfl) Tryd.isAgg4 (k23.2.1.cell' 8 rfl)) ?_)
  refine sq (o_pv (.bool (!f_.armed)) rfl (by kernel_rfl) ?_)
  refine nil_ ?_
  refine then_normal (K6 _ _ _ _ ?_)
  refine cond_b (!f_.armed) (by kernel_rfl) (fun h34 => ?_) (fun h34 => ?_)
  ·
    replace hp := hp.1 h34
    refine seq_ (fun _ K35 => ?_)
    refine reg_ ?_
    refine sq (o_pv (.bool false) rfl (by kernel_rfl) ?_)
    refine nil_ ?_
    refine then_normal (K35 _ _ _ _ ?_)
    refine wp_ret ?_
    refine then_ret ?_
    obtain ⟨F36, m37, hs38⟩ := MO.pack (o_simfs_FS_mk k23 mokept8 mofiles10 Oo14 roquota15 ronow16 roinodes17 roops_18 roleft19 hokeep22 rfl p28 p29 p30 p31 p32 p33)
    refine end_ret hQ (.bool false) (by kernel_rfl) ?_
    exact ⟨f_, false, hp, X, F36, step_of E0 hF0 hS hN, rfl, m37⟩
  ·
    replace hp := hp.2 h34
    refine wp_skip ?_
    refine then_normal (K5 _ _ _ _ ?_)
    refine seq_ (fun _ K39 => ?_)
    refine reg_ ?_
    refine sq (o_pv (.pointer (some ⟨bf_1, 0, none⟩)) rfl (by kernel_rfl) ?_)
    refine sq (o_pv (.pointer (some ⟨bf_1, 0, none⟩)) rfl (by kernel_rfl) ?_)
    refine sq (o_pv (.pointer (some ⟨bf_1, 9, none⟩)) rfl (by kernel_rfl) ?_)
    refine sq (o_pv (.int .i64 f_.left) rfl (x_load1 (by kernel_rfl) Tryd.isAgg3 (k23.2.1.cell' 9 rfl)) ?_)
    obtain ⟨h40, hp⟩ := hp
    refine sq (o_pv (.int .i64 (f_.left - (1 : Int))) rfl (x_sub2 (k := .i64) (a := f_.left) (b := (1 : Int)) (f_.left - (1 : Int)) (by kernel_rfl) (by kernel_rfl) (wrap_inR h40)) ?_)
    refine sq (o_pv (.pointer (some ⟨bf_1, 0, none⟩)) rfl (by kernel_rfl) ?_)
    refine sq (o_pv (.pointer (some ⟨bf_1, 9, none⟩)) rfl (by kernel_rfl) ?_)
    refine sq (o_stB (o := 9) (v := (.int .i64 (f_.left - (1 : Int)))) [(.map (some rokept7)), (.map (some rofiles9)), (.slice ao11 no12 co13), (.int .i64 f_.quota), (.int .i64 f_.now), (.int .i64 f_.inodes), (.int .i64 f_.ops_), (.bool f_.off), (.bool f_.armed), (.int .i64 (f_.left - (1 : Int))), (.slice aokeep20 f_.keep.length cokeep21)] rfl k23 (by kernel_rfl) (by kernel_rfl) Tryd.sizeOf3 rfl rfl rfl ?_)
    intro w41 s42 k43
    refine nil_ ?_
    refine then_normal (K39 _ _ _ _ ?_)
    refine seq_ (fun _ K44 => ?_)
    refine seq_ (fun _ K45 => ?_)
    refine reg_ ?_
    refine sq (o_pv (.pointer (some ⟨bf_1, 0, none⟩)) rfl (by kernel_rfl) ?_)
    refine sq (o_pv (.pointer (some ⟨bf_1, 0, none⟩)) rfl (by kernel_rfl) ?_)
    refine sq (o_pv (.pointer (some ⟨bf_1, 9, none⟩)) rfl (by kernel_rfl) ?_)
    refine sq (o_pv (.int .i64 (f_.left - (1 : Int))) rfl (x_load1 (by kernel_rfl) Tryd.isAgg3 (k43.2.1.cell' 9 rfl)) ?_)
    refine sq (o_pv (.bool (decide ((f_.left - (1 : Int)) > (0 : Int)))) rfl (by kernel_rfl) ?_)
    refine nil_ ?_
    refine then_normal (K45 _ _ _ _ ?_)
    refine cond_d ((f_.left - (1 : Int)) > (0 : Int)) (by kernel_rfl) (fun h46 => ?_) (fun h46 => ?_)
    ·
      replace hp := hp.1 h46
      refine seq_ (fun _ K47 => ?_)
      refine reg_ ?_
      refine sq (o_pv (.bool false) rfl (by kernel_rfl) ?_)
      refine nil_ ?_
      refine then_normal (K47 _ _ _ _ ?_)
      refine wp_ret ?_
      refine then_ret ?_
      have hXo48 := (Old.step hXo s42)
      have E49 := (Evo.thenW E0 (Step.evo s42) k23.2.2)
      have hS50 := (Sub.trans hS (Step.up s42))
      have hN51 := (News.step hN s42)
      have mokept52 := (OM.step mokept8 s42 (Ap.symm p28))
      have mofiles53 := (OM.step mofiles10 s42 (Ap.symm p29))
      have Oo54 := (OS.step Oo14 s42 (Ap.symm p30))
      have hokeep55 := (Sl.step hokeep22 s42)
      obtain ⟨F56, m57, hs58⟩ := MO.pack (o_simfs_FS_mk k43 mokept52 mofiles53 Oo54 roquota15 ronow16 roinodes17 roops_18 h40 hokeep55 rfl p28 p29 p30 p31 p32 p33)
      refine end_ret hQ (.bool false) (by kernel_rfl) ?_
      exact ⟨(S_simfs_FS.mk f_.kept f_.files f_.pending f_.quota f_.now f_.inodes f_.ops_ f_.off f_.armed (f_.left - (1 : Int)) f_.keep), false, hp, X, F56, step_of E49 hF0 hS50 hN51, rfl, m57⟩
    ·
      replace hp := hp.2 h46
      refine wp_skip ?_
      refine then_normal (K44 _ _ _ _ ?_)
      refine seq_ (fun _ K59 => ?_)
      refine reg_ ?_
      refine sq (o_pv (.pointer (some ⟨bf_1, 0, none⟩)) rfl (by kernel_rfl) ?_)
      refine sq (o_pv (.pointer (some ⟨bf_1, 0, none⟩)) rfl (by kernel_rfl) ?_)
      refine sq (o_pv (.pointer (some ⟨bf_1, 0, none⟩)) rfl (by kernel_rfl) ?_)
      refine sq (o_pv (.pointer (some ⟨bf_1, 10, none⟩)) rfl (by kernel_rfl) ?_)
      refine sq (o_pv (.slice aokeep20 f_.keep.length cokeep21) rfl (x_load1 (by kernel_rfl) Tryd.isAgg34 (k43.2.1.cell' 10 rfl)) ?_)
      have hXo60 := (Old.step hXo s42)
      have E61 := (Evo.thenW E0 (Step.evo s42) k23.2.2)
      have hS62 := (Sub.trans hS (Step.up s42))
      have hN63 := (News.step hN s42)
      have mokept64 := (OM.step mokept8 s42 (Ap.symm p28))
      have mofiles65 := (OM.step mofiles10 s42 (Ap.symm p29))
      have Oo66 := (OS.step Oo14 s42 (Ap.symm p30))
      have hokeep67 := (Sl.step hokeep22 s42)
      obtain ⟨F68, m69, hs70⟩ := MO.pack (o_simfs_FS_mk k43 mokept64 mofiles65 Oo66 roquota15 ronow16 roinodes17 roops_18 h40 hokeep67 rfl p28 p29 p30 p31 p32 p33)
      refine sq (o_call 16 #[(.pointer (some ⟨bf_1, 0, none⟩)), (.slice aokeep20 f_.keep.length cokeep21)] rfl (x_call Tryd.call16 (by kernel_rfl)) (simfs_FS_Cut_w (X := X) (f_ := (S_simfs_FS.mk f_.kept f_.files f_.pending f_.quota f_.now f_.inodes f_.ops_ f_.off f_.armed (f_.left - (1 : Int)) f_.keep)) (keep := f_.keep) hXo60 (MO.re m69 (Wr.self _ _ (Sub.refl _))) hokeep67 hp) ?_)
      rintro _ w72 ⟨f_71, hp, X73, F75, s74, rfl, m76⟩
      have m77 := MO.re m76 (Wr.trans m76.wr m69.wr E61.size)
      refine nil_ ?_
      refine then_normal (K59 _ _ _ _ ?_)
      refine seq_ (fun _ K78 => ?_)
      refine reg_ ?_
      refine sq (o_pv (.bool true) rfl (by kernel_rfl) ?_)
      refine nil_ ?_
      refine then_normal (K78 _ _ _ _ ?_)
      refine wp_ret ?_
      have hXo79 := (Old.step hXo60 s74)
      have E80 := (Evo.thenW E61 (Step.evo s74) m69.wr)
      have hS81 := (Sub.trans hS62 (Step.up s74))
      have hN82 := (News.step hN63 s74)
      have hokeep83 := (Sl.step hokeep67 s74)
      refine end_ret hQ (.bool true) (by kernel_rfl) ?_
      exact ⟨f_71, true, hp, X73, F75, step_of E80 hF0 hS81 hN82, rfl, m77⟩

def slices_Clone_byte_byte_p (s : (List Int)) (Q : (List Int) → Prop) : Prop :=
  ((s.length ≤ 9223372036854775807) → ((s.length * 1 ≤ 140737488355328) ∧ Q s))
set_option maxRecDepth 20000 in
set_option maxHeartbeats 4000000 in
theorem slices_Clone_byte_byte_w {X : List Nat} {w : World} {s : (List Int)} {as1 : Option Addr} {cs2 : Nat} {Q : (List Int) → Prop} (hX0 : Old X w) (hs3 : Sq (rInt .u8) X w as1 cs2 s) (hp : slices_Clone_byte_byte_p s Q) :
    Calls Tryd.prog 36 #[(.slice as1 s.length cs2)] w (Ret fun v w' => ∃ (r0 : (List Int)), Q r0 ∧ Evo [] w w' ∧ ∃ (a0 : Option Addr) (c0 : Nat), v = .slice a0 r0.length c0 ∧ OS (rInt .u8) [] w.heap.size (blkL a0 ++ X) w' 5 a0 r0.length c0 r0) := by
  have hXo := hX0
  have E0 : Evo [] w w := RB.refl _ _ _
  have hS : Sub X X := Sub.refl _
  unfold slices_Clone_byte_byte_p at hp
  refine enter_ Tryd.func36 rfl 8 [(0, (.slice as1 s.length cs2))] (by kernel_rfl) (fun Qe hQ => ?_)
  replace hp := hp (Sq.len hs3)
  refine seq_ (fun _ K4 => ?_)
  refine reg_ ?_
  refine sq (o_pv (.slice none 0 0) rfl (by kernel_rfl) ?_)
  refine nil_ ?_
  refine then_normal (K4 _ _ _ _ ?_)
  refine seq_ (fun _ K5 => ?_)
  refine seq_ (fun _ K6 => ?_)
  refine reg_ ?_
  refine sq (o_pv (.slice as1 s.length cs2) rfl (by kernel_rfl) ?_)
  rcases as1 with _ | ad
  ·
    obtain rfl : s = [] := hs3.2.elim (fun h => h.1) (fun ⟨b, o, xs, h, _⟩ => by cases h)
    replace hp := hp.2
    refine sq (o_pv (.bool true) rfl (by kernel_rfl) ?_)
    refine nil_ ?_
    refine then_normal (K6 _ _ _ _ ?_)
    refine cond_t (by kernel_rfl) ?_
    refine seq_ (fun _ K7 => ?_)
    refine reg_ ?_
    refine sq (o_pv (.slice none 0 0) rfl (by kernel_rfl) ?_)
    refine nil_ ?_
    refine then_normal (K7 _ _ _ _ ?_)
    refine wp_ret ?_
    refine then_ret ?_
    refine end_ret hQ (.slice none 0 0) (by kernel_rfl) ?_
    exact ⟨([] : List Int), hp, E0, none, 0, rfl, (OS.nil _ _ _ _)⟩
  ·
    refine sq (o_pv (.bool false) rfl (by kernel_rfl) ?_)
    refine nil_ ?_
    refine then_normal (K6 _ _ _ _ ?_)
    refine cond_f (by kernel_rfl) ?_
    refine wp_skip ?_
    refine then_normal (K5 _ _ _ _ ?_)
    refine seq_ (fun _ K8 => ?_)
    refine reg_ ?_
    refine sq (o_rowX (R := (rInt .u8)) [] ([] : List Int) 5 0 (X := X) (B := w.heap.size) E0.size rfl (by kernel_rfl) Flat.nil rfl (by decide) ?_)
    intro b9 w10 X11 s12 O13 n14
    refine sq (o_pv (.slice (some ad) s.length cs2) rfl (by kernel_rfl) ?_)
    obtain ⟨h15, hp⟩ := hp
    have hs16 := (Sq.step hs3 s12)
    have E17 := (Evo.then0 E0 (Step.evo s12))
    refine sq (o_appX (R := (rInt .u8)) (X := X11) (B := w.heap.size) (L := ([] : List Int)) (M := s) rfl elT28 rfl E17.size O13 (Sq.src hs16) rfl (by kernel_rfl) (by kernel_rfl) (by simpa using h15) ?_)
    intro a18 n19 c20 w21 X22 s23 O24 gr25
    rw [List.nil_append] at O24
    refine sq (o_pv (.slice a18 n19 c20) rfl (by kernel_rfl) ?_)
    refine nil_ ?_
    refine then_normal (K8 _ _ _ _ ?_)
    refine wp_ret ?_
    have hS26 := (Sub.trans (Sub.trans hS (Step.up s12)) (Step.up s23))
    have E27 := (Evo.thenW E17 (Step.evo s23) O13.2.2)
    refine end_ret hQ (.slice a18 n19 c20) (by kernel_rfl) ?_
    exact ⟨s, hp, E27, a18, c20, (by (rw [show n19 = s.length from O24.1]); first | done | rfl), (OS.give O24 hS26)⟩

def simfs_FS_put_p (f_ : S_simfs_FS) (p : ByteArray) (mode : Int) (b : (List Int)) (Q : S_simfs_FS → S_simfs_op → Prop) : Prop :=
  ((p.size ≤ maxLen) → ((inR .i64 mode) → ((b.length ≤ 9223372036854775807) → ((f_.pending.length ≤ 9223372036854775807) → ((inR .i64 f_.quota) → ((inR .i64 f_.now) → ((inR .i64 f_.inodes) → ((inR .i64 f_.ops_) → ((inR .i64 f_.left) → ((f_.keep.length ≤ 9223372036854775807) → ((inR .i64 ((mgetD f_.files p).mode)) → ((inR .i64 ((mgetD f_.files p).time)) → ((inR .i64 ((mgetD f_.files p).inode)) → ((((mgetD f_.files p).b).length ≤ 9223372036854775807) → (∃ k111 : Int → Int → Prop, (∀ (f105 : Int) (f108 : Int), k111 f105 f108 → (inR .i64 f105) → (inR .i64 f108) → (slices_Clone_byte_byte_p b (fun (r189 : (List Int)) => ((r189.length ≤ 9223372036854775807) → Q (S_simfs_FS.mk f_.kept f_.files f_.pending f_.quota f_.now f105 f_.ops_ f_.off f_.armed f_.left f_.keep) (S_simfs_op.mk (1 : Int) p (ByteArray.mk #[]) (S_simfs_file.mk mode f_.now f108 r189)))))) ∧ ((((!(mhas f_.files p)) = true) → ((inR .i64 (f_.inodes + (1 : Int))) ∧ (k111 (f_.inodes + (1 : Int)) (f_.inodes + (1 : Int))))) ∧ (((!(mhas f_.files p)) = false) → (k111 f_.inodes ((mgetD f_.files p).inode)))))))))))))))))))
set_option maxRecDepth 20000 in
set_option maxHeartbeats 4000000 in
theorem simfs_FS_put_w {X : List Nat} {w : World} {f_ : S_simfs_FS} {p : ByteArray} {mode : Int} {b : (List Int)} {bf_1 : Nat} {Ff_2 : List Nat} {ab6 : Option Addr} {cb7 : Nat} {Q : S_simfs_FS → S_simfs_op → Prop} (hX0 : Old X w) (mf_3 : MO o_simfs_FS 50 Ff_2 w.heap.size X w Ff_2 bf_1 f_) (zp4 : p.size ≤ maxLen) (rmode5 : inR .i64 mode) (hb8 : Sl (rInt .u8) X w ab6 cb7 b) (hp : simfs_FS_put_p f_ p mode b Q) :
    Calls Tryd.prog 27 #[(.pointer (some ⟨bf_1, 0, none⟩)), (.string p), (.int .i64 mode), (.slice ab6 b.length cb7)] w (Ret fun v w' => ∃ (m0 : S_simfs_FS) (r0 : S_simfs_op), Q m0 r0 ∧ ∃ (X' : List Nat) (Fm0 : List Nat) (aq0fileb7 : Option Addr) (cq0fileb8 : Nat), Step X w Ff_2 X' w' ∧ v = (.agg #[(.int .i64 r0.kind), (.string r0.path), (.string r0.to_), (.int .i64 r0.file.mode), (.int .i64 r0.file.time), (.int .i64 r0.file.inode), (.slice aq0fileb7 r0.file.b.length cq0fileb8)]) ∧ MO o_simfs_FS 50 Ff_2 w.heap.size X' w' Fm0 bf_1 m0 ∧ inR .i64 r0.kind ∧ r0.path.size ≤ maxLen ∧ r0.to_.size ≤ maxLen ∧ inR .i64 r0.file.mode ∧ inR .i64 r0.file.time ∧ inR .i64 r0.file.inode ∧ Sl (rInt .u8) X' w' aq0fileb7 cq0fileb8 r0.file.b ∧ Pin w w' bf_1 1) := by
  have hXo := hX0
  have E0 : Evo Ff_2 w w := RB.refl _ _ _
  have hS : Sub X X := Sub.refl _
  have hN : News X w X w := News.refl _ _
  have hF0 : Sub Ff_2 X := MO.mem mf_3
  unfold simfs_FS_put_p at hp
  refine enter_ Tryd.func27 rfl 46 [(0, (.pointer (some ⟨bf_1, 0, none⟩))), (1, (.string p)), (2, (.int .i64 mode)), (3, (.slice ab6 b.length cb7))] (by kernel_rfl) (fun Qe hQ => ?_)
  replace hp := hp zp4
  replace hp := hp rmode5
  replace hp := hp (Sl.len hb8)
  obtain ⟨rokept9, rofiles11, ao13, no14, co15, aokeep22, cokeep23, k25, mokept10, mofiles12, Oo16, roquota17, ronow18, roinodes19, roops_20, roleft21, hokeep24, sb26, sb27, sb28, sb29, p30, p31, p32, p33, p34, p35⟩ := o_simfs_FS_open mf_3
  replace hp := hp (OS.len Oo16)
  replace hp := hp roquota17
  replace hp := hp ronow18
  replace hp := hp roinodes19
  replace hp := hp roops_20
  replace hp := hp roleft21
  replace hp := hp (Sl.len hokeep24)
  refine seq_ (fun _ K36 => ?_)
  refine reg_ ?_
  refine sq (o_newX [(.int .i64 (0 : Int)), (.string (ByteArray.mk #[])), (.string (ByteArray.mk #[])), (.int .i64 (0 : Int)), (.int .i64 (0 : Int)), (.int .i64 (0 : Int)), (.slice none 0 0)] 56 (X := X) (B := w.heap.size) E0.size rfl (by kernel_rfl) ?_)
  intro b37 w38 X39 s40 k41 n42
  have p43 := n42 _ (OB.old k25)
  have p44 := n42 _ (OM.old mokept10)
  have p45 := n42 _ (OM.old mofiles12)
  have p46 := n42 _ (OS.old Oo16)
  refine nil_ ?_
  refine then_normal (K36 _ _ _ _ ?_)
  refine seq_ (fun _ K47 => ?_)
  refine reg_ ?_
  refine sq (o_pv (.pointer (some ⟨bf_1, 0, none⟩)) rfl (by kernel_rfl) ?_)
  refine sq (o_pv (.pointer (some ⟨bf_1, 0, none⟩)) rfl (by kernel_rfl) ?_)
  refine sq (o_pv (.pointer (some ⟨bf_1, 1, none⟩)) rfl (by kernel_rfl) ?_)
  have k48 := (OB.step0 k25 s40)
  refine sq (o_pv (.map (some rofiles11)) rfl (x_load1 (by kernel_rfl) Tryd.isAgg47 (k48.2.1.cell' 1 rfl)) ?_)
  refine sq (o_pv (.string p) rfl (by kernel_rfl) ?_)
  have mofiles49 := (OM.step0 mofiles12 s40)
  obtain ⟨cs50, ok51, lk52⟩ := MapAt.look mofiles49.2.1 p [(.int .i64 (0 : Int)), (.int .i64 (0 : Int)), (.int .i64 (0 : Int)), (.slice none 0 0)] (fun _ _ => (r_simfs_file_mk (by decide : inR .i64 (0 : Int)) (by decide : inR .i64 (0 : Int)) (by decide : inR .i64 (0 : Int)) (Sl.nil) rfl))
  obtain ⟨alb56, clb57, rfl, rlmode53, rltime54, rlinode55, hlb58⟩ := r_simfs_file_open ok51
  replace hp := hp rlmode53
  replace hp := hp rltime54
  replace hp := hp rlinode55
  replace hp := hp (Sl.len hlb58)
  refine sq (o_pv (.tuple #[(.agg #[(.int .i64 ((mgetD f_.files p).mode)), (.int .i64 ((mgetD f_.files p).time)), (.int .i64 ((mgetD f_.files p).inode)), (.slice alb56 (((mgetD f_.files p).b).length) clb57)]), (.bool (mhas f_.files p))]) rfl (x_lookup2 (w0 := w38) (k := p) (v := (.agg #[(.int .i64 ((mgetD f_.files p).mode)), (.int .i64 ((mgetD f_.files p).time)), (.int .i64 ((mgetD f_.files p).inode)), (.slice alb56 (((mgetD f_.files p).b).length) clb57)])) (z := (.agg #[(.int .i64 (0 : Int)), (.int .i64 (0 : Int)), (.int .i64 (0 : Int)), (.slice none 0 0)])) (b := mhas f_.files p) (s := 4) (bts := 48) (by kernel_rfl) (by kernel_rfl) lk52 rfl Tryd.underlying47 Tryd.underlying9 (by kernel_rfl)) ?_)
  refine sq (o_pv (.tuple #[(.agg #[(.int .i64 ((mgetD f_.files p).mode)), (.int .i64 ((mgetD f_.files p).time)), (.int .i64 ((mgetD f_.files p).inode)), (.slice alb56 (((mgetD f_.files p).b).length) clb57)]), (.bool (mhas f_.files p))]) rfl (by kernel_rfl) ?_)
  refine sq (o_pv (.agg #[(.int .i64 ((mgetD f_.files p).mode)), (.int .i64 ((mgetD f_.files p).time)), (.int .i64 ((mgetD f_.files p).inode)), (.slice alb56 (((mgetD f_.files p).b).length) clb57)]) rfl (by kernel_rfl) ?_)
  refine sq (o_pv (.bool (mhas f_.files p)) rfl (by kernel_rfl) ?_)
  have mokept65 := (OM.step0 mokept10 s40)
  have Oo66 := (OS.step0 Oo16 s40)
  have E67 := (Evo.then0 E0 (Step.evo s40))
  refine sq (o_newX [(.int .i64 (0 : Int)), (.int .i64 (0 : Int)), (.int .i64 (0 : Int)), (.slice none 0 0)] 54 (X := X39) (B := w.heap.size) E67.size rfl (by kernel_rfl) ?_)
  intro b59 w60 X61 s62 k63 n64
  have p68 := n64 _ (OB.old k48)
  have p69 := n64 _ (OM.old mokept65)
  have p70 := n64 _ (OM.old mofiles49)
  have p71 := n64 _ (OS.old Oo66)
  have p72 := n64 _ (OB.old k41)
  have k73 := (OB.step0 k48 s62)
  have mokept74 := (OM.step0 mokept65 s62)
  have mofiles75 := (OM.step0 mofiles49 s62)
  have Oo76 := (OS.step0 Oo66 s62)
  have k77 := (OB.step0 k41 s62)
  have E78 := (Evo.then0 E67 (Step.evo s62))
  refine sq (o_stB (o := 0) (v := (.agg #[(.int .i64 ((mgetD f_.files p).mode)), (.int .i64 ((mgetD f_.files p).time)), (.int .i64 ((mgetD f_.files p).inode)), (.slice alb56 (((mgetD f_.files p).b).length) clb57)])) [(.int .i64 ((mgetD f_.files p).mode)), (.int .i64 ((mgetD f_.files p).time)), (.int .i64 ((mgetD f_.files p).inode)), (.slice alb56 (((mgetD f_.files p).b).length) clb57)] rfl k63 (by kernel_rfl) (by kernel_rfl) Tryd.sizeOf54 rfl rfl rfl ?_)
  intro w79 s80 k81
  refine sq (o_pv (.bool (mhas f_.files p)) rfl (by kernel_rfl) ?_)
  refine nil_ ?_
  refine then_normal (K47 _ _ _ _ ?_)
  refine seq_ (fun _ K82 => ?_)
  refine seq_ (fun _ K83 => ?_)
  refine reg_ ?_
  refine sq (o_pv (.bool (mhas f_.files p)) rfl (by kernel_rfl) ?_)
  refine sq (o_pv (.bool (!(mhas f_.files p))) rfl (by kernel_rfl) ?_)
  refine nil_ ?_
  refine then_normal (K83 _ _ _ _ ?_)
  have hb118 := (Sl.step (Sl.step (Sl.step hb8 s40) s62) s80)
  have hXo119 := (Old.step (Old.step (Old.step hXo s40) s62) s80)
  have E120 := (Evo.thenW E78 (Step.evo s80) (Wr.of k63.2.2))
  have hS121 := (Sub.trans (Sub.trans (Sub.trans hS (Step.up s40)) (Step.up s62)) (Step.up s80))
  have hN122 := (News.step (News.step (News.step hN s40) s62) s80)
  have k123 := (OB.step k73 s80 p68)
  have mokept124 := (OM.step mokept74 s80 p69)
  have mofiles125 := (OM.step mofiles75 s80 p70)
  have Oo126 := (OS.step Oo76 s80 p71)
  have hokeep127 := (Sl.step (Sl.step (Sl.step hokeep24 s40) s62) s80)
  have k128 := (OB.step k77 s80 p72)
  have hlb129 := (Sl.step (Sl.step hlb58 s62) s80)
  obtain ⟨k111, hk112, hp⟩ := hp
  refine ground_ ?_
  refine join_ 17175674880 (fun lq w113 => ∃ (X114 : List Nat) (f105 : Int) (f108 : Int), (lq = []) ∧ (Evo Ff_2 w w113) ∧ (Old X114 w113) ∧ (Sub X X114) ∧ (News X w X114 w113) ∧ (Sl (rInt .u8) X114 w113 ab6 cb7 b) ∧ (OM r_simfs_file true Ff_2 w.heap.size X114 w113 rokept9 f_.kept) ∧ (OM r_simfs_file true Ff_2 w.heap.size X114 w113 rofiles11 f_.files) ∧ (OS r_simfs_op Ff_2 w.heap.size X114 w113 56 ao13 no14 co15 f_.pending) ∧ (Sl rBool X114 w113 aokeep22 cokeep23 f_.keep) ∧ (OB ([]) w.heap.size X114 w113 b37 [(.int .i64 (0 : Int)), (.string (ByteArray.mk #[])), (.string (ByteArray.mk #[])), (.int .i64 (0 : Int)), (.int .i64 (0 : Int)), (.int .i64 (0 : Int)), (.slice none 0 0)] 56) ∧ (Sl (rInt .u8) X114 w113 alb56 clb57 ((mgetD f_.files p).b)) ∧ (OB Ff_2 w.heap.size X114 w113 bf_1 [(.map (some rokept9)), (.map (some rofiles11)), (.slice ao13 no14 co15), (.int .i64 f_.quota), (.int .i64 f_.now), (.int .i64 f105), (.int .i64 f_.ops_), (.bool f_.off), (.bool f_.armed), (.int .i64 f_.left), (.slice aokeep22 f_.keep.length cokeep23)] 50) ∧ (OB ([]) w.heap.size X114 w113 b59 [(.int .i64 ((mgetD f_.files p).mode)), (.int .i64 ((mgetD f_.files p).time)), (.int .i64 f108), (.slice alb56 (((mgetD f_.files p).b).length) clb57)] 54) ∧ (inR .i64 f105) ∧ (inR .i64 f108) ∧ (k111 f105 f108)) (fun Kj115 hJ116 => ?_) ?_
  ·
    refine cond_b (!(mhas f_.files p)) (by kernel_rfl) (fun h141 => ?_) (fun h141 => ?_)
    ·
      replace hp := hp.1 h141
      refine seq_ (fun _ K142 => ?_)
      refine reg_ ?_
      refine sq (o_pv (.pointer (some ⟨bf_1, 0, none⟩)) rfl (by kernel_rfl) ?_)
      refine sq (o_pv (.pointer (some ⟨bf_1, 0, none⟩)) rfl (by kernel_rfl) ?_)
      refine sq (o_pv (.pointer (some ⟨bf_1, 5, none⟩)) rfl (by kernel_rfl) ?_)
      refine sq (o_pv (.int .i64 f_.inodes) rfl (x_load1 (by kernel_rfl) Tryd.isAgg3 (k123.2.1.cell' 5 rfl)) ?_)
      obtain ⟨h143, hp⟩ := hp
      refine sq (o_pv (.int .i64 (f_.inodes + (1 : Int))) rfl (x_add2 (k := .i64) (a := f_.inodes) (b := (1 : Int)) (f_.inodes + (1 : Int)) (by kernel_rfl) (by kernel_rfl) (wrap_inR h143)) ?_)
      refine sq (o_pv (.pointer (some ⟨bf_1, 0, none⟩)) rfl (by kernel_rfl) ?_)
      refine sq (o_pv (.pointer (some ⟨bf_1, 5, none⟩)) rfl (by kernel_rfl) ?_)
      refine sq (o_stB (o := 5) (v := (.int .i64 (f_.inodes + (1 : Int)))) [(.map (some rokept9)), (.map (some rofiles11)), (.slice ao13 no14 co15), (.int .i64 f_.quota), (.int .i64 f_.now), (.int .i64 (f_.inodes + (1 : Int))), (.int .i64 f_.ops_), (.bool f_.off), (.bool f_.armed), (.int .i64 f_.left), (.slice aokeep22 f_.keep.length cokeep23)] rfl k123 (by kernel_rfl) (by kernel_rfl) Tryd.sizeOf3 rfl rfl rfl ?_)
      intro w144 s145 k146
      refine nil_ ?_
      refine then_normal (K142 _ _ _ _ ?_)
      refine reg_ ?_
      refine sq (o_pv (.pointer (some ⟨bf_1, 0, none⟩)) rfl (by kernel_rfl) ?_)
      refine sq (o_pv (.pointer (some ⟨bf_1, 0, none⟩)) rfl (by kernel_rfl) ?_)
      refine sq (o_pv (.pointer (some ⟨bf_1, 5, none⟩)) rfl (by kernel_rfl) ?_)
      refine sq (o_pv (.int .i64 (f_.inodes + (1 : Int))) rfl (x_load1 (by kernel_rfl) Tryd.isAgg3 (k146.2.1.cell' 5 rfl)) ?_)
      refine sq (o_pv (.pointer (some ⟨b59, 2, none⟩)) rfl (by kernel_rfl) ?_)
      have mokept147 := (OM.step mokept124 s145 (Ap.symm p30))
      have mofiles148 := (OM.step mofiles125 s145 (Ap.symm p31))
      have Oo149 := (OS.step Oo126 s145 (Ap.symm p32))
      have k150 := (OB.step k128 s145 (Ap.symm p43))
      have k151 := (OB.step k81 s145 (Ap.symm p68))
      have E152 := (Evo.thenW E120 (Step.evo s145) k123.2.2)
      refine sq (o_stB (o := 2) (v := (.int .i64 (f_.inodes + (1 : Int)))) [(.int .i64 ((mgetD f_.files p).mode)), (.int .i64 ((mgetD f_.files p).time)), (.int .i64 (f_.inodes + (1 : Int))), (.slice alb56 (((mgetD f_.files p).b).length) clb57)] rfl k151 (by kernel_rfl) (by kernel_rfl) Tryd.sizeOf3 rfl rfl rfl ?_)
      intro w153 s154 k155
      refine nil_ ?_
      have E156 := (Evo.thenW E152 (Step.evo s154) (Wr.of k151.2.2))
      have hXo157 := (Old.step (Old.step hXo119 s145) s154)
      have hS158 := (Sub.trans (Sub.trans hS121 (Step.up s145)) (Step.up s154))
      have hN159 := (News.step (News.step hN122 s145) s154)
      have hb160 := (Sl.step (Sl.step hb118 s145) s154)
      have mokept161 := (OM.step mokept147 s154 p69)
      have mofiles162 := (OM.step mofiles148 s154 p70)
      have Oo163 := (OS.step Oo149 s154 p71)
      have hokeep164 := (Sl.step (Sl.step hokeep127 s145) s154)
      have k165 := (OB.step k150 s154 p72)
      have hlb166 := (Sl.step (Sl.step hlb129 s145) s154)
      have k167 := (OB.step k146 s154 p68)
      refine then_normal (hJ116 _ _ _ ⟨[], fit_mk (fun _ _ => rfl) (by kernel_rfl) vs_nil, ?_⟩)
      exact ⟨X61, (f_.inodes + (1 : Int)), (f_.inodes + (1 : Int)), rfl, E156, hXo157, hS158, hN159, hb160, mokept161, mofiles162, Oo163, hokeep164, k165, hlb166, k167, k155, h143, h143, hp⟩
    ·
      replace hp := hp.2 h141
      refine wp_skip ?_
      refine then_normal (hJ116 _ _ _ ⟨[], fit_mk (fun _ _ => rfl) (by kernel_rfl) vs_nil, ?_⟩)
      exact ⟨X61, f_.inodes, ((mgetD f_.files p).inode), rfl, E120, hXo119, hS121, hN122, hb118, mokept124, mofiles125, Oo126, hokeep127, k128, hlb129, k123, k81, roinodes19, rlinode55, hp⟩
  ·
    rintro _ w113 g168 ⟨X114, f105, f108, rfl, E130, hXo131, hS132, hN133, hb134, mokept135, mofiles136, Oo137, hokeep138, k139, hlb140, k107, k110, rf106, rf109, hv117⟩
    replace hp := hk112 f105 f108 hv117 rf106 rf109
    refine then_normal (K82 _ _ _ _ ?_)
    refine seq_ (fun _ K169 => ?_)
    refine reg_drawn (RB w113.heap.size []) 12 (by kernel_rfl) (fun w170 hd171 => ?_)
    have e172 := Evo.of_drew hd171
    have z173 : w170.heap.size = w113.heap.size := by rw [hd171]
    clear hd171
    have s175 := Step.of0 X114 e172
    have er174 := RB.refl w113.heap.size [] w170
    have E176 := (Evo.then0 E130 (Step.evo s175))
    have hXo177 := (Old.step hXo131 s175)
    have hS178 := (Sub.trans hS132 (Step.up s175))
    have hN179 := (News.step hN133 s175)
    have hb180 := (Sl.step hb134 s175)
    have mokept181 := (OM.step0 mokept135 s175)
    have mofiles182 := (OM.step0 mofiles136 s175)
    have Oo183 := (OS.step0 Oo137 s175)
    have hokeep184 := (Sl.step hokeep138 s175)
    have k185 := (OB.step0 k139 s175)
    have hlb186 := (Sl.step hlb140 s175)
    have k187 := (OB.step0 k107 s175)
    have k188 := (OB.step0 k110 s175)
    refine r_take 0 (.string p) (RB.pre _ _) rfl (by kernel_rfl) (fun _ _ _ h => hQ.panic _ _ _ _ _ h) (.inl ⟨rfl, fun wq hq => (by kernel_rfl)⟩) ?_
    refine r_take 1 (.int .i64 mode) (RB.pre _ _) rfl (by kernel_rfl) (fun _ _ _ h => hQ.panic _ _ _ _ _ h) (.inl ⟨rfl, fun wq hq => (by kernel_rfl)⟩) ?_
    refine r_take 2 (.pointer (some ⟨bf_1, 0, none⟩)) (RB.pre _ _) rfl (by kernel_rfl) (fun _ _ _ h => hQ.panic _ _ _ _ _ h) (.inl ⟨rfl, fun wq hq => (by kernel_rfl)⟩) ?_
    refine r_take 3 (.pointer (some ⟨bf_1, 0, none⟩)) (RB.pre _ _) rfl (by kernel_rfl) (fun _ _ _ h => hQ.panic _ _ _ _ _ h) (.inl ⟨rfl, fun wq hq => (by kernel_rfl)⟩) ?_
    refine r_take 4 (.pointer (some ⟨bf_1, 4, none⟩)) (RB.pre _ _) rfl (by kernel_rfl) (fun _ _ _ h => hQ.panic _ _ _ _ _ h) (.inl ⟨rfl, fun wq hq => (by kernel_rfl)⟩) ?_
    refine r_take 5 (.int .i64 f_.now) (RB.pre _ _) rfl (by kernel_rfl) (fun _ _ _ h => hQ.panic _ _ _ _ _ h) (.inl ⟨rfl, fun wq hq => (x_load1 (by kernel_rfl) Tryd.isAgg3 ((Blk.rb k187.2.1 (RB.trans er174 hq) (Nat.lt_of_lt_of_eq (Blk.lt k187.2.1) z173) (fun h => by cases h)).cell' 4 rfl))⟩) ?_
    refine r_take 6 (.pointer (some ⟨b59, 2, none⟩)) (RB.pre _ _) rfl (by kernel_rfl) (fun _ _ _ h => hQ.panic _ _ _ _ _ h) (.inl ⟨rfl, fun wq hq => (by kernel_rfl)⟩) ?_
    refine r_take 7 (.int .i64 f108) (RB.pre _ _) rfl (by kernel_rfl) (fun _ _ _ h => hQ.panic _ _ _ _ _ h) (.inl ⟨rfl, fun wq hq => (x_load1 (by kernel_rfl) Tryd.isAgg3 ((Blk.rb k188.2.1 (RB.trans er174 hq) (Nat.lt_of_lt_of_eq (Blk.lt k188.2.1) z173) (fun h => by cases h)).cell' 2 rfl))⟩) ?_
    refine r_take 8 (.slice ab6 b.length cb7) (RB.pre _ _) rfl (by kernel_rfl) (fun _ _ _ h => hQ.panic _ _ _ _ _ h) (.inl ⟨rfl, fun wq hq => (by kernel_rfl)⟩) ?_
    refine r_ready [9] (by kernel_rfl) rfl (all_cons ⟨_, _, _, _, _, _, rfl, ?_⟩ all_nil)
    refine o_call 36 #[(.slice ab6 b.length cb7)] rfl (x_call Tryd.call36 (by kernel_rfl)) (slices_Clone_byte_byte_w (X := X114) (s := b) hXo177 (Sl.sq hb180) hp) ?_
    rintro _ w190 ⟨r189, hp, e191, a193, c194, rfl, O195⟩
    have rm := RB.mono (F' := []) e191 (Nat.le_trans (Nat.le_of_eq z173.symm) (RB.size er174)) (fun _ h => by cases h)
    have er196 := RB.trans er174 rm
    refine ⟨fun _ => rm, ?_⟩
    obtain ⟨X197, s192, O198, n199⟩ := OS.own_in O195 e191 E176.size
    have p200 := n199 _ (OM.old mokept181)
    have p201 := n199 _ (OM.old mofiles182)
    have p202 := n199 _ (OS.old Oo183)
    have p203 := n199 _ (OB.old k185)
    have p204 := n199 _ (OB.old k187)
    have p205 := n199 _ (OB.old k188)
    replace hp := hp (OS.len O198)
    refine r_take 10 (.agg #[(.int .i64 mode), (.int .i64 f_.now), (.int .i64 f108), (.slice a193 r189.length c194)]) (RB.pre _ _) rfl (by kernel_rfl) (fun _ _ _ h => hQ.panic _ _ _ _ _ h) (.inl ⟨rfl, fun wq hq => (by kernel_rfl)⟩) ?_
    refine r_take 11 (.agg #[(.int .i64 (1 : Int)), (.string p), (.string (ByteArray.mk #[])), (.int .i64 mode), (.int .i64 f_.now), (.int .i64 f108), (.slice a193 r189.length c194)]) (RB.pre _ _) rfl (by kernel_rfl) (fun _ _ _ h => hQ.panic _ _ _ _ _ h) (.inl ⟨rfl, fun wq hq => (by kernel_rfl)⟩) ?_
    refine r_ready [12] (by kernel_rfl) rfl (all_cons ⟨_, _, _, _, _, _, rfl, ?_⟩ all_nil)
    have mokept206 := (OM.step0 mokept181 s192)
    have mofiles207 := (OM.step0 mofiles182 s192)
    have Oo208 := (OS.step0 Oo183 s192)
    have k209 := (OB.step0 k185 s192)
    have k210 := (OB.step0 k187 s192)
    have k211 := (OB.step0 k188 s192)
    have E212 := (Evo.then0 E176 (Step.evo s192))
    refine o_stB (o := 0) (v := (.agg #[(.int .i64 (1 : Int)), (.string p), (.string (ByteArray.mk #[])), (.int .i64 mode), (.int .i64 f_.now), (.int .i64 f108), (.slice a193 r189.length c194)])) [(.int .i64 (1 : Int)), (.string p), (.string (ByteArray.mk #[])), (.int .i64 mode), (.int .i64 f_.now), (.int .i64 f108), (.slice a193 r189.length c194)] rfl k209 (by kernel_rfl) (by kernel_rfl) Tryd.sizeOf56 rfl rfl rfl ?_
    intro w213 s214 k215
    refine ⟨fun h => absurd h (by decide), ?_⟩
    refine r_done (by kernel_rfl) ?_
    refine then_normal (K169 _ _ _ _ ?_)
    refine wp_ret ?_
    have k216 := (OB.step k210 s214 p43)
    have pin217 := pin_mk (off := 1) k25 k216 rfl rfl
    have E218 := (Evo.thenW E212 (Step.evo s214) (Wr.of k209.2.2))
    have hXo219 := (Old.step (Old.step hXo177 s192) s214)
    have hS220 := (Sub.trans (Sub.trans hS178 (Step.up s192)) (Step.up s214))
    have hN221 := (News.step (News.step hN179 s192) s214)
    have hb222 := (Sl.step (Sl.step hb180 s192) s214)
    have mokept223 := (OM.step mokept206 s214 p44)
    have mofiles224 := (OM.step mofiles207 s214 p45)
    have Oo225 := (OS.step Oo208 s214 p46)
    have hokeep226 := (Sl.step (Sl.step hokeep184 s192) s214)
    have hlb227 := (Sl.step (Sl.step hlb186 s192) s214)
    have k228 := (OB.step k211 s214 (Ap.symm p72))
    have O229 := (OS.step O198 s214 (Ap.symm p203))
    obtain ⟨F230, m231, hs232⟩ := MO.pack (o_simfs_FS_mk k216 mokept223 mofiles224 Oo225 roquota17 ronow18 rf106 roops_20 roleft21 hokeep226 rfl p30 p31 p32 p33 p34 p35)
    have p233 := hs232 _ (Ap.cons (Ap.symm p43) (Ap.app (Ap.symm p44) (Ap.app (Ap.symm p45) (Ap.app (Ap.symm p46) (Ap.app (Ap.nil_r _) (Ap.app (Ap.nil_r _) (Ap.app (Ap.nil_r _) (Ap.app (Ap.nil_r _) (Ap.app (Ap.nil_r _) (Ap.app (Ap.nil_r _) (Ap.app (Ap.nil_r _) (Ap.nil_r _))))))))))))
    have p234 := hs232 _ (Ap.cons (Ap.symm p68) (Ap.app (Ap.symm p69) (Ap.app (Ap.symm p70) (Ap.app (Ap.symm p71) (Ap.app (Ap.nil_r _) (Ap.app (Ap.nil_r _) (Ap.app (Ap.nil_r _) (Ap.app (Ap.nil_r _) (Ap.app (Ap.nil_r _) (Ap.app (Ap.nil_r _) (Ap.app (Ap.nil_r _) (Ap.nil_r _))))))))))))
    have p235 := hs232 _ (Ap.cons (Ap.symm p204) (Ap.app (Ap.symm p200) (Ap.app (Ap.symm p201) (Ap.app (Ap.symm p202) (Ap.app (Ap.nil_r _) (Ap.app (Ap.nil_r _) (Ap.app (Ap.nil_r _) (Ap.app (Ap.nil_r _) (Ap.app (Ap.nil_r _) (Ap.app (Ap.nil_r _) (Ap.app (Ap.nil_r _) (Ap.nil_r _))))))))))))
    have ax240 := OS.apold O229 hX0
    obtain ⟨X236, u237, r238, hm239⟩ := OS.release O229
    have E241 := E218
    have hXo242 := (Old.less hXo219 u237)
    have hS243 := (hm239 _ ax240 hS220)
    have hN244 := (News.less hN221 u237)
    have hb245 := (Sl.less hb222 u237)
    have hokeep246 := (Sl.less hokeep226 u237)
    have k247 := (OB.less k215 (hm239 _ p203 (OB.mem k215)))
    have hlb248 := (Sl.less hlb227 u237)
    have k249 := (OB.less k228 (hm239 _ p205 (OB.mem k228)))
    have m250 := (MO.less m231 u237 (hm239 _ (Ap.symm p235) (MO.mem m231)))
    refine end_ret hQ (.agg #[(.int .i64 (1 : Int)), (.string p), (.string (ByteArray.mk #[])), (.int .i64 mode), (.int .i64 f_.now), (.int .i64 f108), (.slice a193 r189.length c194)]) (rs_single Tryd.results27 (rs_agg [(.int .i64 (1 : Int)), (.string p), (.string (ByteArray.mk #[])), (.int .i64 mode), (.int .i64 f_.now), (.int .i64 f108), (.slice a193 r189.length c194)] (by kernel_rfl) Tryd.isAgg56 Tryd.sizeOf56 (k247.2.1.cells' 0 rfl))) ?_
    exact ⟨(S_simfs_FS.mk f_.kept f_.files f_.pending f_.quota f_.now f105 f_.ops_ f_.off f_.armed f_.left f_.keep), (S_simfs_op.mk (1 : Int) p (ByteArray.mk #[]) (S_simfs_file.mk mode f_.now f108 r189)), hp, X236, F230, a193, c194, step_of E241 hF0 hS243 hN244, rfl, m250, (by decide : inR .i64 (1 : Int)), zp4, (by decide : (ByteArray.mk #[]).size ≤ maxLen), rmode5, ronow18, rf109, r238, pin217⟩

end Go.Proofs.YtaolmfepdmgohaaDoor
