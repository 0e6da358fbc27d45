/- Walks of functions: what each asks and computes, as a plain predicate, and the contract from it. -/
import Derived.Test.YtjejeipdndddpaaDoorChecked
import Derived.Test.YtjejeipdndddpaaDoorSf1
namespace Go.Proofs.YtjejeipdndddpaaDoor
open Go

theorem elT91 : ElemT Tryd.prog 91 5 1 1 := elemT_mk (i := Tryd.t5) (z := (.int .u8 0)) (by kernel_rfl) (by kernel_rfl) (by kernel_rfl) (by kernel_rfl) Tryd.underlying91 Tryd.sizeOf5 (by decide) (by decide)
def simfs_FS_room_p (f_ : S_simfs_FS) (p : ByteArray) (n_ : Int) (Q : S_simfs_FS → Bool → Prop) : Prop :=
  ((p.size ≤ maxLen) → ((inR .i64 n_) → ((f_.pending.length ≤ 9223372036854775807) → ((inR .i64 f_.quota) → ((inR .i64 f_.now) → ((inR .i64 f_.inodes) → ((inR .i64 f_.ops_) → ((inR .i64 f_.left) → ((f_.keep.length ≤ 9223372036854775807) → ((inR .i64 ((mgetD f_.files p).mode)) → ((inR .i64 ((mgetD f_.files p).time)) → ((inR .i64 ((mgetD f_.files p).inode)) → ((((mgetD f_.files p).b).length ≤ 9223372036854775807) → (∃ k111 : Bool → Prop, (∀ (s110 : Bool), k111 s110 → Q f_ s110) ∧ (((f_.quota ≤ (0 : Int)) → (k111 true)) ∧ ((¬ (f_.quota ≤ (0 : Int))) → (((n_ = (0 : Int)) → (k111 true)) ∧ ((¬ (n_ = (0 : Int))) → ((((mhas f_.files p) = true) → (((n_ ≤ (((mgetD f_.files p).b).length : Int)) → (k111 true)) ∧ ((¬ (n_ ≤ (((mgetD f_.files p).b).length : Int))) → (simfs_sum_p f_.files (fun (r158 : Int) => ((inR .i64 r158) → ((inR .i64 (r158 - (((mgetD f_.files p).b).length : Int))) ∧ ((inR .i64 ((r158 - (((mgetD f_.files p).b).length : Int)) + n_)) ∧ (k111 (decide (((r158 - (((mgetD f_.files p).b).length : Int)) + n_) ≤ f_.quota))))))))))) ∧ ((¬ ((mhas f_.files p) = true)) → (simfs_sum_p f_.files (fun (r175 : Int) => ((inR .i64 r175) → ((inR .i64 (r175 - (((mgetD f_.files p).b).length : Int))) ∧ ((inR .i64 ((r175 - (((mgetD f_.files p).b).length : Int)) + n_)) ∧ (k111 (decide (((r175 - (((mgetD f_.files p).b).length : Int)) + n_) ≤ f_.quota))))))))))))))))))))))))))))
set_option maxRecDepth 20000 in
set_option maxHeartbeats 4000000 in
theorem simfs_FS_room_w {X : List Nat} {w : World} {f_ : S_simfs_FS} {p : ByteArray} {n_ : Int} {bf_1 : Nat} {Ff_2 : List Nat} {Q : S_simfs_FS → Bool → Prop} (hX0 : Old X w) (mf_3 : MO o_simfs_FS 153 Ff_2 w.heap.size X w Ff_2 bf_1 f_) (zp4 : p.size ≤ maxLen) (rn_5 : inR .i64 n_) (hp : simfs_FS_room_p f_ p n_ Q) :
    Calls Tryd.prog 110 #[(.pointer (some ⟨bf_1, 0, none⟩)), (.string p), (.int .i64 n_)] w (Ret fun v w' => ∃ (m0 : S_simfs_FS) (r0 : Bool), Q m0 r0 ∧ ∃ (X' : List Nat) (Fm0 : List Nat), Step X w Ff_2 X' w' ∧ v = (.bool r0) ∧ MO o_simfs_FS 153 Ff_2 w.heap.size X' w' Fm0 bf_1 m0) := by
  have hXo := hX0
  have E0 : Evo Ff_2 w w := RB.refl _ _ _
  have hS : Sub X X := Sub.refl _
  have hN : News X w X w := News.refl _ _
  have hF0 : Sub Ff_2 X := MO.mem mf_3
  unfold simfs_FS_room_p at hp
  refine enter_ Tryd.func110 rfl 55 [(0, (.pointer (some ⟨bf_1, 0, none⟩))), (1, (.string p)), (2, (.int .i64 n_))] (by kernel_rfl) (fun Qe hQ => ?_)
  replace hp := hp zp4
  replace hp := hp rn_5
  refine seq_ (fun _ K6 => ?_)
  refine reg_ ?_
  refine sq (o_pv (.bool false) rfl (by kernel_rfl) ?_)
  refine nil_ ?_
  refine then_normal (K6 _ _ _ _ ?_)
  refine seq_ (fun _ K7 => ?_)
  refine reg_ ?_
  refine sq (o_pv (.pointer (some ⟨bf_1, 0, none⟩)) rfl (by kernel_rfl) ?_)
  refine sq (o_pv (.pointer (some ⟨bf_1, 0, none⟩)) rfl (by kernel_rfl) ?_)
  obtain ⟨rokept8, rofiles10, ao12, no13, co14, aokeep21, cokeep22, k24, mokept9, mofiles11, Oo15, roquota16, ronow17, roinodes18, roops_19, roleft20, hokeep23, sb25, sb26, sb27, sb28, p29, p30, p31, p32, p33, p34⟩ := o_simfs_FS_open mf_3
  replace hp := hp (OS.len Oo15)
  replace hp := hp roquota16
  replace hp := hp ronow17
  replace hp := hp roinodes18
  replace hp := hp roops_19
  replace hp := hp roleft20
  replace hp := hp (Sl.len hokeep23)
  refine sq (o_pv (.pointer (some ⟨bf_1, 1, none⟩)) rfl (by kernel_rfl) ?_)
  refine sq (o_pv (.map (some rofiles10)) rfl (x_load1 (by kernel_rfl) Tryd.isAgg150 (k24.2.1.cell' 1 rfl)) ?_)
  refine sq (o_pv (.string p) rfl (by kernel_rfl) ?_)
  obtain ⟨cs35, ok36, lk37⟩ := MapAt.look mofiles11.2.1 p [(.int .i64 (0 : Int)), (.int .i64 (0 : Int)), (.int .i64 (0 : Int)), (.slice none 0 0)] (fun _ _ => (r_simfs_file_mk (by decide : inR .i64 (0 : Int)) (by decide : inR .i64 (0 : Int)) (by decide : inR .i64 (0 : Int)) (Sl.nil) rfl))
  obtain ⟨alb41, clb42, rfl, rlmode38, rltime39, rlinode40, hlb43⟩ := r_simfs_file_open ok36
  replace hp := hp rlmode38
  replace hp := hp rltime39
  replace hp := hp rlinode40
  replace hp := hp (Sl.len hlb43)
  refine sq (o_pv (.tuple #[(.agg #[(.int .i64 ((mgetD f_.files p).mode)), (.int .i64 ((mgetD f_.files p).time)), (.int .i64 ((mgetD f_.files p).inode)), (.slice alb41 (((mgetD f_.files p).b).length) clb42)]), (.bool (mhas f_.files p))]) rfl (x_lookup2 (w0 := w) (k := p) (v := (.agg #[(.int .i64 ((mgetD f_.files p).mode)), (.int .i64 ((mgetD f_.files p).time)), (.int .i64 ((mgetD f_.files p).inode)), (.slice alb41 (((mgetD f_.files p).b).length) clb42)])) (z := (.agg #[(.int .i64 (0 : Int)), (.int .i64 (0 : Int)), (.int .i64 (0 : Int)), (.slice none 0 0)])) (b := mhas f_.files p) (s := 4) (bts := 48) (by kernel_rfl) (by kernel_rfl) lk37 rfl Tryd.underlying150 Tryd.underlying9 (by kernel_rfl)) ?_)
  refine sq (o_pv (.tuple #[(.agg #[(.int .i64 ((mgetD f_.files p).mode)), (.int .i64 ((mgetD f_.files p).time)), (.int .i64 ((mgetD f_.files p).inode)), (.slice alb41 (((mgetD f_.files p).b).length) clb42)]), (.bool (mhas f_.files p))]) rfl (by kernel_rfl) ?_)
  refine sq (o_pv (.agg #[(.int .i64 ((mgetD f_.files p).mode)), (.int .i64 ((mgetD f_.files p).time)), (.int .i64 ((mgetD f_.files p).inode)), (.slice alb41 (((mgetD f_.files p).b).length) clb42)]) rfl (by kernel_rfl) ?_)
  refine sq (o_pv (.bool (mhas f_.files p)) rfl (by kernel_rfl) ?_)
  refine sq (o_newX [(.int .i64 (0 : Int)), (.int .i64 (0 : Int)), (.int .i64 (0 : Int)), (.slice none 0 0)] 156 (X := X) (B := w.heap.size) E0.size rfl (by kernel_rfl) ?_)
  intro b44 w45 X46 s47 k48 n49
  have p50 := n49 _ (OB.old k24)
  have p51 := n49 _ (OM.old mokept9)
  have p52 := n49 _ (OM.old mofiles11)
  have p53 := n49 _ (OS.old Oo15)
  have k54 := (OB.step0 k24 s47)
  have mokept55 := (OM.step0 mokept9 s47)
  have mofiles56 := (OM.step0 mofiles11 s47)
  have Oo57 := (OS.step0 Oo15 s47)
  have E58 := (Evo.then0 E0 (Step.evo s47))
  refine sq (o_stB (o := 0) (v := (.agg #[(.int .i64 ((mgetD f_.files p).mode)), (.int .i64 ((mgetD f_.files p).time)), (.int .i64 ((mgetD f_.files p).inode)), (.slice alb41 (((mgetD f_.files p).b).length) clb42)])) [(.int .i64 ((mgetD f_.files p).mode)), (.int .i64 ((mgetD f_.files p).time)), (.int .i64 ((mgetD f_.files p).inode)), (.slice alb41 (((mgetD f_.files p).b).length) clb42)] rfl k48 (by kernel_rfl) (by kernel_rfl) Tryd.sizeOf156 rfl rfl rfl ?_)
  intro w59 s60 k61
  refine sq (o_pv (.bool (mhas f_.files p)) rfl (by kernel_rfl) ?_)
  refine nil_ ?_
  refine then_normal (K7 _ _ _ _ ?_)
  refine seq_ (fun _ K62 => ?_)
  have hXo118 := (Old.step (Old.step hXo s47) s60)
  have E119 := (Evo.thenW E58 (Step.evo s60) (Wr.of k48.2.2))
  have hS120 := (Sub.trans (Sub.trans hS (Step.up s47)) (Step.up s60))
  have hN121 := (News.step (News.step hN s47) s60)
  have k122 := (OB.step k54 s60 p50)
  have mokept123 := (OM.step mokept55 s60 p51)
  have mofiles124 := (OM.step mofiles56 s60 p52)
  have Oo125 := (OS.step Oo57 s60 p53)
  have hokeep126 := (Sl.step (Sl.step hokeep23 s47) s60)
  have hlb127 := (Sl.step (Sl.step hlb43 s47) s60)
  obtain ⟨k111, hk112, hp⟩ := hp
  refine ground_ ?_
  refine join_ 36028797018701888 (fun lq w113 => ∃ (X114 : List Nat) (s110 : Bool), (lq = [(6, (.bool s110))]) ∧ (Evo Ff_2 w w113) ∧ (Old X114 w113) ∧ (Sub X X114) ∧ (News X w X114 w113) ∧ (OM r_simfs_file true Ff_2 w.heap.size X114 w113 rokept8 f_.kept) ∧ (OM r_simfs_file true Ff_2 w.heap.size X114 w113 rofiles10 f_.files) ∧ (OS r_simfs_op Ff_2 w.heap.size X114 w113 158 ao12 no13 co14 f_.pending) ∧ (Sl rBool X114 w113 aokeep21 cokeep22 f_.keep) ∧ (OB Ff_2 w.heap.size X114 w113 bf_1 [(.map (some rokept8)), (.map (some rofiles10)), (.slice ao12 no13 co14), (.int .i64 f_.quota), (.int .i64 f_.now), (.int .i64 f_.inodes), (.int .i64 f_.ops_), (.bool f_.off), (.bool f_.armed), (.int .i64 f_.left), (.slice aokeep21 f_.keep.length cokeep22)] 153) ∧ (k111 s110)) (fun Kj115 hJ116 => ?_) ?_
  ·
    refine reg_drawn (RB w59.heap.size []) 37 (by kernel_rfl) (fun w137 hd138 => ?_)
    have e139 := Evo.of_drew hd138
    have z140 : w137.heap.size = w59.heap.size := by rw [hd138]
    clear hd138
    have s142 := Step.of0 X46 e139
    have er141 := RB.refl w59.heap.size [] w137
    have hXo143 := (Old.step hXo118 s142)
    have E144 := (Evo.then0 E119 (Step.evo s142))
    have hS145 := (Sub.trans hS120 (Step.up s142))
    have hN146 := (News.step hN121 s142)
    have k147 := (OB.step0 k122 s142)
    have mokept148 := (OM.step0 mokept123 s142)
    have mofiles149 := (OM.step0 mofiles124 s142)
    have Oo150 := (OS.step0 Oo125 s142)
    have hokeep151 := (Sl.step hokeep126 s142)
    have hlb152 := (Sl.step hlb127 s142)
    have k153 := (OB.step0 k61 s142)
    refine r_take 0 (.pointer (some ⟨bf_1, 0, none⟩)) (RB.pre _ _) rfl (by kernel_rfl) (fun _ _ _ h => hQ.panic _ _ _ _ _ h) (.inl ⟨rfl, fun wq hq => (by kernel_rfl)⟩) ?_
    refine r_take 1 (.pointer (some ⟨bf_1, 0, none⟩)) (RB.pre _ _) rfl (by kernel_rfl) (fun _ _ _ h => hQ.panic _ _ _ _ _ h) (.inl ⟨rfl, fun wq hq => (by kernel_rfl)⟩) ?_
    refine r_take 2 (.pointer (some ⟨bf_1, 3, none⟩)) (RB.pre _ _) rfl (by kernel_rfl) (fun _ _ _ h => hQ.panic _ _ _ _ _ h) (.inl ⟨rfl, fun wq hq => (by kernel_rfl)⟩) ?_
    refine r_take 3 (.int .i64 f_.quota) (RB.pre _ _) rfl (by kernel_rfl) (fun _ _ _ h => hQ.panic _ _ _ _ _ h) (.inl ⟨rfl, fun wq hq => (x_load1 (by kernel_rfl) Tryd.isAgg3 ((Blk.rb k147.2.1 (RB.trans er141 hq) (Nat.lt_of_lt_of_eq (Blk.lt k147.2.1) z140) (fun h => by cases h)).cell' 3 rfl))⟩) ?_
    by_cases h154 : f_.quota ≤ (0 : Int)
    ·
      replace hp := hp.1 h154
      refine r_take 4 (.bool true) (RB.pre _ _) rfl (by kernel_rfl) (fun _ _ _ h => hQ.panic _ _ _ _ _ h) (.inl ⟨rfl, fun wq hq => (x_dt (p := f_.quota ≤ (0 : Int)) (by kernel_rfl) h154)⟩) ?_
      refine r_take 5 (.bool true) (RB.pre _ _) rfl (by kernel_rfl) (fun _ _ _ h => hQ.panic _ _ _ _ _ h) (.inl ⟨rfl, fun wq hq => (by kernel_rfl)⟩) ?_
      refine r_take 6 undef (RB.pre _ _) rfl (by kernel_rfl) (fun _ _ _ h => hQ.panic _ _ _ _ _ h) (.inr ⟨by kernel_rfl, rfl⟩) ?_
      refine r_take 7 undef (RB.pre _ _) rfl (by kernel_rfl) (fun _ _ _ h => hQ.panic _ _ _ _ _ h) (.inr ⟨by kernel_rfl, rfl⟩) ?_
      refine r_take 8 (.bool true) (RB.pre _ _) rfl (by kernel_rfl) (fun _ _ _ h => hQ.panic _ _ _ _ _ h) (.inl ⟨rfl, fun wq hq => (by kernel_rfl)⟩) ?_
      refine r_take 9 (.bool true) (RB.pre _ _) rfl (by kernel_rfl) (fun _ _ _ h => hQ.panic _ _ _ _ _ h) (.inl ⟨rfl, fun wq hq => (by kernel_rfl)⟩) ?_
      refine r_take 10 undef (RB.pre _ _) rfl (by kernel_rfl) (fun _ _ _ h => hQ.panic _ _ _ _ _ h) (.inr ⟨by kernel_rfl, rfl⟩) ?_
      refine r_take 11 undef (RB.pre _ _) rfl (by kernel_rfl) (fun _ _ _ h => hQ.panic _ _ _ _ _ h) (.inr ⟨by kernel_rfl, rfl⟩) ?_
      refine r_take 12 undef (RB.pre _ _) rfl (by kernel_rfl) (fun _ _ _ h => hQ.panic _ _ _ _ _ h) (.inr ⟨by kernel_rfl, rfl⟩) ?_
      refine r_take 13 undef (RB.pre _ _) rfl (by kernel_rfl) (fun _ _ _ h => hQ.panic _ _ _ _ _ h) (.inr ⟨by kernel_rfl, rfl⟩) ?_
      refine r_take 14 undef (RB.pre _ _) rfl (by kernel_rfl) (fun _ _ _ h => hQ.panic _ _ _ _ _ h) (.inr ⟨by kernel_rfl, rfl⟩) ?_
      refine r_take 15 undef (RB.pre _ _) rfl (by kernel_rfl) (fun _ _ _ h => hQ.panic _ _ _ _ _ h) (.inr ⟨by kernel_rfl, rfl⟩) ?_
      refine r_take 16 undef (RB.pre _ _) rfl (by kernel_rfl) (fun _ _ _ h => hQ.panic _ _ _ _ _ h) (.inr ⟨by kernel_rfl, rfl⟩) ?_
      refine r_take 17 undef (RB.pre _ _) rfl (by kernel_rfl) (fun _ _ _ h => hQ.panic _ _ _ _ _ h) (.inr ⟨by kernel_rfl, rfl⟩) ?_
      refine r_take 18 (.bool true) (RB.pre _ _) rfl (by kernel_rfl) (fun _ _ _ h => hQ.panic _ _ _ _ _ h) (.inl ⟨rfl, fun wq hq => (by kernel_rfl)⟩) ?_
      refine r_take 19 (.bool true) (RB.pre _ _) rfl (by kernel_rfl) (fun _ _ _ h => hQ.panic _ _ _ _ _ h) (.inl ⟨rfl, fun wq hq => (by kernel_rfl)⟩) ?_
      refine r_take 20 undef (RB.pre _ _) rfl (by kernel_rfl) (fun _ _ _ h => hQ.panic _ _ _ _ _ h) (.inr ⟨by kernel_rfl, rfl⟩) ?_
      refine r_take 21 undef (RB.pre _ _) rfl (by kernel_rfl) (fun _ _ _ h => hQ.panic _ _ _ _ _ h) (.inr ⟨by kernel_rfl, rfl⟩) ?_
      refine r_take 22 undef (RB.pre _ _) rfl (by kernel_rfl) (fun _ _ _ h => hQ.panic _ _ _ _ _ h) (.inr ⟨by kernel_rfl, rfl⟩) ?_
      refine r_take 23 undef (RB.pre _ _) rfl (by kernel_rfl) (fun _ _ _ h => hQ.panic _ _ _ _ _ h) (.inr ⟨by kernel_rfl, rfl⟩) ?_
      refine r_take 24 undef (RB.pre _ _) rfl (by kernel_rfl) (fun _ _ _ h => hQ.panic _ _ _ _ _ h) (.inr ⟨by kernel_rfl, rfl⟩) ?_
      refine r_take 25 undef (RB.pre _ _) rfl (by kernel_rfl) (fun _ _ _ h => hQ.panic _ _ _ _ _ h) (.inr ⟨by kernel_rfl, rfl⟩) ?_
      refine r_take 26 undef (RB.pre _ _) rfl (by kernel_rfl) (fun _ _ _ h => hQ.panic _ _ _ _ _ h) (.inr ⟨by kernel_rfl, rfl⟩) ?_
      refine r_take 27 undef (RB.pre _ _) rfl (by kernel_rfl) (fun _ _ _ h => hQ.panic _ _ _ _ _ h) (.inr ⟨by kernel_rfl, rfl⟩) ?_
      refine r_take 28 undef (RB.pre _ _) rfl (by kernel_rfl) (fun _ _ _ h => hQ.panic _ _ _ _ _ h) (.inr ⟨by kernel_rfl, rfl⟩) ?_
      refine r_take 29 undef (RB.pre _ _) rfl (by kernel_rfl) (fun _ _ _ h => hQ.panic _ _ _ _ _ h) (.inr ⟨by kernel_rfl, rfl⟩) ?_
      refine r_take 30 undef (RB.pre _ _) rfl (by kernel_rfl) (fun _ _ _ h => hQ.panic _ _ _ _ _ h) (.inr ⟨by kernel_rfl, rfl⟩) ?_
      refine r_take 31 undef (RB.pre _ _) rfl (by kernel_rfl) (fun _ _ _ h => hQ.panic _ _ _ _ _ h) (.inr ⟨by kernel_rfl, rfl⟩) ?_
      refine r_take 32 undef (RB.pre _ _) rfl (by kernel_rfl) (fun _ _ _ h => hQ.panic _ _ _ _ _ h) (.inr ⟨by kernel_rfl, rfl⟩) ?_
      refine r_take 33 undef (RB.pre _ _) rfl (by kernel_rfl) (fun _ _ _ h => hQ.panic _ _ _ _ _ h) (.inr ⟨by kernel_rfl, rfl⟩) ?_
      refine r_take 34 undef (RB.pre _ _) rfl (by kernel_rfl) (fun _ _ _ h => hQ.panic _ _ _ _ _ h) (.inr ⟨by kernel_rfl, rfl⟩) ?_
      refine r_take 35 undef (RB.pre _ _) rfl (by kernel_rfl) (fun _ _ _ h => hQ.panic _ _ _ _ _ h) (.inr ⟨by kernel_rfl, rfl⟩) ?_
      refine r_take 36 (.bool true) (RB.pre _ _) rfl (by kernel_rfl) (fun _ _ _ h => hQ.panic _ _ _ _ _ h) (.inl ⟨rfl, fun wq hq => (by kernel_rfl)⟩) ?_
      refine r_ready [37] (by kernel_rfl) rfl (all_cons ⟨_, _, _, _, _, _, rfl, ?_⟩ all_nil)
      refine o_pv (.bool true) rfl (by kernel_rfl) ?_
      refine ⟨fun h => absurd h (by decide), ?_⟩
      refine r_done (by kernel_rfl) ?_
      refine then_normal (hJ116 _ _ _ ⟨[(6, (.bool true))], fit_mk (fun _ _ => rfl) (by kernel_rfl) (vs_cons (by kernel_rfl) vs_nil), ?_⟩)
      exact ⟨X46, true, rfl, E144, hXo143, hS145, hN146, mokept148, mofiles149, Oo150, hokeep151, k147, hp⟩
    ·
      replace hp := hp.2 h154
      refine r_take 4 (.bool false) (RB.pre _ _) rfl (by kernel_rfl) (fun _ _ _ h => hQ.panic _ _ _ _ _ h) (.inl ⟨rfl, fun wq hq => (x_df (p := f_.quota ≤ (0 : Int)) (by kernel_rfl) h154)⟩) ?_
      refine r_take 5 (.bool false) (RB.pre _ _) rfl (by kernel_rfl) (fun _ _ _ h => hQ.panic _ _ _ _ _ h) (.inl ⟨rfl, fun wq hq => (by kernel_rfl)⟩) ?_
      refine r_take 6 (.int .i64 n_) (RB.pre _ _) rfl (by kernel_rfl) (fun _ _ _ h => hQ.panic _ _ _ _ _ h) (.inl ⟨(by kernel_rfl), fun wq hq => (by kernel_rfl)⟩) ?_
      by_cases h155 : n_ = (0 : Int)
      ·
        replace hp := hp.1 h155
        refine r_take 7 (.bool true) (RB.pre _ _) rfl (by kernel_rfl) (fun _ _ _ h => hQ.panic _ _ _ _ _ h) (.inl ⟨(by kernel_rfl), fun wq hq => (x_dt (p := n_ = (0 : Int)) (by kernel_rfl) h155)⟩) ?_
        refine r_take 8 (.bool true) (RB.pre _ _) rfl (by kernel_rfl) (fun _ _ _ h => hQ.panic _ _ _ _ _ h) (.inl ⟨rfl, fun wq hq => (by kernel_rfl)⟩) ?_
        refine r_take 9 (.bool true) (RB.pre _ _) rfl (by kernel_rfl) (fun _ _ _ h => hQ.panic _ _ _ _ _ h) (.inl ⟨rfl, fun wq hq => (by kernel_rfl)⟩) ?_
        refine r_take 10 undef (RB.pre _ _) rfl (by kernel_rfl) (fun _ _ _ h => hQ.panic _ _ _ _ _ h) (.inr ⟨by kernel_rfl, rfl⟩) ?_
        refine r_take 11 undef (RB.pre _ _) rfl (by kernel_rfl) (fun _ _ _ h => hQ.panic _ _ _ _ _ h) (.inr ⟨by kernel_rfl, rfl⟩) ?_
        refine r_take 12 undef (RB.pre _ _) rfl (by kernel_rfl) (fun _ _ _ h => hQ.panic _ _ _ _ _ h) (.inr ⟨by kernel_rfl, rfl⟩) ?_
        refine r_take 13 undef (RB.pre _ _) rfl (by kernel_rfl) (fun _ _ _ h => hQ.panic _ _ _ _ _ h) (.inr ⟨by kernel_rfl, rfl⟩) ?_
        refine r_take 14 undef (RB.pre _ _) rfl (by kernel_rfl) (fun _ _ _ h => hQ.panic _ _ _ _ _ h) (.inr ⟨by kernel_rfl, rfl⟩) ?_
        refine r_take 15 undef (RB.pre _ _) rfl (by kernel_rfl) (fun _ _ _ h => hQ.panic _ _ _ _ _ h) (.inr ⟨by kernel_rfl, rfl⟩) ?_
        refine r_take 16 undef (RB.pre _ _) rfl (by kernel_rfl) (fun _ _ _ h => hQ.panic _ _ _ _ _ h) (.inr ⟨by kernel_rfl, rfl⟩) ?_
        refine r_take 17 undef (RB.pre _ _) rfl (by kernel_rfl) (fun _ _ _ h => hQ.panic _ _ _ _ _ h) (.inr ⟨by kernel_rfl, rfl⟩) ?_
        refine r_take 18 (.bool true) (RB.pre _ _) rfl (by kernel_rfl) (fun _ _ _ h => hQ.panic _ _ _ _ _ h) (.inl ⟨rfl, fun wq hq => (by kernel_rfl)⟩) ?_
        refine r_take 19 (.bool true) (RB.pre _ _) rfl (by kernel_rfl) (fun _ _ _ h => hQ.panic _ _ _ _ _ h) (.inl ⟨rfl, fun wq hq => (by kernel_rfl)⟩) ?_
        refine r_take 20 undef (RB.pre _ _) rfl (by kernel_rfl) (fun _ _ _ h => hQ.panic _ _ _ _ _ h) (.inr ⟨by kernel_rfl, rfl⟩) ?_
        refine r_take 21 undef (RB.pre _ _) rfl (by kernel_rfl) (fun _ _ _ h => hQ.panic _ _ _ _ _ h) (.inr ⟨by kernel_rfl, rfl⟩) ?_
        refine r_take 22 undef (RB.pre _ _) rfl (by kernel_rfl) (fun _ _ _ h => hQ.panic _ _ _ _ _ h) (.inr ⟨by kernel_rfl, rfl⟩) ?_
        refine r_take 23 undef (RB.pre _ _) rfl (by kernel_rfl) (fun _ _ _ h => hQ.panic _ _ _ _ _ h) (.inr ⟨by kernel_rfl, rfl⟩) ?_
        refine r_take 24 undef (RB.pre _ _) rfl (by kernel_rfl) (fun _ _ _ h => hQ.panic _ _ _ _ _ h) (.inr ⟨by kernel_rfl, rfl⟩) ?_
        refine r_take 25 undef (RB.pre _ _) rfl (by kernel_rfl) (fun _ _ _ h => hQ.panic _ _ _ _ _ h) (.inr ⟨by kernel_rfl, rfl⟩) ?_
        refine r_take 26 undef (RB.pre _ _) rfl (by kernel_rfl) (fun _ _ _ h => hQ.panic _ _ _ _ _ h) (.inr ⟨by kernel_rfl, rfl⟩) ?_
        refine r_take 27 undef (RB.pre _ _) rfl (by kernel_rfl) (fun _ _ _ h => hQ.panic _ _ _ _ _ h) (.inr ⟨by kernel_rfl, rfl⟩) ?_
        refine r_take 28 undef (RB.pre _ _) rfl (by kernel_rfl) (fun _ _ _ h => hQ.panic _ _ _ _ _ h) (.inr ⟨by kernel_rfl, rfl⟩) ?_
        refine r_take 29 undef (RB.pre _ _) rfl (by kernel_rfl) (fun _ _ _ h => hQ.panic _ _ _ _ _ h) (.inr ⟨by kernel_rfl, rfl⟩) ?_
        refine r_take 30 undef (RB.pre _ _) rfl (by kernel_rfl) (fun _ _ _ h => hQ.panic _ _ _ _ _ h) (.inr ⟨by kernel_rfl, rfl⟩) ?_
        refine r_take 31 undef (RB.pre _ _) rfl (by kernel_rfl) (fun _ _ _ h => hQ.panic _ _ _ _ _ h) (.inr ⟨by kernel_rfl, rfl⟩) ?_
        refine r_take 32 undef (RB.pre _ _) rfl (by kernel_rfl) (fun _ _ _ h => hQ.panic _ _ _ _ _ h) (.inr ⟨by kernel_rfl, rfl⟩) ?_
        refine r_take 33 undef (RB.pre _ _) rfl (by kernel_rfl) (fun _ _ _ h => hQ.panic _ _ _ _ _ h) (.inr ⟨by kernel_rfl, rfl⟩) ?_
        refine r_take 34 undef (RB.pre _ _) rfl (by kernel_rfl) (fun _ _ _ h => hQ.panic _ _ _ _ _ h) (.inr ⟨by kernel_rfl, rfl⟩) ?_
        refine r_take 35 undef (RB.pre _ _) rfl (by kernel_rfl) (fun _ _ _ h => hQ.panic _ _ _ _ _ h) (.inr ⟨by kernel_rfl, rfl⟩) ?_
        refine r_take 36 (.bool true) (RB.pre _ _) rfl (by kernel_rfl) (fun _ _ _ h => hQ.panic _ _ _ _ _ h) (.inl ⟨rfl, fun wq hq => (by kernel_rfl)⟩) ?_
        refine r_ready [37] (by kernel_rfl) rfl (all_cons ⟨_, _, _, _, _, _, rfl, ?_⟩ all_nil)
        refine o_pv (.bool true) rfl (by kernel_rfl) ?_
        refine ⟨fun h => absurd h (by decide), ?_⟩
        refine r_done (by kernel_rfl) ?_
        refine then_normal (hJ116 _ _ _ ⟨[(6, (.bool true))], fit_mk (fun _ _ => rfl) (by kernel_rfl) (vs_cons (by kernel_rfl) vs_nil), ?_⟩)
        exact ⟨X46, true, rfl, E144, hXo143, hS145, hN146, mokept148, mofiles149, Oo150, hokeep151, k147, hp⟩
      ·
        replace hp := hp.2 h155
        refine r_take 7 (.bool false) (RB.pre _ _) rfl (by kernel_rfl) (fun _ _ _ h => hQ.panic _ _ _ _ _ h) (.inl ⟨(by kernel_rfl), fun wq hq => (x_df (p := n_ = (0 : Int)) (by kernel_rfl) h155)⟩) ?_
        refine r_take 8 (.bool false) (RB.pre _ _) rfl (by kernel_rfl) (fun _ _ _ h => hQ.panic _ _ _ _ _ h) (.inl ⟨rfl, fun wq hq => (by kernel_rfl)⟩) ?_
        refine r_take 9 (.bool false) (RB.pre _ _) rfl (by kernel_rfl) (fun _ _ _ h => hQ.panic _ _ _ _ _ h) (.inl ⟨rfl, fun wq hq => (by kernel_rfl)⟩) ?_
        by_cases h156 : (mhas f_.files p) = true
        ·
          replace hp := hp.1 h156
          refine r_take 10 (.bool true) (RB.pre _ _) rfl (by kernel_rfl) (fun _ _ _ h => hQ.panic _ _ _ _ _ h) (.inl ⟨(by kernel_rfl), fun wq hq => (x_bt (by kernel_rfl) h156)⟩) ?_
          refine r_take 11 (.bool true) (RB.pre _ _) rfl (by kernel_rfl) (fun _ _ _ h => hQ.panic _ _ _ _ _ h) (.inl ⟨(by kernel_rfl), fun wq hq => (by kernel_rfl)⟩) ?_
          refine r_take 12 (.int .i64 n_) (RB.pre _ _) rfl (by kernel_rfl) (fun _ _ _ h => hQ.panic _ _ _ _ _ h) (.inl ⟨(by kernel_rfl), fun wq hq => (by kernel_rfl)⟩) ?_
          refine r_take 13 (.pointer (some ⟨b44, 3, none⟩)) (RB.pre _ _) rfl (by kernel_rfl) (fun _ _ _ h => hQ.panic _ _ _ _ _ h) (.inl ⟨(by kernel_rfl), fun wq hq => (by kernel_rfl)⟩) ?_
          refine r_take 14 (.slice alb41 (((mgetD f_.files p).b).length) clb42) (RB.pre _ _) rfl (by kernel_rfl) (fun _ _ _ h => hQ.panic _ _ _ _ _ h) (.inl ⟨(by kernel_rfl), fun wq hq => (x_load1 (by kernel_rfl) Tryd.isAgg91 ((Blk.rb k153.2.1 (RB.trans er141 hq) (Nat.lt_of_lt_of_eq (Blk.lt k153.2.1) z140) (fun h => by cases h)).cell' 3 rfl))⟩) ?_
          refine r_take 15 (.int .i64 (((mgetD f_.files p).b).length : Int)) (RB.pre _ _) rfl (by kernel_rfl) (fun _ _ _ h => hQ.panic _ _ _ _ _ h) (.inl ⟨(by kernel_rfl), fun wq hq => (by kernel_rfl)⟩) ?_
          by_cases h157 : n_ ≤ (((mgetD f_.files p).b).length : Int)
          ·
            replace hp := hp.1 h157
            refine r_take 16 (.bool true) (RB.pre _ _) rfl (by kernel_rfl) (fun _ _ _ h => hQ.panic _ _ _ _ _ h) (.inl ⟨(by kernel_rfl), fun wq hq => (x_dt (p := n_ ≤ (((mgetD f_.files p).b).length : Int)) (by kernel_rfl) h157)⟩) ?_
            refine r_take 17 (.bool true) (RB.pre _ _) rfl (by kernel_rfl) (fun _ _ _ h => hQ.panic _ _ _ _ _ h) (.inl ⟨(by kernel_rfl), fun wq hq => (by kernel_rfl)⟩) ?_
            refine r_take 18 (.bool true) (RB.pre _ _) rfl (by kernel_rfl) (fun _ _ _ h => hQ.panic _ _ _ _ _ h) (.inl ⟨rfl, fun wq hq => (by kernel_rfl)⟩) ?_
            refine r_take 19 (.bool true) (RB.pre _ _) rfl (by kernel_rfl) (fun _ _ _ h => hQ.panic _ _ _ _ _ h) (.inl ⟨rfl, fun wq hq => (by kernel_rfl)⟩) ?_
            refine r_take 20 undef (RB.pre _ _) rfl (by kernel_rfl) (fun _ _ _ h => hQ.panic _ _ _ _ _ h) (.inr ⟨by kernel_rfl, rfl⟩) ?_
            refine r_take 21 undef (RB.pre _ _) rfl (by kernel_rfl) (fun _ _ _ h => hQ.panic _ _ _ _ _ h) (.inr ⟨by kernel_rfl, rfl⟩) ?_
            refine r_take 22 undef (RB.pre _ _) rfl (by kernel_rfl) (fun _ _ _ h => hQ.panic _ _ _ _ _ h) (.inr ⟨by kernel_rfl, rfl⟩) ?_
            refine r_take 23 undef (RB.pre _ _) rfl (by kernel_rfl) (fun _ _ _ h => hQ.panic _ _ _ _ _ h) (.inr ⟨by kernel_rfl, rfl⟩) ?_
            refine r_take 24 undef (RB.pre _ _) rfl (by kernel_rfl) (fun _ _ _ h => hQ.panic _ _ _ _ _ h) (.inr ⟨by kernel_rfl, rfl⟩) ?_
            refine r_take 25 undef (RB.pre _ _) rfl (by kernel_rfl) (fun _ _ _ h => hQ.panic _ _ _ _ _ h) (.inr ⟨by kernel_rfl, rfl⟩) ?_
            refine r_take 26 undef (RB.pre _ _) rfl (by kernel_rfl) (fun _ _ _ h => hQ.panic _ _ _ _ _ h) (.inr ⟨by kernel_rfl, rfl⟩) ?_
            refine r_take 27 undef (RB.pre _ _) rfl (by kernel_rfl) (fun _ _ _ h => hQ.panic _ _ _ _ _ h) (.inr ⟨by kernel_rfl, rfl⟩) ?_
            refine r_take 28 undef (RB.pre _ _) rfl (by kernel_rfl) (fun _ _ _ h => hQ.panic _ _ _ _ _ h) (.inr ⟨by kernel_rfl, rfl⟩) ?_
            refine r_take 29 undef (RB.pre _ _) rfl (by kernel_rfl) (fun _ _ _ h => hQ.panic _ _ _ _ _ h) (.inr ⟨by kernel_rfl, rfl⟩) ?_
            refine r_take 30 undef (RB.pre _ _) rfl (by kernel_rfl) (fun _ _ _ h => hQ.panic _ _ _ _ _ h) (.inr ⟨by kernel_rfl, rfl⟩) ?_
            refine r_take 31 undef (RB.pre _ _) rfl (by kernel_rfl) (fun _ _ _ h => hQ.panic _ _ _ _ _ h) (.inr ⟨by kernel_rfl, rfl⟩) ?_
            refine r_take 32 undef (RB.pre _ _) rfl (by kernel_rfl) (fun _ _ _ h => hQ.panic _ _ _ _ _ h) (.inr ⟨by kernel_rfl, rfl⟩) ?_
            refine r_take 33 undef (RB.pre _ _) rfl (by kernel_rfl) (fun _ _ _ h => hQ.panic _ _ _ _ _ h) (.inr ⟨by kernel_rfl, rfl⟩) ?_
            refine r_take 34 undef (RB.pre _ _) rfl (by kernel_rfl) (fun _ _ _ h => hQ.panic _ _ _ _ _ h) (.inr ⟨by kernel_rfl, rfl⟩) ?_
            refine r_take 35 undef (RB.pre _ _) rfl (by kernel_rfl) (fun _ _ _ h => hQ.panic _ _ _ _ _ h) (.inr ⟨by kernel_rfl, rfl⟩) ?_
            refine r_take 36 (.bool true) (RB.pre _ _) rfl (by kernel_rfl) (fun _ _ _ h => hQ.panic _ _ _ _ _ h) (.inl ⟨rfl, fun wq hq => (by kernel_rfl)⟩) ?_
            refine r_ready [37] (by kernel_rfl) rfl (all_cons ⟨_, _, _, _, _, _, rfl, ?_⟩ all_nil)
            refine o_pv (.bool true) rfl (by kernel_rfl) ?_
            refine ⟨fun h => absurd h (by decide), ?_⟩
            refine r_done (by kernel_rfl) ?_
            refine then_normal (hJ116 _ _ _ ⟨[(6, (.bool true))], fit_mk (fun _ _ => rfl) (by kernel_rfl) (vs_cons (by kernel_rfl) vs_nil), ?_⟩)
            exact ⟨X46, true, rfl, E144, hXo143, hS145, hN146, mokept148, mofiles149, Oo150, hokeep151, k147, hp⟩
          ·
            replace hp := hp.2 h157
            refine r_take 16 (.bool false) (RB.pre _ _) rfl (by kernel_rfl) (fun _ _ _ h => hQ.panic _ _ _ _ _ h) (.inl ⟨(by kernel_rfl), fun wq hq => (x_df (p := n_ ≤ (((mgetD f_.files p).b).length : Int)) (by kernel_rfl) h157)⟩) ?_
            refine r_take 17 (.bool false) (RB.pre _ _) rfl (by kernel_rfl) (fun _ _ _ h => hQ.panic _ _ _ _ _ h) (.inl ⟨(by kernel_rfl), fun wq hq => (by kernel_rfl)⟩) ?_
            refine r_take 18 (.bool false) (RB.pre _ _) rfl (by kernel_rfl) (fun _ _ _ h => hQ.panic _ _ _ _ _ h) (.inl ⟨rfl, fun wq hq => (by kernel_rfl)⟩) ?_
            refine r_take 19 (.bool false) (RB.pre _ _) rfl (by kernel_rfl) (fun _ _ _ h => hQ.panic _ _ _ _ _ h) (.inl ⟨rfl, fun wq hq => (by kernel_rfl)⟩) ?_
            refine r_take 20 (.pointer (some ⟨bf_1, 0, none⟩)) (RB.pre _ _) rfl (by kernel_rfl) (fun _ _ _ h => hQ.panic _ _ _ _ _ h) (.inl ⟨(by kernel_rfl), fun wq hq => (by kernel_rfl)⟩) ?_
            refine r_take 21 (.pointer (some ⟨bf_1, 0, none⟩)) (RB.pre _ _) rfl (by kernel_rfl) (fun _ _ _ h => hQ.panic _ _ _ _ _ h) (.inl ⟨(by kernel_rfl), fun wq hq => (by kernel_rfl)⟩) ?_
            refine r_take 22 (.pointer (some ⟨bf_1, 1, none⟩)) (RB.pre _ _) rfl (by kernel_rfl) (fun _ _ _ h => hQ.panic _ _ _ _ _ h) (.inl ⟨(by kernel_rfl), fun wq hq => (by kernel_rfl)⟩) ?_
            refine r_take 23 (.map (some rofiles10)) (RB.pre _ _) rfl (by kernel_rfl) (fun _ _ _ h => hQ.panic _ _ _ _ _ h) (.inl ⟨(by kernel_rfl), fun wq hq => (x_load1 (by kernel_rfl) Tryd.isAgg150 ((Blk.rb k147.2.1 (RB.trans er141 hq) (Nat.lt_of_lt_of_eq (Blk.lt k147.2.1) z140) (fun h => by cases h)).cell' 1 rfl))⟩) ?_
            refine r_take 25 (.pointer (some ⟨b44, 3, none⟩)) (RB.pre _ _) rfl (by kernel_rfl) (fun _ _ _ h => hQ.panic _ _ _ _ _ h) (.inl ⟨(by kernel_rfl), fun wq hq => (by kernel_rfl)⟩) ?_
            refine r_take 26 (.slice alb41 (((mgetD f_.files p).b).length) clb42) (RB.pre _ _) rfl (by kernel_rfl) (fun _ _ _ h => hQ.panic _ _ _ _ _ h) (.inl ⟨(by kernel_rfl), fun wq hq => (x_load1 (by kernel_rfl) Tryd.isAgg91 ((Blk.rb k153.2.1 (RB.trans er141 hq) (Nat.lt_of_lt_of_eq (Blk.lt k153.2.1) z140) (fun h => by cases h)).cell' 3 rfl))⟩) ?_
            refine r_take 27 (.int .i64 (((mgetD f_.files p).b).length : Int)) (RB.pre _ _) rfl (by kernel_rfl) (fun _ _ _ h => hQ.panic _ _ _ _ _ h) (.inl ⟨(by kernel_rfl), fun wq hq => (by kernel_rfl)⟩) ?_
            refine r_take 29 (.int .i64 n_) (RB.pre _ _) rfl (by kernel_rfl) (fun _ _ _ h => hQ.panic _ _ _ _ _ h) (.inl ⟨(by kernel_rfl), fun wq hq => (by kernel_rfl)⟩) ?_
            refine r_take 31 (.pointer (some ⟨bf_1, 0, none⟩)) (RB.pre _ _) rfl (by kernel_rfl) (fun _ _ _ h => hQ.panic _ _ _ _ _ h) (.inl ⟨(by kernel_rfl), fun wq hq => (by kernel_rfl)⟩) ?_
            refine r_take 32 (.pointer (some ⟨bf_1, 0, none⟩)) (RB.pre _ _) rfl (by kernel_rfl) (fun _ _ _ h => hQ.panic _ _ _ _ _ h) (.inl ⟨(by kernel_rfl), fun wq hq => (by kernel_rfl)⟩) ?_
            refine r_take 33 (.pointer (some ⟨bf_1, 3, none⟩)) (RB.pre _ _) rfl (by kernel_rfl) (fun _ _ _ h => hQ.panic _ _ _ _ _ h) (.inl ⟨(by kernel_rfl), fun wq hq => (by kernel_rfl)⟩) ?_
            refine r_take 34 (.int .i64 f_.quota) (RB.pre _ _) rfl (by kernel_rfl) (fun _ _ _ h => hQ.panic _ _ _ _ _ h) (.inl ⟨(by kernel_rfl), fun wq hq => (x_load1 (by kernel_rfl) Tryd.isAgg3 ((Blk.rb k147.2.1 (RB.trans er141 hq) (Nat.lt_of_lt_of_eq (Blk.lt k147.2.1) z140) (fun h => by cases h)).cell' 3 rfl))⟩) ?_
            refine r_ready [24] (by kernel_rfl) rfl (all_cons ⟨_, _, _, _, _, _, rfl, ?_⟩ all_nil)
            refine o_call 123 #[(.map (some rofiles10))] (by kernel_rfl) (x_call Tryd.call123 (by kernel_rfl)) (simfs_sum_w (X := []) (l := f_.files) (Old.nil _) (OM.rm mofiles149) hp) ?_
            rintro _ w159 ⟨r158, hp, e160, rfl, rr162⟩
            have rm := RB.mono (F' := []) e160 (Nat.le_trans (Nat.le_of_eq z140.symm) (RB.size er141)) (fun _ h => by cases h)
            have er163 := RB.trans er141 rm
            refine ⟨fun _ => rm, ?_⟩
            have s161 := Step.of0 X46 e160
            replace hp := hp rr162
            obtain ⟨h164, hp⟩ := hp
            refine r_take 28 (.int .i64 (r158 - (((mgetD f_.files p).b).length : Int))) (RB.pre _ _) rfl (by kernel_rfl) (fun _ _ _ h => hQ.panic _ _ _ _ _ h) (.inl ⟨(by kernel_rfl), fun wq hq => (x_sub2 (k := .i64) (a := r158) (b := (((mgetD f_.files p).b).length : Int)) (r158 - (((mgetD f_.files p).b).length : Int)) (by kernel_rfl) (by kernel_rfl) (wrap_inR h164))⟩) ?_
            obtain ⟨h165, hp⟩ := hp
            refine r_take 30 (.int .i64 ((r158 - (((mgetD f_.files p).b).length : Int)) + n_)) (RB.pre _ _) rfl (by kernel_rfl) (fun _ _ _ h => hQ.panic _ _ _ _ _ h) (.inl ⟨(by kernel_rfl), fun wq hq => (x_add2 (k := .i64) (a := r158 - (((mgetD f_.files p).b).length : Int)) (b := n_) ((r158 - (((mgetD f_.files p).b).length : Int)) + n_) (by kernel_rfl) (by kernel_rfl) (wrap_inR h165))⟩) ?_
            refine r_take 35 (.bool (decide (((r158 - (((mgetD f_.files p).b).length : Int)) + n_) ≤ f_.quota))) (RB.pre _ _) rfl (by kernel_rfl) (fun _ _ _ h => hQ.panic _ _ _ _ _ h) (.inl ⟨(by kernel_rfl), fun wq hq => (by kernel_rfl)⟩) ?_
            refine r_take 36 (.bool (decide (((r158 - (((mgetD f_.files p).b).length : Int)) + n_) ≤ f_.quota))) (RB.pre _ _) rfl (by kernel_rfl) (fun _ _ _ h => hQ.panic _ _ _ _ _ h) (.inl ⟨rfl, fun wq hq => (by kernel_rfl)⟩) ?_
            refine r_ready [37] (by kernel_rfl) rfl (all_cons ⟨_, _, _, _, _, _, rfl, ?_⟩ all_nil)
            refine o_pv (.bool (decide (((r158 - (((mgetD f_.files p).b).length : Int)) + n_) ≤ f_.quota))) rfl (by kernel_rfl) ?_
            refine ⟨fun h => absurd h (by decide), ?_⟩
            refine r_done (by kernel_rfl) ?_
            have E166 := (Evo.then0 E144 e160)
            have hXo167 := (Old.step hXo143 s161)
            have hS168 := (Sub.trans hS145 (Step.up s161))
            have hN169 := (News.step hN146 s161)
            have mokept170 := (OM.step0 mokept148 s161)
            have mofiles171 := (OM.step0 mofiles149 s161)
            have Oo172 := (OS.step0 Oo150 s161)
            have hokeep173 := (Sl.step hokeep151 s161)
            have k174 := (OB.step0 k147 s161)
            refine then_normal (hJ116 _ _ _ ⟨[(6, (.bool (decide (((r158 - (((mgetD f_.files p).b).length : Int)) + n_) ≤ f_.quota))))], fit_mk (fun _ _ => rfl) (by kernel_rfl) (vs_cons (by kernel_rfl) vs_nil), ?_⟩)
            exact ⟨X46, (decide (((r158 - (((mgetD f_.files p).b).length : Int)) + n_) ≤ f_.quota)), rfl, E166, hXo167, hS168, hN169, mokept170, mofiles171, Oo172, hokeep173, k174, hp⟩
        ·
          replace hp := hp.2 h156
          refine r_take 10 (.bool false) (RB.pre _ _) rfl (by kernel_rfl) (fun _ _ _ h => hQ.panic _ _ _ _ _ h) (.inl ⟨(by kernel_rfl), fun wq hq => (x_bf (by kernel_rfl) h156)⟩) ?_
          refine r_take 11 (.bool false) (RB.pre _ _) rfl (by kernel_rfl) (fun _ _ _ h => hQ.panic _ _ _ _ _ h) (.inl ⟨(by kernel_rfl), fun wq hq => (by kernel_rfl)⟩) ?_
          refine r_take 12 undef (RB.pre _ _) rfl (by kernel_rfl) (fun _ _ _ h => hQ.panic _ _ _ _ _ h) (.inr ⟨by kernel_rfl, rfl⟩) ?_
          refine r_take 13 undef (RB.pre _ _) rfl (by kernel_rfl) (fun _ _ _ h => hQ.panic _ _ _ _ _ h) (.inr ⟨by kernel_rfl, rfl⟩) ?_
          refine r_take 14 undef (RB.pre _ _) rfl (by kernel_rfl) (fun _ _ _ h => hQ.panic _ _ _ _ _ h) (.inr ⟨by kernel_rfl, rfl⟩) ?_
          refine r_take 15 undef (RB.pre _ _) rfl (by kernel_rfl) (fun _ _ _ h => hQ.panic _ _ _ _ _ h) (.inr ⟨by kernel_rfl, rfl⟩) ?_
          refine r_take 16 undef (RB.pre _ _) rfl (by kernel_rfl) (fun _ _ _ h => hQ.panic _ _ _ _ _ h) (.inr ⟨by kernel_rfl, rfl⟩) ?_
          refine r_take 17 (.bool false) (RB.pre _ _) rfl (by kernel_rfl) (fun _ _ _ h => hQ.panic _ _ _ _ _ h) (.inl ⟨(by kernel_rfl), fun wq hq => (by kernel_rfl)⟩) ?_
          refine r_take 18 (.bool false) (RB.pre _ _) rfl (by kernel_rfl) (fun _ _ _ h => hQ.panic _ _ _ _ _ h) (.inl ⟨rfl, fun wq hq => (by kernel_rfl)⟩) ?_
          refine r_take 19 (.bool false) (RB.pre _ _) rfl (by kernel_rfl) (fun _ _ _ h => hQ.panic _ _ _ _ _ h) (.inl ⟨rfl, fun wq hq => (by kernel_rfl)⟩) ?_
          refine r_take 20 (.pointer (some ⟨bf_1, 0, none⟩)) (RB.pre _ _) rfl (by kernel_rfl) (fun _ _ _ h => hQ.panic _ _ _ _ _ h) (.inl ⟨(by kernel_rfl), fun wq hq => (by kernel_rfl)⟩) ?_
          refine r_take 21 (.pointer (some ⟨bf_1, 0, none⟩)) (RB.pre _ _) rfl (by kernel_rfl) (fun _ _ _ h => hQ.panic _ _ _ _ _ h) (.inl ⟨(by kernel_rfl), fun wq hq => (by kernel_rfl)⟩) ?_
          refine r_take 22 (.pointer (some ⟨bf_1, 1, none⟩)) (RB.pre _ _) rfl (by kernel_rfl) (fun _ _ _ h => hQ.panic _ _ _ _ _ h) (.inl ⟨(by kernel_rfl), fun wq hq => (by kernel_rfl)⟩) ?_
          refine r_take 23 (.map (some rofiles10)) (RB.pre _ _) rfl (by kernel_rfl) (fun _ _ _ h => hQ.panic _ _ _ _ _ h) (.inl ⟨(by kernel_rfl), fun wq hq => (x_load1 (by kernel_rfl) Tryd.isAgg150 ((Blk.rb k147.2.1 (RB.trans er141 hq) (Nat.lt_of_lt_of_eq (Blk.lt k147.2.1) z140) (fun h => by cases h)).cell' 1 rfl))⟩) ?_
          refine r_take 25 (.pointer (some ⟨b44, 3, none⟩)) (RB.pre _ _) rfl (by kernel_rfl) (fun _ _ _ h => hQ.panic _ _ _ _ _ h) (.inl ⟨(by kernel_rfl), fun wq hq => (by kernel_rfl)⟩) ?_
          refine r_take 26 (.slice alb41 (((mgetD f_.files p).b).length) clb42) (RB.pre _ _) rfl (by kernel_rfl) (fun _ _ _ h => hQ.panic _ _ _ _ _ h) (.inl ⟨(by kernel_rfl), fun wq hq => (x_load1 (by kernel_rfl) Tryd.isAgg91 ((Blk.rb k153.2.1 (RB.trans er141 hq) (Nat.lt_of_lt_of_eq (Blk.lt k153.2.1) z140) (fun h => by cases h)).cell' 3 rfl))⟩) ?_
          refine r_take 27 (.int .i64 (((mgetD f_.files p).b).length : Int)) (RB.pre _ _) rfl (by kernel_rfl) (fun _ _ _ h => hQ.panic _ _ _ _ _ h) (.inl ⟨(by kernel_rfl), fun wq hq => (by kernel_rfl)⟩) ?_
          refine r_take 29 (.int .i64 n_) (RB.pre _ _) rfl (by kernel_rfl) (fun _ _ _ h => hQ.panic _ _ _ _ _ h) (.inl ⟨(by kernel_rfl), fun wq hq => (by kernel_rfl)⟩) ?_
          refine r_take 31 (.pointer (some ⟨bf_1, 0, none⟩)) (RB.pre _ _) rfl (by kernel_rfl) (fun _ _ _ h => hQ.panic _ _ _ _ _ h) (.inl ⟨(by kernel_rfl), fun wq hq => (by kernel_rfl)⟩) ?_
          refine r_take 32 (.pointer (some ⟨bf_1, 0, none⟩)) (RB.pre _ _) rfl (by kernel_rfl) (fun _ _ _ h => hQ.panic _ _ _ _ _ h) (.inl ⟨(by kernel_rfl), fun wq hq => (by kernel_rfl)⟩) ?_
          refine r_take 33 (.pointer (some ⟨bf_1, 3, none⟩)) (RB.pre _ _) rfl (by kernel_rfl) (fun _ _ _ h => hQ.panic _ _ _ _ _ h) (.inl ⟨(by kernel_rfl), fun wq hq => (by kernel_rfl)⟩) ?_
          refine r_take 34 (.int .i64 f_.quota) (RB.pre _ _) rfl (by kernel_rfl) (fun _ _ _ h => hQ.panic _ _ _ _ _ h) (.inl ⟨(by kernel_rfl), fun wq hq => (x_load1 (by kernel_rfl) Tryd.isAgg3 ((Blk.rb k147.2.1 (RB.trans er141 hq) (Nat.lt_of_lt_of_eq (Blk.lt k147.2.1) z140) (fun h => by cases h)).cell' 3 rfl))⟩) ?_
          refine r_ready [24] (by kernel_rfl) rfl (all_cons ⟨_, _, _, _, _, _, rfl, ?_⟩ all_nil)
          refine o_call 123 #[(.map (some rofiles10))] (by kernel_rfl) (x_call Tryd.call123 (by kernel_rfl)) (simfs_sum_w (X := []) (l := f_.files) (Old.nil _) (OM.rm mofiles149) hp) ?_
          rintro _ w176 ⟨r175, hp, e177, rfl, rr179⟩
          have rm := RB.mono (F' := []) e177 (Nat.le_trans (Nat.le_of_eq z140.symm) (RB.size er141)) (fun _ h => by cases h)
          have er180 := RB.trans er141 rm
          refine ⟨fun _ => rm, ?_⟩
          have s178 := Step.of0 X46 e177
          replace hp := hp rr179
          obtain ⟨h181, hp⟩ := hp
          refine r_take 28 (.int .i64 (r175 - (((mgetD f_.files p).b).length : Int))) (RB.pre _ _) rfl (by kernel_rfl) (fun _ _ _ h => hQ.panic _ _ _ _ _ h) (.inl ⟨(by kernel_rfl), fun wq hq => (x_sub2 (k := .i64) (a := r175) (b := (((mgetD f_.files p).b).length : Int)) (r175 - (((mgetD f_.files p).b).length : Int)) (by kernel_rfl) (by kernel_rfl) (wrap_inR h181))⟩) ?_
          obtain ⟨h182, hp⟩ := hp
          refine r_take 30 (.int .i64 ((r175 - (((mgetD f_.files p).b).length : Int)) + n_)) (RB.pre _ _) rfl (by kernel_rfl) (fun _ _ _ h => hQ.panic _ _ _ _ _ h) (.inl ⟨(by kernel_rfl), fun wq hq => (x_add2 (k := .i64) (a := r175 - (((mgetD f_.files p).b).length : Int)) (b := n_) ((r175 - (((mgetD f_.files p).b).length : Int)) + n_) (by kernel_rfl) (by kernel_rfl) (wrap_inR h182))⟩) ?_
          refine r_take 35 (.bool (decide (((r175 - (((mgetD f_.files p).b).length : Int)) + n_) ≤ f_.quota))) (RB.pre _ _) rfl (by kernel_rfl) (fun _ _ _ h => hQ.panic _ _ _ _ _ h) (.inl ⟨(by kernel_rfl), fun wq hq => (by kernel_rfl)⟩) ?_
          refine r_take 36 (.bool (decide (((r175 - (((mgetD f_.files p).b).length : Int)) + n_) ≤ f_.quota))) (RB.pre _ _) rfl (by kernel_rfl) (fun _ _ _ h => hQ.panic _ _ _ _ _ h) (.inl ⟨rfl, fun wq hq => (by kernel_rfl)⟩) ?_
          refine r_ready [37] (by kernel_rfl) rfl (all_cons ⟨_, _, _, _, _, _, rfl, ?_⟩ all_nil)
          refine o_pv (.bool (decide (((r175 - (((mgetD f_.files p).b).length : Int)) + n_) ≤ f_.quota))) rfl (by kernel_rfl) ?_
          refine ⟨fun h => absurd h (by decide), ?_⟩
          refine r_done (by kernel_rfl) ?_
          have E183 := (Evo.then0 E144 e177)
          have hXo184 := (Old.step hXo143 s178)
          have hS185 := (Sub.trans hS145 (Step.up s178))
          have hN186 := (News.step hN146 s178)
          have mokept187 := (OM.step0 mokept148 s178)
          have mofiles188 := (OM.step0 mofiles149 s178)
          have Oo189 := (OS.step0 Oo150 s178)
          have hokeep190 := (Sl.step hokeep151 s178)
          have k191 := (OB.step0 k147 s178)
          refine then_normal (hJ116 _ _ _ ⟨[(6, (.bool (decide (((r175 - (((mgetD f_.files p).b).length : Int)) + n_) ≤ f_.quota))))], fit_mk (fun _ _ => rfl) (by kernel_rfl) (vs_cons (by kernel_rfl) vs_nil), ?_⟩)
          exact ⟨X46, (decide (((r175 - (((mgetD f_.files p).b).length : Int)) + n_) ≤ f_.quota)), rfl, E183, hXo184, hS185, hN186, mokept187, mofiles188, Oo189, hokeep190, k191, hp⟩
  ·
    rintro _ w113 g192 ⟨X114, s110, rfl, E128, hXo129, hS130, hN131, mokept132, mofiles133, Oo134, hokeep135, k136, hv117⟩
    replace hp := hk112 s110 hv117
    refine then_normal (K62 _ _ _ _ ?_)
    refine wp_ret ?_
    obtain ⟨F193, m194, hs195⟩ := MO.pack (o_simfs_FS_mk k136 mokept132 mofiles133 Oo134 roquota16 ronow17 roinodes18 roops_19 roleft20 hokeep135 rfl p29 p30 p31 p32 p33 p34)
    refine end_ret hQ (.bool s110) (by kernel_rfl) ?_
    exact ⟨f_, s110, hp, X114, F193, step_of E128 hF0 hS130 hN131, rfl, m194⟩

def simfs_FS_may_p (f_ : S_simfs_FS) (p : ByteArray) (mode : Int) (b : (List Int)) (Q : S_simfs_FS → Int → Prop) : Prop :=
  ((p.size ≤ maxLen) → ((inR .i64 mode) → ((b.length ≤ 9223372036854775807) → ((f_.pending.length ≤ 9223372036854775807) → ((inR .i64 f_.quota) → ((inR .i64 f_.now) → ((inR .i64 f_.inodes) → ((inR .i64 f_.ops_) → ((inR .i64 f_.left) → ((f_.keep.length ≤ 9223372036854775807) → (((f_.off = true) → Q f_ (13 : Int)) ∧ ((f_.off = false) → (path_Check_p p (fun (r46 : Int) => ((inR .i64 r46) → (((¬ (r46 = (0 : Int))) → Q f_ r46) ∧ ((r46 = (0 : Int)) → ((((b.length : Int) > (65536 : Int)) → Q f_ (4 : Int)) ∧ ((¬ ((b.length : Int) > (65536 : Int))) → ((((¬ (mode = (1 : Int))) ∧ (¬ (mode = (2 : Int)))) → Q f_ (1 : Int)) ∧ ((¬ ((¬ (mode = (1 : Int))) ∧ (¬ (mode = (2 : Int))))) → (simfs_clash_p f_.files p (ByteArray.mk #[]) (fun (r109 : Bool) => (((r109 = true) → Q f_ (11 : Int)) ∧ ((r109 = false) → (simfs_FS_room_p f_ p (b.length : Int) (fun (f_142 : S_simfs_FS) (r143 : Bool) => ((((!r143) = true) → Q f_142 (14 : Int)) ∧ (((!r143) = false) → Q f_142 (0 : Int))))))))))))))))))))))))))))))
set_option maxRecDepth 20000 in
set_option maxHeartbeats 4000000 in
theorem simfs_FS_may_w {X : List Nat} {w : World} {f_ : S_simfs_FS} {p : ByteArray} {mode : Int} {b : (List Int)} {bf_1 : Nat} {Ff_2 : List Nat} {ab6 : Option Addr} {cb7 : Nat} {Q : S_simfs_FS → Int → Prop} (hX0 : Old X w) (mf_3 : MO o_simfs_FS 153 Ff_2 w.heap.size X w Ff_2 bf_1 f_) (zp4 : p.size ≤ maxLen) (rmode5 : inR .i64 mode) (hb8 : Sl (rInt .u8) X w ab6 cb7 b) (hp : simfs_FS_may_p f_ p mode b Q) :
    Calls Tryd.prog 85 #[(.pointer (some ⟨bf_1, 0, none⟩)), (.string p), (.int .i64 mode), (.slice ab6 b.length cb7)] w (Ret fun v w' => ∃ (m0 : S_simfs_FS) (r0 : Int), Q m0 r0 ∧ ∃ (X' : List Nat) (Fm0 : List Nat), Step X w Ff_2 X' w' ∧ v = (.int .i64 r0) ∧ MO o_simfs_FS 153 Ff_2 w.heap.size X' w' Fm0 bf_1 m0 ∧ inR .i64 r0) := by
  have hXo := hX0
  have E0 : Evo Ff_2 w w := RB.refl _ _ _
  have hS : Sub X X := Sub.refl _
  have hN : News X w X w := News.refl _ _
  have hF0 : Sub Ff_2 X := MO.mem mf_3
  unfold simfs_FS_may_p at hp
  refine enter_ Tryd.func85 rfl 44 [(0, (.pointer (some ⟨bf_1, 0, none⟩))), (1, (.string p)), (2, (.int .i64 mode)), (3, (.slice ab6 b.length cb7))] (by kernel_rfl) (fun Qe hQ => ?_)
  replace hp := hp zp4
  replace hp := hp rmode5
  replace hp := hp (Sl.len hb8)
  refine seq_ (fun _ K9 => ?_)
  refine reg_ ?_
  refine sq (o_pv (.int .i64 (0 : Int)) rfl (by kernel_rfl) ?_)
  refine nil_ ?_
  refine then_normal (K9 _ _ _ _ ?_)
  refine seq_ (fun _ K10 => ?_)
  refine seq_ (fun _ K11 => ?_)
  refine reg_ ?_
  refine sq (o_pv (.pointer (some ⟨bf_1, 0, none⟩)) rfl (by kernel_rfl) ?_)
  refine sq (o_pv (.pointer (some ⟨bf_1, 0, none⟩)) rfl (by kernel_rfl) ?_)
  obtain ⟨rokept12, rofiles14, ao16, no17, co18, aokeep25, cokeep26, k28, mokept13, mofiles15, Oo19, roquota20, ronow21, roinodes22, roops_23, roleft24, hokeep27, sb29, sb30, sb31, sb32, p33, p34, p35, p36, p37, p38⟩ := o_simfs_FS_open mf_3
  replace hp := hp (OS.len Oo19)
  replace hp := hp roquota20
  replace hp := hp ronow21
  replace hp := hp roinodes22
  replace hp := hp roops_23
  replace hp := hp roleft24
  replace hp := hp (Sl.len hokeep27)
  refine sq (o_pv (.pointer (some ⟨bf_1, 7, none⟩)) rfl (by kernel_rfl) ?_)
  refine sq (o_pv (.bool f_.off) rfl (x_load1 (by kernel_rfl) Tryd.isAgg4 (k28.2.1.cell' 7 rfl)) ?_)
  refine nil_ ?_
  refine then_normal (K11 _ _ _ _ ?_)
  refine cond_b f_.off (by kernel_rfl) (fun h39 => ?_) (fun h39 => ?_)
  ·
    replace hp := hp.1 h39
    refine seq_ (fun _ K40 => ?_)
    refine reg_ ?_
    refine sq (o_pv (.int .i64 (13 : Int)) rfl (by kernel_rfl) ?_)
    refine nil_ ?_
    refine then_normal (K40 _ _ _ _ ?_)
    refine wp_ret ?_
    refine then_ret ?_
    obtain ⟨F41, m42, hs43⟩ := MO.pack (o_simfs_FS_mk k28 mokept13 mofiles15 Oo19 roquota20 ronow21 roinodes22 roops_23 roleft24 hokeep27 rfl p33 p34 p35 p36 p37 p38)
    refine end_ret hQ (.int .i64 (13 : Int)) (by kernel_rfl) ?_
    exact ⟨f_, (13 : Int), hp, X, F41, step_of E0 hF0 hS hN, rfl, m42, (by decide : inR .i64 (13 : Int))⟩
  ·
    replace hp := hp.2 h39
    refine wp_skip ?_
    refine then_normal (K10 _ _ _ _ ?_)
    refine seq_ (fun _ K44 => ?_)
    refine seq_ (fun _ K45 => ?_)
    refine reg_ ?_
    refine sq (o_pv (.string p) rfl (by kernel_rfl) ?_)
    refine sq (o_call 108 #[(.string p)] rfl (x_call Tryd.call108 (by kernel_rfl)) (path_Check_w (X := []) (p := p) (Old.nil _) zp4 hp) ?_)
    rintro _ w47 ⟨r46, hp, e48, rfl, rr50⟩
    have s49 := Step.of0 X e48
    replace hp := hp rr50
    refine sq (o_pv (.int .i64 r46) rfl (by kernel_rfl) ?_)
    refine nil_ ?_
    refine then_normal (K45 _ _ _ _ ?_)
    refine seq_ (fun _ K51 => ?_)
    refine reg_ ?_
    refine sq (o_pv (.int .i64 r46) rfl (by kernel_rfl) ?_)
    refine sq (o_pv (.bool (!decide (r46 = (0 : Int)))) rfl (by kernel_rfl) ?_)
    refine nil_ ?_
    refine then_normal (K51 _ _ _ _ ?_)
    refine cond_nd (r46 = (0 : Int)) (by kernel_rfl) (fun h52 => ?_) (fun h52 => ?_)
    ·
      replace hp := hp.1 h52
      refine seq_ (fun _ K53 => ?_)
      refine reg_ ?_
      refine sq (o_pv (.int .i64 r46) rfl (by kernel_rfl) ?_)
      refine sq (o_pv (.int .i64 r46) rfl (by kernel_rfl) ?_)
      refine nil_ ?_
      refine then_normal (K53 _ _ _ _ ?_)
      refine wp_ret ?_
      refine then_ret ?_
      have hb54 := (Sl.step hb8 s49)
      have hXo55 := (Old.step hXo s49)
      have E56 := (Evo.then0 E0 e48)
      have hS57 := (Sub.trans hS (Step.up s49))
      have hN58 := (News.step hN s49)
      have k59 := (OB.step0 k28 s49)
      have mokept60 := (OM.step0 mokept13 s49)
      have mofiles61 := (OM.step0 mofiles15 s49)
      have Oo62 := (OS.step0 Oo19 s49)
      have hokeep63 := (Sl.step hokeep27 s49)
      obtain ⟨F64, m65, hs66⟩ := MO.pack (o_simfs_FS_mk k59 mokept60 mofiles61 Oo62 roquota20 ronow21 roinodes22 roops_23 roleft24 hokeep63 rfl p33 p34 p35 p36 p37 p38)
      refine end_ret hQ (.int .i64 r46) (by kernel_rfl) ?_
      exact ⟨f_, r46, hp, X, F64, step_of E56 hF0 hS57 hN58, rfl, m65, rr50⟩
    ·
      replace hp := hp.2 h52
      refine wp_skip ?_
      refine then_normal (K44 _ _ _ _ ?_)
      refine seq_ (fun _ K67 => ?_)
      refine wp_block ?_
      refine seq_ (fun _ K68 => ?_)
      refine reg_ ?_
      refine sq (o_pv (.slice ab6 b.length cb7) rfl (by kernel_rfl) ?_)
      refine sq (o_pv (.int .i64 (b.length : Int)) rfl (by kernel_rfl) ?_)
      refine sq (o_pv (.bool (decide ((b.length : Int) > (65536 : Int)))) rfl (by kernel_rfl) ?_)
      refine sq (o_pv (.bool (decide ((b.length : Int) > (65536 : Int)))) rfl (by kernel_rfl) ?_)
      refine nil_ ?_
      refine then_normal (K68 _ _ _ _ ?_)
      refine cond_d ((b.length : Int) > (65536 : Int)) (by kernel_rfl) (fun h69 => ?_) (fun h69 => ?_)
      ·
        replace hp := hp.1 h69
        refine seq_ (fun _ K70 => ?_)
        refine reg_ ?_
        refine sq (o_pv (.int .i64 (4 : Int)) rfl (by kernel_rfl) ?_)
        refine nil_ ?_
        refine then_normal (K70 _ _ _ _ ?_)
        refine wp_ret ?_
        refine blk_ret ?_
        refine then_ret ?_
        have hb71 := (Sl.step hb8 s49)
        have hXo72 := (Old.step hXo s49)
        have E73 := (Evo.then0 E0 e48)
        have hS74 := (Sub.trans hS (Step.up s49))
        have hN75 := (News.step hN s49)
        have k76 := (OB.step0 k28 s49)
        have mokept77 := (OM.step0 mokept13 s49)
        have mofiles78 := (OM.step0 mofiles15 s49)
        have Oo79 := (OS.step0 Oo19 s49)
        have hokeep80 := (Sl.step hokeep27 s49)
        obtain ⟨F81, m82, hs83⟩ := MO.pack (o_simfs_FS_mk k76 mokept77 mofiles78 Oo79 roquota20 ronow21 roinodes22 roops_23 roleft24 hokeep80 rfl p33 p34 p35 p36 p37 p38)
        refine end_ret hQ (.int .i64 (4 : Int)) (by kernel_rfl) ?_
        exact ⟨f_, (4 : Int), hp, X, F81, step_of E73 hF0 hS74 hN75, rfl, m82, (by decide : inR .i64 (4 : Int))⟩
      ·
        replace hp := hp.2 h69
        refine seq_ (fun _ K84 => ?_)
        refine ground_ ?_
        refine join_ 1065353216 (fun lq w88 => lq = [(23, (.bool (decide ((¬ (mode = (1 : Int))) ∧ (¬ (mode = (2 : Int)))))))] ∧ w47 = w88) (fun Kj86 hJ87 => ?_) ?_
        ·
          refine reg_ ?_
          refine sq (o_pv (.int .i64 mode) rfl (by kernel_rfl) ?_)
          by_cases h90 : mode = (1 : Int)
          ·
            refine sq (o_pv (.bool false) rfl (x_ndf (p := mode = (1 : Int)) (by kernel_rfl) h90) ?_)
            refine sq (o_pv (.bool false) rfl (by kernel_rfl) ?_)
            refine sq (o_not (by kernel_rfl) ?_)
            refine sq (o_not (by kernel_rfl) ?_)
            refine sq (o_pv (.bool false) rfl (by kernel_rfl) ?_)
            refine sq (o_pv (.bool false) rfl (by kernel_rfl) ?_)
            refine nil_ ?_
            refine then_normal (hJ87 _ _ _ ⟨[(23, (.bool (decide ((¬ (mode = (1 : Int))) ∧ (¬ (mode = (2 : Int)))))))], fit_mk (fun _ _ => rfl) (by kernel_rfl) (vs_cons (Eq.trans (b := (.bool false)) (by kernel_rfl) (dec_f (iff_false_intro (fun h => (fun h1 => h1 h90) h.1))).symm) vs_nil), rfl, rfl⟩)
          ·
            refine sq (o_pv (.bool true) rfl (x_ndt (p := mode = (1 : Int)) (by kernel_rfl) h90) ?_)
            refine sq (o_pv (.bool true) rfl (by kernel_rfl) ?_)
            refine sq (o_pv (.int .i64 mode) (by kernel_rfl) (by kernel_rfl) ?_)
            refine sq (o_pv (.bool (!decide (mode = (2 : Int)))) (by kernel_rfl) (by kernel_rfl) ?_)
            refine sq (o_pv (.bool (!decide (mode = (2 : Int)))) rfl (by kernel_rfl) ?_)
            refine sq (o_pv (.bool (!decide (mode = (2 : Int)))) rfl (by kernel_rfl) ?_)
            refine nil_ ?_
            refine then_normal (hJ87 _ _ _ ⟨[(23, (.bool (decide ((¬ (mode = (1 : Int))) ∧ (¬ (mode = (2 : Int)))))))], fit_mk (fun _ _ => rfl) (by kernel_rfl) (vs_cons (Eq.trans (b := (.bool (!decide (mode = (2 : Int))))) (by kernel_rfl) (dec_n ((and_iff_right h90).trans Iff.rfl)).symm) vs_nil), rfl, rfl⟩)
        ·
          rintro _ w88 g89 ⟨rfl, hw⟩
          subst hw
          refine then_normal (K84 _ _ _ _ ?_)
          refine cond_d ((¬ (mode = (1 : Int))) ∧ (¬ (mode = (2 : Int)))) (by kernel_rfl) (fun h91 => ?_) (fun h91 => ?_)
          ·
            replace hp := hp.1 h91
            refine seq_ (fun _ K92 => ?_)
            refine reg_ ?_
            refine sq (o_pv (.int .i64 (1 : Int)) rfl (by kernel_rfl) ?_)
            refine nil_ ?_
            refine then_normal (K92 _ _ _ _ ?_)
            refine wp_ret ?_
            refine blk_ret ?_
            refine then_ret ?_
            have hb93 := (Sl.step hb8 s49)
            have hXo94 := (Old.step hXo s49)
            have E95 := (Evo.then0 E0 e48)
            have hS96 := (Sub.trans hS (Step.up s49))
            have hN97 := (News.step hN s49)
            have k98 := (OB.step0 k28 s49)
            have mokept99 := (OM.step0 mokept13 s49)
            have mofiles100 := (OM.step0 mofiles15 s49)
            have Oo101 := (OS.step0 Oo19 s49)
            have hokeep102 := (Sl.step hokeep27 s49)
            obtain ⟨F103, m104, hs105⟩ := MO.pack (o_simfs_FS_mk k98 mokept99 mofiles100 Oo101 roquota20 ronow21 roinodes22 roops_23 roleft24 hokeep102 rfl p33 p34 p35 p36 p37 p38)
            refine end_ret hQ (.int .i64 (1 : Int)) (by kernel_rfl) ?_
            exact ⟨f_, (1 : Int), hp, X, F103, step_of E95 hF0 hS96 hN97, rfl, m104, (by decide : inR .i64 (1 : Int))⟩
          ·
            replace hp := hp.2 h91
            refine seq_ (fun _ K106 => ?_)
            refine reg_ ?_
            refine sq (o_pv (.pointer (some ⟨bf_1, 0, none⟩)) rfl (by kernel_rfl) ?_)
            refine sq (o_pv (.pointer (some ⟨bf_1, 0, none⟩)) rfl (by kernel_rfl) ?_)
            refine sq (o_pv (.pointer (some ⟨bf_1, 1, none⟩)) rfl (by kernel_rfl) ?_)
            have k107 := (OB.step0 k28 s49)
            refine sq (o_pv (.map (some rofiles14)) rfl (x_load1 (by kernel_rfl) Tryd.isAgg150 (k107.2.1.cell' 1 rfl)) ?_)
            refine sq (o_pv (.string p) rfl (by kernel_rfl) ?_)
            have mofiles108 := (OM.step0 mofiles15 s49)
            refine sq (o_call 109 #[(.map (some rofiles14)), (.string p), (.string (ByteArray.mk #[]))] rfl (x_call Tryd.call109 (by kernel_rfl)) (simfs_clash_w (X := []) (l := f_.files) (p := p) (but := (ByteArray.mk #[])) (Old.nil _) (OM.rm mofiles108) zp4 (by decide : (ByteArray.mk #[]).size ≤ maxLen) hp) ?_)
            rintro _ w110 ⟨r109, hp, e111, rfl⟩
            have s112 := Step.of0 X e111
            refine sq (o_pv (.bool r109) rfl (by kernel_rfl) ?_)
            refine nil_ ?_
            refine then_normal (K106 _ _ _ _ ?_)
            refine cond_b r109 (by kernel_rfl) (fun h113 => ?_) (fun h113 => ?_)
            ·
              replace hp := hp.1 h113
              refine seq_ (fun _ K114 => ?_)
              refine reg_ ?_
              refine sq (o_pv (.int .i64 (11 : Int)) rfl (by kernel_rfl) ?_)
              refine nil_ ?_
              refine then_normal (K114 _ _ _ _ ?_)
              refine wp_ret ?_
              refine blk_ret ?_
              refine then_ret ?_
              have hb115 := (Sl.step (Sl.step hb8 s49) s112)
              have hXo116 := (Old.step (Old.step hXo s49) s112)
              have E117 := (Evo.then0 (Evo.then0 E0 e48) e111)
              have hS118 := (Sub.trans (Sub.trans hS (Step.up s49)) (Step.up s112))
              have hN119 := (News.step (News.step hN s49) s112)
              have k120 := (OB.step0 k107 s112)
              have mokept121 := (OM.step0 (OM.step0 mokept13 s49) s112)
              have mofiles122 := (OM.step0 mofiles108 s112)
              have Oo123 := (OS.step0 (OS.step0 Oo19 s49) s112)
              have hokeep124 := (Sl.step (Sl.step hokeep27 s49) s112)
              obtain ⟨F125, m126, hs127⟩ := MO.pack (o_simfs_FS_mk k120 mokept121 mofiles122 Oo123 roquota20 ronow21 roinodes22 roops_23 roleft24 hokeep124 rfl p33 p34 p35 p36 p37 p38)
              refine end_ret hQ (.int .i64 (11 : Int)) (by kernel_rfl) ?_
              exact ⟨f_, (11 : Int), hp, X, F125, step_of E117 hF0 hS118 hN119, rfl, m126, (by decide : inR .i64 (11 : Int))⟩
            ·
              replace hp := hp.2 h113
              refine seq_ (fun _ K128 => ?_)
              refine reg_ ?_
              refine sq (o_pv (.pointer (some ⟨bf_1, 0, none⟩)) rfl (by kernel_rfl) ?_)
              refine sq (o_pv (.string p) rfl (by kernel_rfl) ?_)
              refine sq (o_pv (.slice ab6 b.length cb7) rfl (by kernel_rfl) ?_)
              refine sq (o_pv (.int .i64 (b.length : Int)) rfl (by kernel_rfl) ?_)
              have hb129 := (Sl.step (Sl.step hb8 s49) s112)
              have hXo130 := (Old.step (Old.step hXo s49) s112)
              have E131 := (Evo.then0 (Evo.then0 E0 e48) e111)
              have hS132 := (Sub.trans (Sub.trans hS (Step.up s49)) (Step.up s112))
              have hN133 := (News.step (News.step hN s49) s112)
              have k134 := (OB.step0 k107 s112)
              have mokept135 := (OM.step0 (OM.step0 mokept13 s49) s112)
              have mofiles136 := (OM.step0 mofiles108 s112)
              have Oo137 := (OS.step0 (OS.step0 Oo19 s49) s112)
              have hokeep138 := (Sl.step (Sl.step hokeep27 s49) s112)
              obtain ⟨F139, m140, hs141⟩ := MO.pack (o_simfs_FS_mk k134 mokept135 mofiles136 Oo137 roquota20 ronow21 roinodes22 roops_23 roleft24 hokeep138 rfl p33 p34 p35 p36 p37 p38)
              refine sq (o_call 110 #[(.pointer (some ⟨bf_1, 0, none⟩)), (.string p), (.int .i64 (b.length : Int))] rfl (x_call Tryd.call110 (by kernel_rfl)) (simfs_FS_room_w (X := X) (f_ := f_) (p := p) (n_ := (b.length : Int)) hXo130 (MO.re m140 (Wr.self _ _ (Sub.refl _))) zp4 (inR_len (Sl.len hb8)) hp) ?_)
              rintro _ w144 ⟨f_142, r143, hp, X145, F147, s146, rfl, m148⟩
              have m149 := MO.re m148 (Wr.trans m148.wr m140.wr E131.size)
              refine sq (o_pv (.bool (!r143)) rfl (by kernel_rfl) ?_)
              refine sq (o_pv (.bool (!r143)) rfl (by kernel_rfl) ?_)
              refine nil_ ?_
              refine then_normal (K128 _ _ _ _ ?_)
              refine cond_b (!r143) (by kernel_rfl) (fun h150 => ?_) (fun h150 => ?_)
              ·
                replace hp := hp.1 h150
                refine seq_ (fun _ K151 => ?_)
                refine reg_ ?_
                refine sq (o_pv (.int .i64 (14 : Int)) rfl (by kernel_rfl) ?_)
                refine nil_ ?_
                refine then_normal (K151 _ _ _ _ ?_)
                refine wp_ret ?_
                refine blk_ret ?_
                refine then_ret ?_
                have hb152 := (Sl.step hb129 s146)
                have hXo153 := (Old.step hXo130 s146)
                have E154 := (Evo.thenW E131 (Step.evo s146) m140.wr)
                have hS155 := (Sub.trans hS132 (Step.up s146))
                have hN156 := (News.step hN133 s146)
                have hokeep157 := (Sl.step hokeep138 s146)
                refine end_ret hQ (.int .i64 (14 : Int)) (by kernel_rfl) ?_
                exact ⟨f_142, (14 : Int), hp, X145, F147, step_of E154 hF0 hS155 hN156, rfl, m149, (by decide : inR .i64 (14 : Int))⟩
              ·
                replace hp := hp.2 h150
                refine wp_skip ?_
                refine blk_normal ?_
                refine then_normal (K67 _ _ _ _ ?_)
                refine seq_ (fun _ K158 => ?_)
                refine reg_ ?_
                refine sq (o_pv (.int .i64 (0 : Int)) rfl (by kernel_rfl) ?_)
                refine nil_ ?_
                refine then_normal (K158 _ _ _ _ ?_)
                refine wp_ret ?_
                have hb159 := (Sl.step hb129 s146)
                have hXo160 := (Old.step hXo130 s146)
                have E161 := (Evo.thenW E131 (Step.evo s146) m140.wr)
                have hS162 := (Sub.trans hS132 (Step.up s146))
                have hN163 := (News.step hN133 s146)
                have hokeep164 := (Sl.step hokeep138 s146)
                refine end_ret hQ (.int .i64 (0 : Int)) (by kernel_rfl) ?_
                exact ⟨f_142, (0 : Int), hp, X145, F147, step_of E161 hF0 hS162 hN163, rfl, m149, (by decide : inR .i64 (0 : Int))⟩

def slices_Clone_byte_byte_p (s : (List Int)) (Q : (List Int) → Prop) : Prop :=
  ((s.length ≤ 9223372036854775807) → ((s.length * 1 ≤ 140737488355328) ∧ Q s))
set_option maxRecDepth 20000 in
set_option maxHeartbeats 4000000 in
theorem slices_Clone_byte_byte_w {X : List Nat} {w : World} {s : (List Int)} {as1 : Option Addr} {cs2 : Nat} {Q : (List Int) → Prop} (hX0 : Old X w) (hs3 : Sq (rInt .u8) X w as1 cs2 s) (hp : slices_Clone_byte_byte_p s Q) :
    Calls Tryd.prog 92 #[(.slice as1 s.length cs2)] w (Ret fun v w' => ∃ (r0 : (List Int)), Q r0 ∧ Evo [] w w' ∧ ∃ (a0 : Option Addr) (c0 : Nat), v = .slice a0 r0.length c0 ∧ OS (rInt .u8) [] w.heap.size (blkL a0 ++ X) w' 5 a0 r0.length c0 r0) := by
  have hXo := hX0
  have E0 : Evo [] w w := RB.refl _ _ _
  have hS : Sub X X := Sub.refl _
  unfold slices_Clone_byte_byte_p at hp
  refine enter_ Tryd.func92 rfl 8 [(0, (.slice as1 s.length cs2))] (by kernel_rfl) (fun Qe hQ => ?_)
  replace hp := hp (Sq.len hs3)
  refine seq_ (fun _ K4 => ?_)
  refine reg_ ?_
  refine sq (o_pv (.slice none 0 0) rfl (by kernel_rfl) ?_)
  refine nil_ ?_
  refine then_normal (K4 _ _ _ _ ?_)
  refine seq_ (fun _ K5 => ?_)
  refine seq_ (fun _ K6 => ?_)
  refine reg_ ?_
  refine sq (o_pv (.slice as1 s.length cs2) rfl (by kernel_rfl) ?_)
  rcases as1 with _ | ad
  ·
    obtain rfl : s = [] := hs3.2.elim (fun h => h.1) (fun ⟨b, o, xs, h, _⟩ => by cases h)
    replace hp := hp.2
    refine sq (o_pv (.bool true) rfl (by kernel_rfl) ?_)
    refine nil_ ?_
    refine then_normal (K6 _ _ _ _ ?_)
    refine cond_t (by kernel_rfl) ?_
    refine seq_ (fun _ K7 => ?_)
    refine reg_ ?_
    refine sq (o_pv (.slice none 0 0) rfl (by kernel_rfl) ?_)
    refine nil_ ?_
    refine then_normal (K7 _ _ _ _ ?_)
    refine wp_ret ?_
    refine then_ret ?_
    refine end_ret hQ (.slice none 0 0) (by kernel_rfl) ?_
    exact ⟨([] : List Int), hp, E0, none, 0, rfl, (OS.nil _ _ _ _)⟩
  ·
    refine sq (o_pv (.bool false) rfl (by kernel_rfl) ?_)
    refine nil_ ?_
    refine then_normal (K6 _ _ _ _ ?_)
    refine cond_f (by kernel_rfl) ?_
    refine wp_skip ?_
    refine then_normal (K5 _ _ _ _ ?_)
    refine seq_ (fun _ K8 => ?_)
    refine reg_ ?_
    refine sq (o_rowX (R := (rInt .u8)) [] ([] : List Int) 5 0 (X := X) (B := w.heap.size) E0.size rfl (by kernel_rfl) Flat.nil rfl (by decide) ?_)
    intro b9 w10 X11 s12 O13 n14
    refine sq (o_pv (.slice (some ad) s.length cs2) rfl (by kernel_rfl) ?_)
    obtain ⟨h15, hp⟩ := hp
    have hs16 := (Sq.step hs3 s12)
    have E17 := (Evo.then0 E0 (Step.evo s12))
    refine sq (o_appX (R := (rInt .u8)) (X := X11) (B := w.heap.size) (L := ([] : List Int)) (M := s) rfl elT91 rfl E17.size O13 (Sq.src hs16) rfl (by kernel_rfl) (by kernel_rfl) (by simpa using h15) ?_)
    intro a18 n19 c20 w21 X22 s23 O24 gr25
    rw [List.nil_append] at O24
    refine sq (o_pv (.slice a18 n19 c20) rfl (by kernel_rfl) ?_)
    refine nil_ ?_
    refine then_normal (K8 _ _ _ _ ?_)
    refine wp_ret ?_
    have hS26 := (Sub.trans (Sub.trans hS (Step.up s12)) (Step.up s23))
    have E27 := (Evo.thenW E17 (Step.evo s23) O13.2.2)
    refine end_ret hQ (.slice a18 n19 c20) (by kernel_rfl) ?_
    exact ⟨s, hp, E27, a18, c20, (by (rw [show n19 = s.length from O24.1]); first | done | rfl), (OS.give O24 hS26)⟩

def simfs_FS_put_p (f_ : S_simfs_FS) (p : ByteArray) (mode : Int) (b : (List Int)) (Q : S_simfs_FS → S_simfs_op → Prop) : Prop :=
  ((p.size ≤ maxLen) → ((inR .i64 mode) → ((b.length ≤ 9223372036854775807) → ((f_.pending.length ≤ 9223372036854775807) → ((inR .i64 f_.quota) → ((inR .i64 f_.now) → ((inR .i64 f_.inodes) → ((inR .i64 f_.ops_) → ((inR .i64 f_.left) → ((f_.keep.length ≤ 9223372036854775807) → ((inR .i64 ((mgetD f_.files p).mode)) → ((inR .i64 ((mgetD f_.files p).time)) → ((inR .i64 ((mgetD f_.files p).inode)) → ((((mgetD f_.files p).b).length ≤ 9223372036854775807) → (∃ k111 : Int → Int → Prop, (∀ (f105 : Int) (f108 : Int), k111 f105 f108 → (inR .i64 f105) → (inR .i64 f108) → (slices_Clone_byte_byte_p b (fun (r189 : (List Int)) => ((r189.length ≤ 9223372036854775807) → Q (S_simfs_FS.mk f_.kept f_.files f_.pending f_.quota f_.now f105 f_.ops_ f_.off f_.armed f_.left f_.keep) (S_simfs_op.mk (1 : Int) p (ByteArray.mk #[]) (S_simfs_file.mk mode f_.now f108 r189)))))) ∧ ((((!(mhas f_.files p)) = true) → ((inR .i64 (f_.inodes + (1 : Int))) ∧ (k111 (f_.inodes + (1 : Int)) (f_.inodes + (1 : Int))))) ∧ (((!(mhas f_.files p)) = false) → (k111 f_.inodes ((mgetD f_.files p).inode)))))))))))))))))))
set_option maxRecDepth 20000 in
set_option maxHeartbeats 4000000 in
theorem simfs_FS_put_w {X : List Nat} {w : World} {f_ : S_simfs_FS} {p : ByteArray} {mode : Int} {b : (List Int)} {bf_1 : Nat} {Ff_2 : List Nat} {ab6 : Option Addr} {cb7 : Nat} {Q : S_simfs_FS → S_simfs_op → Prop} (hX0 : Old X w) (mf_3 : MO o_simfs_FS 153 Ff_2 w.heap.size X w Ff_2 bf_1 f_) (zp4 : p.size ≤ maxLen) (rmode5 : inR .i64 mode) (hb8 : Sl (rInt .u8) X w ab6 cb7 b) (hp : simfs_FS_put_p f_ p mode b Q) :
    Calls Tryd.prog 87 #[(.pointer (some ⟨bf_1, 0, none⟩)), (.string p), (.int .i64 mode), (.slice ab6 b.length cb7)] w (Ret fun v w' => ∃ (m0 : S_simfs_FS) (r0 : S_simfs_op), Q m0 r0 ∧ ∃ (X' : List Nat) (Fm0 : List Nat) (aq0fileb7 : Option Addr) (cq0fileb8 : Nat), Step X w Ff_2 X' w' ∧ v = (.agg #[(.int .i64 r0.kind), (.string r0.path), (.string r0.to_), (.int .i64 r0.file.mode), (.int .i64 r0.file.time), (.int .i64 r0.file.inode), (.slice aq0fileb7 r0.file.b.length cq0fileb8)]) ∧ MO o_simfs_FS 153 Ff_2 w.heap.size X' w' Fm0 bf_1 m0 ∧ inR .i64 r0.kind ∧ r0.path.size ≤ maxLen ∧ r0.to_.size ≤ maxLen ∧ inR .i64 r0.file.mode ∧ inR .i64 r0.file.time ∧ inR .i64 r0.file.inode ∧ Sl (rInt .u8) X' w' aq0fileb7 cq0fileb8 r0.file.b ∧ Pin w w' bf_1 1) := by
  have hXo := hX0
  have E0 : Evo Ff_2 w w := RB.refl _ _ _
  have hS : Sub X X := Sub.refl _
  have hN : News X w X w := News.refl _ _
  have hF0 : Sub Ff_2 X := MO.mem mf_3
  unfold simfs_FS_put_p at hp
  refine enter_ Tryd.func87 rfl 46 [(0, (.pointer (some ⟨bf_1, 0, none⟩))), (1, (.string p)), (2, (.int .i64 mode)), (3, (.slice ab6 b.length cb7))] (by kernel_rfl) (fun Qe hQ => ?_)
  replace hp := hp zp4
  replace hp := hp rmode5
  replace hp := hp (Sl.len hb8)
  obtain ⟨rokept9, rofiles11, ao13, no14, co15, aokeep22, cokeep23, k25, mokept10, mofiles12, Oo16, roquota17, ronow18, roinodes19, roops_20, roleft21, hokeep24, sb26, sb27, sb28, sb29, p30, p31, p32, p33, p34, p35⟩ := o_simfs_FS_open mf_3
  replace hp := hp (OS.len Oo16)
  replace hp := hp roquota17
  replace hp := hp ronow18
  replace hp := hp roinodes19
  replace hp := hp roops_20
  replace hp := hp roleft21
  replace hp := hp (Sl.len hokeep24)
  refine seq_ (fun _ K36 => ?_)
  refine reg_ ?_
  refine sq (o_newX [(.int .i64 (0 : Int)), (.string (ByteArray.mk #[])), (.string (ByteArray.mk #[])), (.int .i64 (0 : Int)), (.int .i64 (0 : Int)), (.int .i64 (0 : Int)), (.slice none 0 0)] 158 (X := X) (B := w.heap.size) E0.size rfl (by kernel_rfl) ?_)
  intro b37 w38 X39 s40 k41 n42
  have p43 := n42 _ (OB.old k25)
  have p44 := n42 _ (OM.old mokept10)
  have p45 := n42 _ (OM.old mofiles12)
  have p46 := n42 _ (OS.old Oo16)
  refine nil_ ?_
  refine then_normal (K36 _ _ _ _ ?_)
  refine seq_ (fun _ K47 => ?_)
  refine reg_ ?_
  refine sq (o_pv (.pointer (some ⟨bf_1, 0, none⟩)) rfl (by kernel_rfl) ?_)
  refine sq (o_pv (.pointer (some ⟨bf_1, 0, none⟩)) rfl (by kernel_rfl) ?_)
  refine sq (o_pv (.pointer (some ⟨bf_1, 1, none⟩)) rfl (by kernel_rfl) ?_)
  have k48 := (OB.step0 k25 s40)
  refine sq (o_pv (.map (some rofiles11)) rfl (x_load1 (by kernel_rfl) Tryd.isAgg150 (k48.2.1.cell' 1 rfl)) ?_)
  refine sq (o_pv (.string p) rfl (by kernel_rfl) ?_)
  have mofiles49 := (OM.step0 mofiles12 s40)
  obtain ⟨cs50, ok51, lk52⟩ := MapAt.look mofiles49.2.1 p [(.int .i64 (0 : Int)), (.int .i64 (0 : Int)), (.int .i64 (0 : Int)), (.slice none 0 0)] (fun _ _ => (r_simfs_file_mk (by decide : inR .i64 (0 : Int)) (by decide : inR .i64 (0 : Int)) (by decide : inR .i64 (0 : Int)) (Sl.nil) rfl))
  obtain ⟨alb56, clb57, rfl, rlmode53, rltime54, rlinode55, hlb58⟩ := r_simfs_file_open ok51
  replace hp := hp rlmode53
  replace hp := hp rltime54
  replace hp := hp rlinode55
  replace hp := hp (Sl.len hlb58)
  refine sq (o_pv (.tuple #[(.agg #[(.int .i64 ((mgetD f_.files p).mode)), (.int .i64 ((mgetD f_.files p).time)), (.int .i64 ((mgetD f_.files p).inode)), (.slice alb56 (((mgetD f_.files p).b).length) clb57)]), (.bool (mhas f_.files p))]) rfl (x_lookup2 (w0 := w38) (k := p) (v := (.agg #[(.int .i64 ((mgetD f_.files p).mode)), (.int .i64 ((mgetD f_.files p).time)), (.int .i64 ((mgetD f_.files p).inode)), (.slice alb56 (((mgetD f_.files p).b).length) clb57)])) (z := (.agg #[(.int .i64 (0 : Int)), (.int .i64 (0 : Int)), (.int .i64 (0 : Int)), (.slice none 0 0)])) (b := mhas f_.files p) (s := 4) (bts := 48) (by kernel_rfl) (by kernel_rfl) lk52 rfl Tryd.underlying150 Tryd.underlying9 (by kernel_rfl)) ?_)
  refine sq (o_pv (.tuple #[(.agg #[(.int .i64 ((mgetD f_.files p).mode)), (.int .i64 ((mgetD f_.files p).time)), (.int .i64 ((mgetD f_.files p).inode)), (.slice alb56 (((mgetD f_.files p).b).length) clb57)]), (.bool (mhas f_.files p))]) rfl (by kernel_rfl) ?_)
  refine sq (o_pv (.agg #[(.int .i64 ((mgetD f_.files p).mode)), (.int .i64 ((mgetD f_.files p).time)), (.int .i64 ((mgetD f_.files p).inode)), (.slice alb56 (((mgetD f_.files p).b).length) clb57)]) rfl (by kernel_rfl) ?_)
  refine sq (o_pv (.bool (mhas f_.files p)) rfl (by kernel_rfl) ?_)
  have mokept65 := (OM.step0 mokept10 s40)
  have Oo66 := (OS.step0 Oo16 s40)
  have E67 := (Evo.then0 E0 (Step.evo s40))
  refine sq (o_newX [(.int .i64 (0 : Int)), (.int .i64 (0 : Int)), (.int .i64 (0 : Int)), (.slice none 0 0)] 156 (X := X39) (B := w.heap.size) E67.size rfl (by kernel_rfl) ?_)
  intro b59 w60 X61 s62 k63 n64
  have p68 := n64 _ (OB.old k48)
  have p69 := n64 _ (OM.old mokept65)
  have p70 := n64 _ (OM.old mofiles49)
  have p71 := n64 _ (OS.old Oo66)
  have p72 := n64 _ (OB.old k41)
  have k73 := (OB.step0 k48 s62)
  have mokept74 := (OM.step0 mokept65 s62)
  have mofiles75 := (OM.step0 mofiles49 s62)
  have Oo76 := (OS.step0 Oo66 s62)
  have k77 := (OB.step0 k41 s62)
  have E78 := (Evo.then0 E67 (Step.evo s62))
  refine sq (o_stB (o := 0) (v := (.agg #[(.int .i64 ((mgetD f_.files p).mode)), (.int .i64 ((mgetD f_.files p).time)), (.int .i64 ((mgetD f_.files p).inode)), (.slice alb56 (((mgetD f_.files p).b).length) clb57)])) [(.int .i64 ((mgetD f_.files p).mode)), (.int .i64 ((mgetD f_.files p).time)), (.int .i64 ((mgetD f_.files p).inode)), (.slice alb56 (((mgetD f_.files p).b).length) clb57)] rfl k63 (by kernel_rfl) (by kernel_rfl) Tryd.sizeOf156 rfl rfl rfl ?_)
  intro w79 s80 k81
  refine sq (o_pv (.bool (mhas f_.files p)) rfl (by kernel_rfl) ?_)
  refine nil_ ?_
  refine then_normal (K47 _ _ _ _ ?_)
  refine seq_ (fun _ K82 => ?_)
  refine seq_ (fun _ K83 => ?_)
  refine reg_ ?_
  refine sq (o_pv (.bool (mhas f_.files p)) rfl (by kernel_rfl) ?_)
  refine sq (o_pv (.bool (!(mhas f_.files p))) rfl (by kernel_rfl) ?_)
  refine nil_ ?_
  refine then_normal (K83 _ _ _ _ ?_)
  have hb118 := (Sl.step (Sl.step (Sl.step hb8 s40) s62) s80)
  have hXo119 := (Old.step (Old.step (Old.step hXo s40) s62) s80)
  have E120 := (Evo.thenW E78 (Step.evo s80) (Wr.of k63.2.2))
  have hS121 := (Sub.trans (Sub.trans (Sub.trans hS (Step.up s40)) (Step.up s62)) (Step.up s80))
  have hN122 := (News.step (News.step (News.step hN s40) s62) s80)
  have k123 := (OB.step k73 s80 p68)
  have mokept124 := (OM.step mokept74 s80 p69)
  have mofiles125 := (OM.step mofiles75 s80 p70)
  have Oo126 := (OS.step Oo76 s80 p71)
  have hokeep127 := (Sl.step (Sl.step (Sl.step hokeep24 s40) s62) s80)
  have k128 := (OB.step k77 s80 p72)
  have hlb129 := (Sl.step (Sl.step hlb58 s62) s80)
  obtain ⟨k111, hk112, hp⟩ := hp
  refine ground_ ?_
  refine join_ 17175674880 (fun lq w113 => ∃ (X114 : List Nat) (f105 : Int) (f108 : Int), (lq = []) ∧ (Evo Ff_2 w w113) ∧ (Old X114 w113) ∧ (Sub X X114) ∧ (News X w X114 w113) ∧ (Sl (rInt .u8) X114 w113 ab6 cb7 b) ∧ (OM r_simfs_file true Ff_2 w.heap.size X114 w113 rokept9 f_.kept) ∧ (OM r_simfs_file true Ff_2 w.heap.size X114 w113 rofiles11 f_.files) ∧ (OS r_simfs_op Ff_2 w.heap.size X114 w113 158 ao13 no14 co15 f_.pending) ∧ (Sl rBool X114 w113 aokeep22 cokeep23 f_.keep) ∧ (OB ([]) w.heap.size X114 w113 b37 [(.int .i64 (0 : Int)), (.string (ByteArray.mk #[])), (.string (ByteArray.mk #[])), (.int .i64 (0 : Int)), (.int .i64 (0 : Int)), (.int .i64 (0 : Int)), (.slice none 0 0)] 158) ∧ (Sl (rInt .u8) X114 w113 alb56 clb57 ((mgetD f_.files p).b)) ∧ (OB Ff_2 w.heap.size X114 w113 bf_1 [(.map (some rokept9)), (.map (some rofiles11)), (.slice ao13 no14 co15), (.int .i64 f_.quota), (.int .i64 f_.now), (.int .i64 f105), (.int .i64 f_.ops_), (.bool f_.off), (.bool f_.armed), (.int .i64 f_.left), (.slice aokeep22 f_.keep.length cokeep23)] 153) ∧ (OB ([]) w.heap.size X114 w113 b59 [(.int .i64 ((mgetD f_.files p).mode)), (.int .i64 ((mgetD f_.files p).time)), (.int .i64 f108), (.slice alb56 (((mgetD f_.files p).b).length) clb57)] 156) ∧ (inR .i64 f105) ∧ (inR .i64 f108) ∧ (k111 f105 f108)) (fun Kj115 hJ116 => ?_) ?_
  ·
    refine cond_b (!(mhas f_.files p)) (by kernel_rfl) (fun h141 => ?_) (fun h141 => ?_)
    ·
      replace hp := hp.1 h141
      refine seq_ (fun _ K142 => ?_)
      refine reg_ ?_
      refine sq (o_pv (.pointer (some ⟨bf_1, 0, none⟩)) rfl (by kernel_rfl) ?_)
      refine sq (o_pv (.pointer (some ⟨bf_1, 0, none⟩)) rfl (by kernel_rfl) ?_)
      refine sq (o_pv (.pointer (some ⟨bf_1, 5, none⟩)) rfl (by kernel_rfl) ?_)
      refine sq (o_pv (.int .i64 f_.inodes) rfl (x_load1 (by kernel_rfl) Tryd.isAgg3 (k123.2.1.cell' 5 rfl)) ?_)
      obtain ⟨h143, hp⟩ := hp
      refine sq (o_pv (.int .i64 (f_.inodes + (1 : Int))) rfl (x_add2 (k := .i64) (a := f_.inodes) (b := (1 : Int)) (f_.inodes + (1 : Int)) (by kernel_rfl) (by kernel_rfl) (wrap_inR h143)) ?_)
      refine sq (o_pv (.pointer (some ⟨bf_1, 0, none⟩)) rfl (by kernel_rfl) ?_)
      refine sq (o_pv (.pointer (some ⟨bf_1, 5, none⟩)) rfl (by kernel_rfl) ?_)
      refine sq (o_stB (o := 5) (v := (.int .i64 (f_.inodes + (1 : Int)))) [(.map (some rokept9)), (.map (some rofiles11)), (.slice ao13 no14 co15), (.int .i64 f_.quota), (.int .i64 f_.now), (.int .i64 (f_.inodes + (1 : Int))), (.int .i64 f_.ops_), (.bool f_.off), (.bool f_.armed), (.int .i64 f_.left), (.slice aokeep22 f_.keep.length cokeep23)] rfl k123 (by kernel_rfl) (by kernel_rfl) Tryd.sizeOf3 rfl rfl rfl ?_)
      intro w144 s145 k146
      refine nil_ ?_
      refine then_normal (K142 _ _ _ _ ?_)
      refine reg_ ?_
      refine sq (o_pv (.pointer (some ⟨bf_1, 0, none⟩)) rfl (by kernel_rfl) ?_)
      refine sq (o_pv (.pointer (some ⟨bf_1, 0, none⟩)) rfl (by kernel_rfl) ?_)
      refine sq (o_pv (.pointer (some ⟨bf_1, 5, none⟩)) rfl (by kernel_rfl) ?_)
      refine sq (o_pv (.int .i64 (f_.inodes + (1 : Int))) rfl (x_load1 (by kernel_rfl) Tryd.isAgg3 (k146.2.1.cell' 5 rfl)) ?_)
      refine sq (o_pv (.pointer (some ⟨b59, 2, none⟩)) rfl (by kernel_rfl) ?_)
      have mokept147 := (OM.step mokept124 s145 (Ap.symm p30))
      have mofiles148 := (OM.step mofiles125 s145 (Ap.symm p31))
      have Oo149 := (OS.step Oo126 s145 (Ap.symm p32))
      have k150 := (OB.step k128 s145 (Ap.symm p43))
      have k151 := (OB.step k81 s145 (Ap.symm p68))
      have E152 := (Evo.thenW E120 (Step.evo s145) k123.2.2)
      refine sq (o_stB (o := 2) (v := (.int .i64 (f_.inodes + (1 : Int)))) [(.int .i64 ((mgetD f_.files p).mode)), (.int .i64 ((mgetD f_.files p).time)), (.int .i64 (f_.inodes + (1 : Int))), (.slice alb56 (((mgetD f_.files p).b).length) clb57)] rfl k151 (by kernel_rfl) (by kernel_rfl) Tryd.sizeOf3 rfl rfl rfl ?_)
      intro w153 s154 k155
      refine nil_ ?_
      have E156 := (Evo.thenW E152 (Step.evo s154) (Wr.of k151.2.2))
      have hXo157 := (Old.step (Old.step hXo119 s145) s154)
      have hS158 := (Sub.trans (Sub.trans hS121 (Step.up s145)) (Step.up s154))
      have hN159 := (News.step (News.step hN122 s145) s154)
      have hb160 := (Sl.step (Sl.step hb118 s145) s154)
      have mokept161 := (OM.step mokept147 s154 p69)
      have mofiles162 := (OM.step mofiles148 s154 p70)
      have Oo163 := (OS.step Oo149 s154 p71)
      have hokeep164 := (Sl.step (Sl.step hokeep127 s145) s154)
      have k165 := (OB.step k150 s154 p72)
      have hlb166 := (Sl.step (Sl.step hlb129 s145) s154)
      have k167 := (OB.step k146 s154 p68)
      refine then_normal (hJ116 _ _ _ ⟨[], fit_mk (fun _ _ => rfl) (by kernel_rfl) vs_nil, ?_⟩)
      exact ⟨X61, (f_.inodes + (1 : Int)), (f_.inodes + (1 : Int)), rfl, E156, hXo157, hS158, hN159, hb160, mokept161, mofiles162, Oo163, hokeep164, k165, hlb166, k167, k155, h143, h143, hp⟩
    ·
      replace hp := hp.2 h141
      refine wp_skip ?_
      refine then_normal (hJ116 _ _ _ ⟨[], fit_mk (fun _ _ => rfl) (by kernel_rfl) vs_nil, ?_⟩)
      exact ⟨X61, f_.inodes, ((mgetD f_.files p).inode), rfl, E120, hXo119, hS121, hN122, hb118, mokept124, mofiles125, Oo126, hokeep127, k128, hlb129, k123, k81, roinodes19, rlinode55, hp⟩
  ·
    rintro _ w113 g168 ⟨X114, f105, f108, rfl, E130, hXo131, hS132, hN133, hb134, mokept135, mofiles136, Oo137, hokeep138, k139, hlb140, k107, k110, rf106, rf109, hv117⟩
    replace hp := hk112 f105 f108 hv117 rf106 rf109
    refine then_normal (K82 _ _ _ _ ?_)
    refine seq_ (fun _ K169 => ?_)
    refine reg_drawn (RB w113.heap.size []) 12 (by kernel_rfl) (fun w170 hd171 => ?_)
    have e172 := Evo.of_drew hd171
    have z173 : w170.heap.size = w113.heap.size := by rw [hd171]
    clear hd171
    have s175 := Step.of0 X114 e172
    have er174 := RB.refl w113.heap.size [] w170
    have E176 := (Evo.then0 E130 (Step.evo s175))
    have hXo177 := (Old.step hXo131 s175)
    have hS178 := (Sub.trans hS132 (Step.up s175))
    have hN179 := (News.step hN133 s175)
    have hb180 := (Sl.step hb134 s175)
    have mokept181 := (OM.step0 mokept135 s175)
    have mofiles182 := (OM.step0 mofiles136 s175)
    have Oo183 := (OS.step0 Oo137 s175)
    have hokeep184 := (Sl.step hokeep138 s175)
    have k185 := (OB.step0 k139 s175)
    have hlb186 := (Sl.step hlb140 s175)
    have k187 := (OB.step0 k107 s175)
    have k188 := (OB.step0 k110 s175)
    refine r_take 0 (.string p) (RB.pre _ _) rfl (by kernel_rfl) (fun _ _ _ h => hQ.panic _ _ _ _ _ h) (.inl ⟨rfl, fun wq hq => (by kernel_rfl)⟩) ?_
    refine r_take 1 (.int .i64 mode) (RB.pre _ _) rfl (by kernel_rfl) (fun _ _ _ h => hQ.panic _ _ _ _ _ h) (.inl ⟨rfl, fun wq hq => (by kernel_rfl)⟩) ?_
    refine r_take 2 (.pointer (some ⟨bf_1, 0, none⟩)) (RB.pre _ _) rfl (by kernel_rfl) (fun _ _ _ h => hQ.panic _ _ _ _ _ h) (.inl ⟨rfl, fun wq hq => (by kernel_rfl)⟩) ?_
    refine r_take 3 (.pointer (some ⟨bf_1, 0, none⟩)) (RB.pre _ _) rfl (by kernel_rfl) (fun _ _ _ h => hQ.panic _ _ _ _ _ h) (.inl ⟨rfl, fun wq hq => (by kernel_rfl)⟩) ?_
    refine r_take 4 (.pointer (some ⟨bf_1, 4, none⟩)) (RB.pre _ _) rfl (by kernel_rfl) (fun _ _ _ h => hQ.panic _ _ _ _ _ h) (.inl ⟨rfl, fun wq hq => (by kernel_rfl)⟩) ?_
    refine r_take 5 (.int .i64 f_.now) (RB.pre _ _) rfl (by kernel_rfl) (fun _ _ _ h => hQ.panic _ _ _ _ _ h) (.inl ⟨rfl, fun wq hq => (x_load1 (by kernel_rfl) Tryd.isAgg3 ((Blk.rb k187.2.1 (RB.trans er174 hq) (Nat.lt_of_lt_of_eq (Blk.lt k187.2.1) z173) (fun h => by cases h)).cell' 4 rfl))⟩) ?_
    refine r_take 6 (.pointer (some ⟨b59, 2, none⟩)) (RB.pre _ _) rfl (by kernel_rfl) (fun _ _ _ h => hQ.panic _ _ _ _ _ h) (.inl ⟨rfl, fun wq hq => (by kernel_rfl)⟩) ?_
    refine r_take 7 (.int .i64 f108) (RB.pre _ _) rfl (by kernel_rfl) (fun _ _ _ h => hQ.panic _ _ _ _ _ h) (.inl ⟨rfl, fun wq hq => (x_load1 (by kernel_rfl) Tryd.isAgg3 ((Blk.rb k188.2.1 (RB.trans er174 hq) (Nat.lt_of_lt_of_eq (Blk.lt k188.2.1) z173) (fun h => by cases h)).cell' 2 rfl))⟩) ?_
    refine r_take 8 (.slice ab6 b.length cb7) (RB.pre _ _) rfl (by kernel_rfl) (fun _ _ _ h => hQ.panic _ _ _ _ _ h) (.inl ⟨rfl, fun wq hq => (by kernel_rfl)⟩) ?_
    refine r_ready [9] (by kernel_rfl) rfl (all_cons ⟨_, _, _, _, _, _, rfl, ?_⟩ all_nil)
    refine o_call 92 #[(.slice ab6 b.length cb7)] rfl (x_call Tryd.call92 (by kernel_rfl)) (slices_Clone_byte_byte_w (X := X114) (s := b) hXo177 (Sl.sq hb180) hp) ?_
    rintro _ w190 ⟨r189, hp, e191, a193, c194, rfl, O195⟩
    have rm := RB.mono (F' := []) e191 (Nat.le_trans (Nat.le_of_eq z173.symm) (RB.size er174)) (fun _ h => by cases h)
    have er196 := RB.trans er174 rm
    refine ⟨fun _ => rm, ?_⟩
    obtain ⟨X197, s192, O198, n199⟩ := OS.own_in O195 e191 E176.size
    have p200 := n199 _ (OM.old mokept181)
    have p201 := n199 _ (OM.old mofiles182)
    have p202 := n199 _ (OS.old Oo183)
    have p203 := n199 _ (OB.old k185)
    have p204 := n199 _ (OB.old k187)
    have p205 := n199 _ (OB.old k188)
    replace hp := hp (OS.len O198)
    refine r_take 10 (.agg #[(.int .i64 mode), (.int .i64 f_.now), (.int .i64 f108), (.slice a193 r189.length c194)]) (RB.pre _ _) rfl (by kernel_rfl) (fun _ _ _ h => hQ.panic _ _ _ _ _ h) (.inl ⟨rfl, fun wq hq => (by kernel_rfl)⟩) ?_
    refine r_take 11 (.agg #[(.int .i64 (1 : Int)), (.string p), (.string (ByteArray.mk #[])), (.int .i64 mode), (.int .i64 f_.now), (.int .i64 f108), (.slice a193 r189.length c194)]) (RB.pre _ _) rfl (by kernel_rfl) (fun _ _ _ h => hQ.panic _ _ _ _ _ h) (.inl ⟨rfl, fun wq hq => (by kernel_rfl)⟩) ?_
    refine r_ready [12] (by kernel_rfl) rfl (all_cons ⟨_, _, _, _, _, _, rfl, ?_⟩ all_nil)
    have mokept206 := (OM.step0 mokept181 s192)
    have mofiles207 := (OM.step0 mofiles182 s192)
    have Oo208 := (OS.step0 Oo183 s192)
    have k209 := (OB.step0 k185 s192)
    have k210 := (OB.step0 k187 s192)
    have k211 := (OB.step0 k188 s192)
    have E212 := (Evo.then0 E176 (Step.evo s192))
    refine o_stB (o := 0) (v := (.agg #[(.int .i64 (1 : Int)), (.string p), (.string (ByteArray.mk #[])), (.int .i64 mode), (.int .i64 f_.now), (.int .i64 f108), (.slice a193 r189.length c194)])) [(.int .i64 (1 : Int)), (.string p), (.string (ByteArray.mk #[])), (.int .i64 mode), (.int .i64 f_.now), (.int .i64 f108), (.slice a193 r189.length c194)] rfl k209 (by kernel_rfl) (by kernel_rfl) Tryd.sizeOf158 rfl rfl rfl ?_
    intro w213 s214 k215
    refine ⟨fun h => absurd h (by decide), ?_⟩
    refine r_done (by kernel_rfl) ?_
    refine then_normal (K169 _ _ _ _ ?_)
    refine wp_ret ?_
    have k216 := (OB.step k210 s214 p43)
    have pin217 := pin_mk (off := 1) k25 k216 rfl rfl
    have E218 := (Evo.thenW E212 (Step.evo s214) (Wr.of k209.2.2))
    have hXo219 := (Old.step (Old.step hXo177 s192) s214)
    have hS220 := (Sub.trans (Sub.trans hS178 (Step.up s192)) (Step.up s214))
    have hN221 := (News.step (News.step hN179 s192) s214)
    have hb222 := (Sl.step (Sl.step hb180 s192) s214)
    have mokept223 := (OM.step mokept206 s214 p44)
    have mofiles224 := (OM.step mofiles207 s214 p45)
    have Oo225 := (OS.step Oo208 s214 p46)
    have hokeep226 := (Sl.step (Sl.step hokeep184 s192) s214)
    have hlb227 := (Sl.step (Sl.step hlb186 s192) s214)
    have k228 := (OB.step k211 s214 (Ap.symm p72))
    have O229 := (OS.step O198 s214 (Ap.symm p203))
    obtain ⟨F230, m231, hs232⟩ := MO.pack (o_simfs_FS_mk k216 mokept223 mofiles224 Oo225 roquota17 ronow18 rf106 roops_20 roleft21 hokeep226 rfl p30 p31 p32 p33 p34 p35)
    have p233 := hs232 _ (Ap.cons (Ap.symm p43) (Ap.app (Ap.symm p44) (Ap.app (Ap.symm p45) (Ap.app (Ap.symm p46) (Ap.app (Ap.nil_r _) (Ap.app (Ap.nil_r _) (Ap.app (Ap.nil_r _) (Ap.app (Ap.nil_r _) (Ap.app (Ap.nil_r _) (Ap.app (Ap.nil_r _) (Ap.app (Ap.nil_r _) (Ap.nil_r _))))))))))))
    have p234 := hs232 _ (Ap.cons (Ap.symm p68) (Ap.app (Ap.symm p69) (Ap.app (Ap.symm p70) (Ap.app (Ap.symm p71) (Ap.app (Ap.nil_r _) (Ap.app (Ap.nil_r _) (Ap.app (Ap.nil_r _) (Ap.app (Ap.nil_r _) (Ap.app (Ap.nil_r _) (Ap.app (Ap.nil_r _) (Ap.app (Ap.nil_r _) (Ap.nil_r _))))))))))))
    have p235 := hs232 _ (Ap.cons (Ap.symm p204) (Ap.app (Ap.symm p200) (Ap.app (Ap.symm p201) (Ap.app (Ap.symm p202) (Ap.app (Ap.nil_r _) (Ap.app (Ap.nil_r _) (Ap.app (Ap.nil_r _) (Ap.app (Ap.nil_r _) (Ap.app (Ap.nil_r _) (Ap.app (Ap.nil_r _) (Ap.app (Ap.nil_r _) (Ap.nil_r _))))))))))))
    have ax240 := OS.apold O229 hX0
    obtain ⟨X236, u237, r238, hm239⟩ := OS.release O229
    have E241 := E218
    have hXo242 := (Old.less hXo219 u237)
    have hS243 := (hm239 _ ax240 hS220)
    have hN244 := (News.less hN221 u237)
    have hb245 := (Sl.less hb222 u237)
    have hokeep246 := (Sl.less hokeep226 u237)
    have k247 := (OB.less k215 (hm239 _ p203 (OB.mem k215)))
    have hlb248 := (Sl.less hlb227 u237)
    have k249 := (OB.less k228 (hm239 _ p205 (OB.mem k228)))
    have m250 := (MO.less m231 u237 (hm239 _ (Ap.symm p235) (MO.mem m231)))
    refine end_ret hQ (.agg #[(.int .i64 (1 : Int)), (.string p), (.string (ByteArray.mk #[])), (.int .i64 mode), (.int .i64 f_.now), (.int .i64 f108), (.slice a193 r189.length c194)]) (rs_single Tryd.results87 (rs_agg [(.int .i64 (1 : Int)), (.string p), (.string (ByteArray.mk #[])), (.int .i64 mode), (.int .i64 f_.now), (.int .i64 f108), (.slice a193 r189.length c194)] (by kernel_rfl) Tryd.isAgg158 Tryd.sizeOf158 (k247.2.1.cells' 0 rfl))) ?_
    exact ⟨(S_simfs_FS.mk f_.kept f_.files f_.pending f_.quota f_.now f105 f_.ops_ f_.off f_.armed f_.left f_.keep), (S_simfs_op.mk (1 : Int) p (ByteArray.mk #[]) (S_simfs_file.mk mode f_.now f108 r189)), hp, X236, F230, a193, c194, step_of E241 hF0 hS243 hN244, rfl, m250, (by decide : inR .i64 (1 : Int)), zp4, (by decide : (ByteArray.mk #[]).size ≤ maxLen), rmode5, ronow18, rf109, r238, pin217⟩

def simfs_apply_p (l : (List (ByteArray × S_simfs_file))) (o : S_simfs_op) (Q : (List (ByteArray × S_simfs_file)) → Bool → Prop) : Prop :=
  ((inR .i64 o.kind) → ((o.path.size ≤ maxLen) → ((o.to_.size ≤ maxLen) → ((inR .i64 o.file.mode) → ((inR .i64 o.file.time) → ((inR .i64 o.file.inode) → ((o.file.b.length ≤ 9223372036854775807) → ((inR .i64 ((mgetD l o.path).mode)) → ((inR .i64 ((mgetD l o.path).time)) → ((inR .i64 ((mgetD l o.path).inode)) → ((((mgetD l o.path).b).length ≤ 9223372036854775807) → (∃ k240 : (List (ByteArray × S_simfs_file)) → Prop, (∀ (m238 : (List (ByteArray × S_simfs_file))), k240 m238 → Q m238 (mhas l o.path)) ∧ (∃ k334 : (List (ByteArray × S_simfs_file)) → Prop, (∀ (s332 : (List (ByteArray × S_simfs_file))), k334 s332 → (k240 (mdel s332 o.path))) ∧ (((o.kind = (1 : Int)) → (simfs_clash_p l o.path (ByteArray.mk #[]) (fun (r356 : Bool) => (((r356 = true) → Q l false) ∧ ((r356 = false) → Q (mset l o.path o.file) true))))) ∧ ((¬ (o.kind = (1 : Int))) → (((o.kind = (2 : Int)) → (∃ k399 : Bool → Prop, (∀ (s398 : Bool), k399 s398 → (((s398 = true) → Q l false) ∧ ((s398 = false) → (k334 (mset l o.to_ (mgetD l o.path)))))) ∧ ((((mhas l o.path) = true) → (simfs_clash_p l o.to_ o.path (fun (r416 : Bool) => (k399 r416)))) ∧ ((¬ ((mhas l o.path) = true)) → (k399 true))))) ∧ ((¬ (o.kind = (2 : Int))) → (((o.kind = (3 : Int)) → (k334 l)) ∧ ((¬ (o.kind = (3 : Int))) → (k240 l))))))))))))))))))))
set_option maxRecDepth 20000 in
set_option maxHeartbeats 4000000 in
theorem simfs_apply_w {X : List Nat} {w : World} {l : (List (ByteArray × S_simfs_file))} {o : S_simfs_op} {rl1 : Nat} {aofileb9 : Option Addr} {cofileb10 : Nat} {Q : (List (ByteArray × S_simfs_file)) → Bool → Prop} (hX0 : Old X w) (ml2 : OM r_simfs_file true ([rl1]) w.heap.size X w rl1 l) (rokind3 : inR .i64 o.kind) (zopath4 : o.path.size ≤ maxLen) (zoto_5 : o.to_.size ≤ maxLen) (rofilemode6 : inR .i64 o.file.mode) (rofiletime7 : inR .i64 o.file.time) (rofileinode8 : inR .i64 o.file.inode) (hofileb11 : Sl (rInt .u8) X w aofileb9 cofileb10 o.file.b) (hp : simfs_apply_p l o Q) :
    Calls Tryd.prog 86 #[(.map (some rl1)), (.agg #[(.int .i64 o.kind), (.string o.path), (.string o.to_), (.int .i64 o.file.mode), (.int .i64 o.file.time), (.int .i64 o.file.inode), (.slice aofileb9 o.file.b.length cofileb10)])] w (Ret fun v w' => ∃ (m0 : (List (ByteArray × S_simfs_file))) (r0 : Bool), Q m0 r0 ∧ ∃ (X' : List Nat), Step X w ([rl1]) X' w' ∧ v = (.bool r0) ∧ OM r_simfs_file true ([rl1]) w.heap.size X' w' rl1 m0) := by
  have hXo := hX0
  have E0 : Evo [rl1] w w := RB.refl _ _ _
  have hS : Sub X X := Sub.refl _
  have hN : News X w X w := News.refl _ _
  have hF0 : Sub [rl1] X := OM.mem ml2
  unfold simfs_apply_p at hp
  refine enter_ Tryd.func86 rfl 49 [(0, (.map (some rl1))), (1, (.agg #[(.int .i64 o.kind), (.string o.path), (.string o.to_), (.int .i64 o.file.mode), (.int .i64 o.file.time), (.int .i64 o.file.inode), (.slice aofileb9 o.file.b.length cofileb10)]))] (by kernel_rfl) (fun Qe hQ => ?_)
  replace hp := hp rokind3
  replace hp := hp zopath4
  replace hp := hp zoto_5
  replace hp := hp rofilemode6
  replace hp := hp rofiletime7
  replace hp := hp rofileinode8
  replace hp := hp (Sl.len hofileb11)
  refine seq_ (fun _ K12 => ?_)
  refine reg_ ?_
  refine sq (o_newX [(.int .i64 o.kind), (.string o.path), (.string o.to_), (.int .i64 o.file.mode), (.int .i64 o.file.time), (.int .i64 o.file.inode), (.slice aofileb9 o.file.b.length cofileb10)] 158 (X := X) (B := w.heap.size) E0.size rfl (by kernel_rfl) ?_)
  intro b13 w14 X15 s16 k17 n18
  have p19 := n18 _ (OM.old ml2)
  refine sq (o_pv (.bool false) rfl (by kernel_rfl) ?_)
  refine nil_ ?_
  refine then_normal (K12 _ _ _ _ ?_)
  refine seq_ (fun _ K20 => ?_)
  refine reg_ ?_
  refine sq (o_pv (.map (some rl1)) rfl (by kernel_rfl) ?_)
  refine sq (o_pv (.pointer (some ⟨b13, 1, none⟩)) rfl (by kernel_rfl) ?_)
  refine sq (o_pv (.string o.path) rfl (x_load1 (by kernel_rfl) Tryd.isAgg9 (k17.2.1.cell' 1 rfl)) ?_)
  have ml21 := (OM.step0 ml2 s16)
  obtain ⟨cs22, ok23, lk24⟩ := MapAt.look ml21.2.1 o.path [(.int .i64 (0 : Int)), (.int .i64 (0 : Int)), (.int .i64 (0 : Int)), (.slice none 0 0)] (fun _ _ => (r_simfs_file_mk (by decide : inR .i64 (0 : Int)) (by decide : inR .i64 (0 : Int)) (by decide : inR .i64 (0 : Int)) (Sl.nil) rfl))
  obtain ⟨alb28, clb29, rfl, rlmode25, rltime26, rlinode27, hlb30⟩ := r_simfs_file_open ok23
  replace hp := hp rlmode25
  replace hp := hp rltime26
  replace hp := hp rlinode27
  replace hp := hp (Sl.len hlb30)
  refine sq (o_pv (.tuple #[(.agg #[(.int .i64 ((mgetD l o.path).mode)), (.int .i64 ((mgetD l o.path).time)), (.int .i64 ((mgetD l o.path).inode)), (.slice alb28 (((mgetD l o.path).b).length) clb29)]), (.bool (mhas l o.path))]) rfl (x_lookup2 (w0 := w14) (k := o.path) (v := (.agg #[(.int .i64 ((mgetD l o.path).mode)), (.int .i64 ((mgetD l o.path).time)), (.int .i64 ((mgetD l o.path).inode)), (.slice alb28 (((mgetD l o.path).b).length) clb29)])) (z := (.agg #[(.int .i64 (0 : Int)), (.int .i64 (0 : Int)), (.int .i64 (0 : Int)), (.slice none 0 0)])) (b := mhas l o.path) (s := 4) (bts := 48) (by kernel_rfl) (by kernel_rfl) lk24 rfl Tryd.underlying150 Tryd.underlying9 (by kernel_rfl)) ?_)
  refine sq (o_pv (.tuple #[(.agg #[(.int .i64 ((mgetD l o.path).mode)), (.int .i64 ((mgetD l o.path).time)), (.int .i64 ((mgetD l o.path).inode)), (.slice alb28 (((mgetD l o.path).b).length) clb29)]), (.bool (mhas l o.path))]) rfl (by kernel_rfl) ?_)
  refine sq (o_pv (.agg #[(.int .i64 ((mgetD l o.path).mode)), (.int .i64 ((mgetD l o.path).time)), (.int .i64 ((mgetD l o.path).inode)), (.slice alb28 (((mgetD l o.path).b).length) clb29)]) rfl (by kernel_rfl) ?_)
  refine sq (o_pv (.bool (mhas l o.path)) rfl (by kernel_rfl) ?_)
  have E37 := (Evo.then0 E0 (Step.evo s16))
  refine sq (o_newX [(.int .i64 (0 : Int)), (.int .i64 (0 : Int)), (.int .i64 (0 : Int)), (.slice none 0 0)] 156 (X := X15) (B := w.heap.size) E37.size rfl (by kernel_rfl) ?_)
  intro b31 w32 X33 s34 k35 n36
  have p38 := n36 _ (OM.old ml21)
  have p39 := n36 _ (OB.old k17)
  have ml40 := (OM.step0 ml21 s34)
  have k41 := (OB.step0 k17 s34)
  have E42 := (Evo.then0 E37 (Step.evo s34))
  refine sq (o_stB (o := 0) (v := (.agg #[(.int .i64 ((mgetD l o.path).mode)), (.int .i64 ((mgetD l o.path).time)), (.int .i64 ((mgetD l o.path).inode)), (.slice alb28 (((mgetD l o.path).b).length) clb29)])) [(.int .i64 ((mgetD l o.path).mode)), (.int .i64 ((mgetD l o.path).time)), (.int .i64 ((mgetD l o.path).inode)), (.slice alb28 (((mgetD l o.path).b).length) clb29)] rfl k35 (by kernel_rfl) (by kernel_rfl) Tryd.sizeOf156 rfl rfl rfl ?_)
  intro w43 s44 k45
  refine sq (o_pv (.bool (mhas l o.path)) rfl (by kernel_rfl) ?_)
  refine nil_ ?_
  refine then_normal (K20 _ _ _ _ ?_)
  refine seq_ (fun _ K46 => ?_)
  refine seq_ (fun _ K47 => ?_)
  refine reg_ ?_
  refine sq (o_pv (.pointer (some ⟨b13, 0, none⟩)) rfl (by kernel_rfl) ?_)
  have k48 := (OB.step k41 s44 p39)
  refine sq (o_pv (.int .i64 o.kind) rfl (x_load1 (by kernel_rfl) Tryd.isAgg3 (k48.2.1.cell' 0 rfl)) ?_)
  refine nil_ ?_
  refine then_normal (K47 _ _ _ _ ?_)
  have hofileb247 := (Sl.step (Sl.step (Sl.step hofileb11 s16) s34) s44)
  have ml248 := (OM.step ml40 s44 p38)
  have hXo249 := (Old.step (Old.step (Old.step hXo s16) s34) s44)
  have E250 := (Evo.thenW E42 (Step.evo s44) (Wr.of k35.2.2))
  have hS251 := (Sub.trans (Sub.trans (Sub.trans hS (Step.up s16)) (Step.up s34)) (Step.up s44))
  have hN252 := (News.step (News.step (News.step hN s16) s34) s44)
  have hlb253 := (Sl.step (Sl.step hlb30 s34) s44)
  obtain ⟨k240, hk241, hp⟩ := hp
  refine ground_ ?_
  refine join_ 281474976645136 (fun lq w242 => ∃ (X243 : List Nat) (m238 : (List (ByteArray × S_simfs_file))), (lq = []) ∧ (Evo [rl1] w w242) ∧ (Old X243 w242) ∧ (Sub X X243) ∧ (News X w X243 w242) ∧ (OM r_simfs_file true ([rl1]) w.heap.size X243 w242 rl1 m238) ∧ (k240 m238)) (fun Kj244 hJ245 => ?_) ?_
  ·
    refine wp_block ?_
    refine seq_ (fun _ K258 => ?_)
    obtain ⟨k334, hk335, hp⟩ := hp
    refine ground_ ?_
    refine join_ 35184372023312 (fun lq w336 => ∃ (X337 : List Nat) (s332 : (List (ByteArray × S_simfs_file))), (lq = []) ∧ (Evo [rl1] w w336) ∧ (Old X337 w336) ∧ (Sub X X337) ∧ (News X w X337 w336) ∧ (Sl (rInt .u8) X337 w336 aofileb9 cofileb10 o.file.b) ∧ (OB ([]) w.heap.size X337 w336 b13 [(.int .i64 o.kind), (.string o.path), (.string o.to_), (.int .i64 o.file.mode), (.int .i64 o.file.time), (.int .i64 o.file.inode), (.slice aofileb9 o.file.b.length cofileb10)] 158) ∧ (OM r_simfs_file true ([rl1]) w.heap.size X337 w336 rl1 s332) ∧ (k334 s332)) (fun Kj338 hJ339 => ?_) ?_
    ·
      refine wp_block ?_
      refine seq_ (fun _ K347 => ?_)
      refine wp_block ?_
      refine seq_ (fun _ K348 => ?_)
      refine wp_block ?_
      refine seq_ (fun _ K349 => ?_)
      refine seq_ (fun _ K350 => ?_)
      refine seq_ (fun _ K351 => ?_)
      refine reg_ ?_
      refine sq (o_pv (.bool (decide (o.kind = (1 : Int)))) rfl (by kernel_rfl) ?_)
      refine sq (o_pv (.bool (decide (o.kind = (1 : Int)))) rfl (by kernel_rfl) ?_)
      refine nil_ ?_
      refine then_normal (K351 _ _ _ _ ?_)
      refine cond_d (o.kind = (1 : Int)) (by kernel_rfl) (fun h352 => ?_) (fun h352 => ?_)
      ·
        replace hp := hp.1 h352
        refine wp_exit ?_
        refine then_exit ?_
        refine then_exit ?_
        refine blk_exit ?_
        refine then_normal (K348 _ _ _ _ ?_)
        refine seq_ (fun _ K353 => ?_)
        refine seq_ (fun _ K354 => ?_)
        refine seq_ (fun _ K355 => ?_)
        refine reg_ ?_
        refine sq (o_pv (.map (some rl1)) rfl (by kernel_rfl) ?_)
        refine sq (o_pv (.pointer (some ⟨b13, 1, none⟩)) rfl (by kernel_rfl) ?_)
        refine sq (o_pv (.string o.path) rfl (x_load1 (by kernel_rfl) Tryd.isAgg9 (k48.2.1.cell' 1 rfl)) ?_)
        refine sq (o_call 109 #[(.map (some rl1)), (.string o.path), (.string (ByteArray.mk #[]))] rfl (x_call Tryd.call109 (by kernel_rfl)) (simfs_clash_w (X := []) (l := l) (p := o.path) (but := (ByteArray.mk #[])) (Old.nil _) (OM.rm ml248) zopath4 (by decide : (ByteArray.mk #[]).size ≤ maxLen) hp) ?_)
        rintro _ w357 ⟨r356, hp, e358, rfl⟩
        have s359 := Step.of0 X33 e358
        refine nil_ ?_
        refine then_normal (K355 _ _ _ _ ?_)
        refine cond_b r356 (by kernel_rfl) (fun h360 => ?_) (fun h360 => ?_)
        ·
          replace hp := hp.1 h360
          refine seq_ (fun _ K361 => ?_)
          refine reg_ ?_
          refine sq (o_pv (.bool false) rfl (by kernel_rfl) ?_)
          refine nil_ ?_
          refine then_normal (K361 _ _ _ _ ?_)
          refine wp_ret ?_
          refine then_ret ?_
          refine then_ret ?_
          refine blk_ret ?_
          refine then_ret ?_
          refine blk_ret ?_
          refine then_ret ?_
          refine then_ret ?_
          refine blk_ret ?_
          refine then_ret ?_
          refine then_ret ?_
          have hofileb362 := (Sl.step hofileb247 s359)
          have ml363 := (OM.step0 ml248 s359)
          have hXo364 := (Old.step hXo249 s359)
          have E365 := (Evo.then0 E250 e358)
          have hS366 := (Sub.trans hS251 (Step.up s359))
          have hN367 := (News.step hN252 s359)
          have k368 := (OB.step0 k48 s359)
          have hlb369 := (Sl.step hlb253 s359)
          have k370 := (OB.step0 k45 s359)
          refine end_ret hQ (.bool false) (by kernel_rfl) ?_
          exact ⟨l, false, hp, X33, step_of E365 hF0 hS366 hN367, rfl, ml363⟩
        ·
          replace hp := hp.2 h360
          refine wp_skip ?_
          refine then_normal (K354 _ _ _ _ ?_)
          refine seq_ (fun _ K371 => ?_)
          refine reg_ ?_
          refine sq (o_pv (.map (some rl1)) rfl (by kernel_rfl) ?_)
          refine sq (o_pv (.pointer (some ⟨b13, 1, none⟩)) rfl (by kernel_rfl) ?_)
          have k372 := (OB.step0 k48 s359)
          refine sq (o_pv (.string o.path) rfl (x_load1 (by kernel_rfl) Tryd.isAgg9 (k372.2.1.cell' 1 rfl)) ?_)
          refine sq (o_pv (.pointer (some ⟨b13, 3, none⟩)) rfl (by kernel_rfl) ?_)
          refine sq (o_pv (.agg #[(.int .i64 o.file.mode), (.int .i64 o.file.time), (.int .i64 o.file.inode), (.slice aofileb9 o.file.b.length cofileb10)]) rfl (x_loadN [(.int .i64 o.file.mode), (.int .i64 o.file.time), (.int .i64 o.file.inode), (.slice aofileb9 o.file.b.length cofileb10)] (by kernel_rfl) Tryd.isAgg156 Tryd.sizeOf156 (k372.2.1.cells' 3 rfl)) ?_)
          have hofileb373 := (Sl.step hofileb247 s359)
          have ml374 := (OM.step0 ml248 s359)
          have k375 := (OB.step0 k45 s359)
          refine sq (o_mapset (cs := [(.int .i64 o.file.mode), (.int .i64 o.file.time), (.int .i64 o.file.inode), (.slice aofileb9 o.file.b.length cofileb10)]) (d := o.file) rfl ml374 Tryd.underlying150 Tryd.underlying9 (by kernel_rfl) (by kernel_rfl) (by kernel_rfl) (r_simfs_file_mk rofilemode6 rofiletime7 rofileinode8 hofileb373 rfl) zopath4 ?_)
          intro w376 s377 m378
          refine nil_ ?_
          refine then_normal (K371 _ _ _ _ ?_)
          refine seq_ (fun _ K379 => ?_)
          refine reg_ ?_
          refine sq (o_pv (.bool true) rfl (by kernel_rfl) ?_)
          refine nil_ ?_
          refine then_normal (K379 _ _ _ _ ?_)
          refine wp_ret ?_
          refine then_ret ?_
          refine blk_ret ?_
          refine then_ret ?_
          refine blk_ret ?_
          refine then_ret ?_
          refine then_ret ?_
          refine blk_ret ?_
          refine then_ret ?_
          refine then_ret ?_
          have hofileb380 := (Sl.step hofileb373 s377)
          have hXo381 := (Old.step (Old.step hXo249 s359) s377)
          have E382 := (Evo.thenW (Evo.then0 E250 e358) (Step.evo s377) ml374.2.2)
          have hS383 := (Sub.trans (Sub.trans hS251 (Step.up s359)) (Step.up s377))
          have hN384 := (News.step (News.step hN252 s359) s377)
          have k385 := (OB.step k372 s377 (Ap.symm p19))
          have hlb386 := (Sl.step (Sl.step hlb253 s359) s377)
          have k387 := (OB.step k375 s377 (Ap.symm p38))
          refine end_ret hQ (.bool true) (by kernel_rfl) ?_
          exact ⟨(mset l o.path o.file), true, hp, X33, step_of E382 hF0 hS383 hN384, rfl, m378⟩
      ·
        replace hp := hp.2 h352
        refine wp_skip ?_
        refine then_normal (K350 _ _ _ _ ?_)
        refine seq_ (fun _ K388 => ?_)
        refine seq_ (fun _ K389 => ?_)
        refine reg_ ?_
        refine sq (o_pv (.bool (decide (o.kind = (2 : Int)))) rfl (by kernel_rfl) ?_)
        refine sq (o_pv (.bool (decide (o.kind = (2 : Int)))) rfl (by kernel_rfl) ?_)
        refine nil_ ?_
        refine then_normal (K389 _ _ _ _ ?_)
        refine cond_d (o.kind = (2 : Int)) (by kernel_rfl) (fun h390 => ?_) (fun h390 => ?_)
        ·
          replace hp := hp.1 h390
          refine wp_exit ?_
          refine then_exit ?_
          refine then_exit ?_
          refine blk_exit_ne rfl ?_
          refine then_exit ?_
          refine blk_exit ?_
          refine then_normal (K347 _ _ _ _ ?_)
          refine seq_ (fun _ K391 => ?_)
          refine seq_ (fun _ K392 => ?_)
          obtain ⟨k399, hk400, hp⟩ := hp
          refine ground_ ?_
          refine join_ 2196875771904 (fun lq w401 => ∃ (X402 : List Nat) (s398 : Bool), (lq = [(40, (.bool s398))]) ∧ (Evo [rl1] w w401) ∧ (Old X402 w401) ∧ (Sub X X402) ∧ (News X w X402 w401) ∧ (OM r_simfs_file true ([rl1]) w.heap.size X402 w401 rl1 l) ∧ (Sl (rInt .u8) X402 w401 aofileb9 cofileb10 o.file.b) ∧ (OB ([]) w.heap.size X402 w401 b13 [(.int .i64 o.kind), (.string o.path), (.string o.to_), (.int .i64 o.file.mode), (.int .i64 o.file.time), (.int .i64 o.file.inode), (.slice aofileb9 o.file.b.length cofileb10)] 158) ∧ (Sl (rInt .u8) X402 w401 alb28 clb29 ((mgetD l o.path).b)) ∧ (OB ([]) w.heap.size X402 w401 b31 [(.int .i64 ((mgetD l o.path).mode)), (.int .i64 ((mgetD l o.path).time)), (.int .i64 ((mgetD l o.path).inode)), (.slice alb28 (((mgetD l o.path).b).length) clb29)] 156) ∧ (k399 s398)) (fun Kj403 hJ404 => ?_) ?_
          ·
            refine reg_ ?_
            by_cases h415 : (mhas l o.path) = true
            ·
              replace hp := hp.1 h415
              refine sq (o_pv (.bool true) rfl (x_bt (by kernel_rfl) h415) ?_)
              refine sq (o_pv (.bool false) rfl (by kernel_rfl) ?_)
              refine sq (o_pv (.bool false) rfl (by kernel_rfl) ?_)
              refine sq (o_pv (.map (some rl1)) (by kernel_rfl) (by kernel_rfl) ?_)
              refine sq (o_pv (.pointer (some ⟨b13, 2, none⟩)) (by kernel_rfl) (by kernel_rfl) ?_)
              refine sq (o_pv (.string o.to_) (by kernel_rfl) (x_load1 (by kernel_rfl) Tryd.isAgg9 (k48.2.1.cell' 2 rfl)) ?_)
              refine sq (o_pv (.pointer (some ⟨b13, 1, none⟩)) (by kernel_rfl) (by kernel_rfl) ?_)
              refine sq (o_pv (.string o.path) (by kernel_rfl) (x_load1 (by kernel_rfl) Tryd.isAgg9 (k48.2.1.cell' 1 rfl)) ?_)
              refine sq (o_call 109 #[(.map (some rl1)), (.string o.to_), (.string o.path)] (by kernel_rfl) (x_call Tryd.call109 (by kernel_rfl)) (simfs_clash_w (X := []) (l := l) (p := o.to_) (but := o.path) (Old.nil _) (OM.rm ml248) zoto_5 zopath4 hp) ?_)
              rintro _ w417 ⟨r416, hp, e418, rfl⟩
              have s419 := Step.of0 X33 e418
              refine sq (o_pv (.bool r416) rfl (by kernel_rfl) ?_)
              refine nil_ ?_
              have E420 := (Evo.then0 E250 e418)
              have hXo421 := (Old.step hXo249 s419)
              have hS422 := (Sub.trans hS251 (Step.up s419))
              have hN423 := (News.step hN252 s419)
              have ml424 := (OM.step0 ml248 s419)
              have hofileb425 := (Sl.step hofileb247 s419)
              have k426 := (OB.step0 k48 s419)
              have hlb427 := (Sl.step hlb253 s419)
              have k428 := (OB.step0 k45 s419)
              refine then_normal (hJ404 _ _ _ ⟨[(40, (.bool r416))], fit_mk (fun _ _ => rfl) (by kernel_rfl) (vs_cons (by kernel_rfl) vs_nil), ?_⟩)
              exact ⟨X33, r416, rfl, E420, hXo421, hS422, hN423, ml424, hofileb425, k426, hlb427, k428, hp⟩
            ·
              replace hp := hp.2 h415
              refine sq (o_pv (.bool false) rfl (x_bf (by kernel_rfl) h415) ?_)
              refine sq (o_pv (.bool true) rfl (by kernel_rfl) ?_)
              refine sq (o_pv (.bool true) rfl (by kernel_rfl) ?_)
              refine sq (o_not (by kernel_rfl) ?_)
              refine sq (o_not (by kernel_rfl) ?_)
              refine sq (o_not (by kernel_rfl) ?_)
              refine sq (o_not (by kernel_rfl) ?_)
              refine sq (o_not (by kernel_rfl) ?_)
              refine sq (o_not (by kernel_rfl) ?_)
              refine sq (o_pv (.bool true) rfl (by kernel_rfl) ?_)
              refine nil_ ?_
              refine then_normal (hJ404 _ _ _ ⟨[(40, (.bool true))], fit_mk (fun _ _ => rfl) (by kernel_rfl) (vs_cons (by kernel_rfl) vs_nil), ?_⟩)
              exact ⟨X33, true, rfl, E250, hXo249, hS251, hN252, ml248, hofileb247, k48, hlb253, k45, hp⟩
          ·
            rintro _ w401 g429 ⟨X402, s398, rfl, E406, hXo407, hS408, hN409, ml410, hofileb411, k412, hlb413, k414, hv405⟩
            replace hp := hk400 s398 hv405
            refine then_normal (K392 _ _ _ _ ?_)
            refine cond_b s398 (by kernel_rfl) (fun h430 => ?_) (fun h430 => ?_)
            ·
              replace hp := hp.1 h430
              refine seq_ (fun _ K431 => ?_)
              refine reg_ ?_
              refine sq (o_pv (.bool false) rfl (by kernel_rfl) ?_)
              refine nil_ ?_
              refine then_normal (K431 _ _ _ _ ?_)
              refine wp_ret ?_
              refine then_ret ?_
              refine blk_ret ?_
              refine then_ret ?_
              refine then_ret ?_
              refine blk_ret ?_
              refine then_ret ?_
              refine then_ret ?_
              refine end_ret hQ (.bool false) (by kernel_rfl) ?_
              exact ⟨l, false, hp, X402, step_of E406 hF0 hS408 hN409, rfl, ml410⟩
            ·
              replace hp := hp.2 h430
              refine wp_skip ?_
              refine then_normal (K391 _ _ _ _ ?_)
              refine reg_ ?_
              refine sq (o_pv (.map (some rl1)) rfl (by kernel_rfl) ?_)
              refine sq (o_pv (.pointer (some ⟨b13, 2, none⟩)) rfl (by kernel_rfl) ?_)
              refine sq (o_pv (.string o.to_) rfl (x_load1 (by kernel_rfl) Tryd.isAgg9 (k412.2.1.cell' 2 rfl)) ?_)
              refine sq (o_pv (.agg #[(.int .i64 ((mgetD l o.path).mode)), (.int .i64 ((mgetD l o.path).time)), (.int .i64 ((mgetD l o.path).inode)), (.slice alb28 (((mgetD l o.path).b).length) clb29)]) rfl (x_loadN [(.int .i64 ((mgetD l o.path).mode)), (.int .i64 ((mgetD l o.path).time)), (.int .i64 ((mgetD l o.path).inode)), (.slice alb28 (((mgetD l o.path).b).length) clb29)] (by kernel_rfl) Tryd.isAgg156 Tryd.sizeOf156 (k414.2.1.cells' 0 rfl)) ?_)
              refine sq (o_mapset (cs := [(.int .i64 ((mgetD l o.path).mode)), (.int .i64 ((mgetD l o.path).time)), (.int .i64 ((mgetD l o.path).inode)), (.slice alb28 (((mgetD l o.path).b).length) clb29)]) (d := (mgetD l o.path)) rfl ml410 Tryd.underlying150 Tryd.underlying9 (by kernel_rfl) (by kernel_rfl) (by kernel_rfl) (r_simfs_file_mk rlmode25 rltime26 rlinode27 hlb413 rfl) zoto_5 ?_)
              intro w432 s433 m434
              refine nil_ ?_
              refine blk_normal ?_
              have E435 := (Evo.thenW E406 (Step.evo s433) ml410.2.2)
              have hXo436 := (Old.step hXo407 s433)
              have hS437 := (Sub.trans hS408 (Step.up s433))
              have hN438 := (News.step hN409 s433)
              have hofileb439 := (Sl.step hofileb411 s433)
              have k440 := (OB.step k412 s433 (Ap.symm p19))
              refine then_normal (hJ339 _ _ _ ⟨[], fit_mk (AgB.nest (AgB.look (fun _ _ => rfl) (by kernel_rfl)) (by kernel_rfl) (by kernel_rfl)) (by kernel_rfl) vs_nil, ?_⟩)
              exact ⟨X402, (mset l o.to_ (mgetD l o.path)), rfl, E435, hXo436, hS437, hN438, hofileb439, k440, m434, hp⟩
        ·
          replace hp := hp.2 h390
          refine wp_skip ?_
          refine then_normal (K388 _ _ _ _ ?_)
          refine seq_ (fun _ K441 => ?_)
          refine reg_ ?_
          refine sq (o_pv (.bool (decide (o.kind = (3 : Int)))) rfl (by kernel_rfl) ?_)
          refine sq (o_pv (.bool (decide (o.kind = (3 : Int)))) rfl (by kernel_rfl) ?_)
          refine nil_ ?_
          refine then_normal (K441 _ _ _ _ ?_)
          refine cond_d (o.kind = (3 : Int)) (by kernel_rfl) (fun h442 => ?_) (fun h442 => ?_)
          ·
            replace hp := hp.1 h442
            refine wp_exit ?_
            refine then_exit ?_
            refine blk_exit_ne rfl ?_
            refine then_exit ?_
            refine blk_exit_ne rfl ?_
            refine then_exit ?_
            refine blk_exit ?_
            refine then_normal (hJ339 _ _ _ ⟨[], fit_mk (fun _ _ => rfl) (by kernel_rfl) vs_nil, ?_⟩)
            exact ⟨X33, l, rfl, E250, hXo249, hS251, hN252, hofileb247, k48, ml248, hp⟩
          ·
            replace hp := hp.2 h442
            refine wp_skip ?_
            refine then_normal (K349 _ _ _ _ ?_)
            refine wp_exit ?_
            refine blk_exit_ne rfl ?_
            refine then_exit ?_
            refine blk_exit_ne rfl ?_
            refine then_exit ?_
            refine blk_exit_ne rfl ?_
            refine then_exit ?_
            refine then_exit ?_
            refine blk_exit ?_
            refine then_normal (hJ245 _ _ _ ⟨[], fit_mk (AgB.look (fun _ _ => rfl) (by kernel_rfl)) (by kernel_rfl) vs_nil, ?_⟩)
            exact ⟨X33, l, rfl, E250, hXo249, hS251, hN252, ml248, hp⟩
    ·
      rintro _ w336 g443 ⟨X337, s332, rfl, E341, hXo342, hS343, hN344, hofileb345, k346, m333, hv340⟩
      replace hp := hk335 s332 hv340
      refine then_normal (K258 _ _ _ _ ?_)
      refine seq_ (fun _ K444 => ?_)
      refine reg_ ?_
      refine sq (o_pv (.map (some rl1)) rfl (by kernel_rfl) ?_)
      refine sq (o_pv (.pointer (some ⟨b13, 1, none⟩)) rfl (by kernel_rfl) ?_)
      refine sq (o_pv (.string o.path) rfl (x_load1 (by kernel_rfl) Tryd.isAgg9 (k346.2.1.cell' 1 rfl)) ?_)
      refine sq (o_mapdel (k := o.path) rfl m333 Tryd.underlying150 Tryd.underlying9 (by kernel_rfl) (by kernel_rfl) ?_)
      intro w445 s446 m447
      refine nil_ ?_
      refine then_normal (K444 _ _ _ _ ?_)
      refine wp_exit ?_
      refine blk_exit ?_
      have E448 := (Evo.thenW E341 (Step.evo s446) m333.2.2)
      have hXo449 := (Old.step hXo342 s446)
      have hS450 := (Sub.trans hS343 (Step.up s446))
      have hN451 := (News.step hN344 s446)
      refine then_normal (hJ245 _ _ _ ⟨[], fit_mk (AgB.nest (AgB.look (fun _ _ => rfl) (by kernel_rfl)) (by kernel_rfl) (by kernel_rfl)) (by kernel_rfl) vs_nil, ?_⟩)
      exact ⟨X337, (mdel s332 o.path), rfl, E448, hXo449, hS450, hN451, m447, hp⟩
  ·
    rintro _ w242 g452 ⟨X243, m238, rfl, E254, hXo255, hS256, hN257, m239, hv246⟩
    replace hp := hk241 m238 hv246
    refine then_normal (K46 _ _ _ _ ?_)
    refine seq_ (fun _ K453 => ?_)
    refine reg_ ?_
    refine sq (o_pv (.bool (mhas l o.path)) rfl (by kernel_rfl) ?_)
    refine sq (o_pv (.bool (mhas l o.path)) rfl (by kernel_rfl) ?_)
    refine nil_ ?_
    refine then_normal (K453 _ _ _ _ ?_)
    refine wp_ret ?_
    refine end_ret hQ (.bool (mhas l o.path)) (by kernel_rfl) ?_
    exact ⟨m238, (mhas l o.path), hp, X243, step_of E254 hF0 hS256 hN257, rfl, m239⟩

def maps_Clone_map_string_simfs_file_string_simfs_file_p (m : (List (ByteArray × S_simfs_file))) (Q : (List (ByteArray × S_simfs_file)) → (List (ByteArray × S_simfs_file)) → Prop) : Prop :=
  Q m m
set_option maxRecDepth 20000 in
set_option maxHeartbeats 4000000 in
theorem maps_Clone_map_string_simfs_file_string_simfs_file_w {X : List Nat} {w : World} {m : (List (ByteArray × S_simfs_file))} {rm1 : Nat} {Q : (List (ByteArray × S_simfs_file)) → (List (ByteArray × S_simfs_file)) → Prop} (hX0 : Old X w) (mm2 : OM r_simfs_file true ([rm1]) w.heap.size X w rm1 m) (hp : maps_Clone_map_string_simfs_file_string_simfs_file_p m Q) :
    Calls Tryd.prog 111 #[(.map (some rm1))] w (Ret fun v w' => ∃ (m0 : (List (ByteArray × S_simfs_file))) (r0 : (List (ByteArray × S_simfs_file))), Q m0 r0 ∧ ∃ (X' : List Nat) (rq01 : Nat), Step X w ([rm1]) X' w' ∧ v = (.map (some rq01)) ∧ OM r_simfs_file true ([rm1]) w.heap.size X' w' rm1 m0 ∧ OM r_simfs_file true ([]) w.heap.size X' w' rq01 r0 ∧ Ap ([rm1]) ([rq01])) := by
  have hXo := hX0
  have E0 : Evo [rm1] w w := RB.refl _ _ _
  have hS : Sub X X := Sub.refl _
  have hN : News X w X w := News.refl _ _
  have hF0 : Sub [rm1] X := OM.mem mm2
  unfold maps_Clone_map_string_simfs_file_string_simfs_file_p at hp
  refine enter_ Tryd.func111 rfl 9 [(0, (.map (some rm1)))] (by kernel_rfl) (fun Qe hQ => ?_)
  refine seq_ (fun _ K3 => ?_)
  refine reg_ ?_
  refine sq (o_pv (.map none) rfl (by kernel_rfl) ?_)
  refine nil_ ?_
  refine then_normal (K3 _ _ _ _ ?_)
  refine seq_ (fun _ K4 => ?_)
  refine seq_ (fun _ K5 => ?_)
  refine reg_ ?_
  refine sq (o_pv (.map (some rm1)) rfl (by kernel_rfl) ?_)
  refine sq (o_pv (.bool false) rfl (x_mnil_eq (r := rm1) Tryd.underlying150 (by kernel_rfl) (by kernel_rfl)) ?_)
  refine nil_ ?_
  refine then_normal (K5 _ _ _ _ ?_)
  refine cond_f (by kernel_rfl) ?_
  refine wp_skip ?_
  refine then_normal (K4 _ _ _ _ ?_)
  refine seq_ (fun _ K6 => ?_)
  refine reg_ ?_
  refine sq (o_pv (.map (some rm1)) rfl (by kernel_rfl) ?_)
  refine sq (o_pv (.iface 150 (.map (some rm1))) rfl (by kernel_rfl) ?_)
  refine sq (o_mapclone (X := X) (B := w.heap.size) (t := 150) E0.size rfl Tryd.func124 (by kernel_rfl) (by kernel_rfl) (by kernel_rfl) (show _ = some Extern.MapsClone.clone by kernel_rfl) mm2 (by kernel_rfl) ?_)
  intro r7 w8 X9 s10 m11 n12
  have p13 := n12 _ (OM.old mm2)
  refine sq (o_pv (.map (some r7)) rfl (x_assert_map (v := (.map (some r7))) Tryd.underlying150 (by kernel_rfl)) ?_)
  refine sq (o_pv (.map (some r7)) rfl (by kernel_rfl) ?_)
  refine nil_ ?_
  refine then_normal (K6 _ _ _ _ ?_)
  refine wp_ret ?_
  have mm14 := (OM.step0 mm2 s10)
  have hXo15 := (Old.step hXo s10)
  have E16 := (Evo.then0 E0 (Step.evo s10))
  have hS17 := (Sub.trans hS (Step.up s10))
  have hN18 := (News.step hN s10)
  refine end_ret hQ (.map (some r7)) (by kernel_rfl) ?_
  exact ⟨m, m, hp, X9, r7, step_of E16 hF0 hS17 hN18, rfl, mm14, m11, p13⟩

def simfs_FS_sync_p (f_ : S_simfs_FS) (Q : S_simfs_FS → Prop) : Prop :=
  ((f_.pending.length ≤ 9223372036854775807) → ((inR .i64 f_.quota) → ((inR .i64 f_.now) → ((inR .i64 f_.inodes) → ((inR .i64 f_.ops_) → ((inR .i64 f_.left) → ((f_.keep.length ≤ 9223372036854775807) → (maps_Clone_map_string_simfs_file_string_simfs_file_p f_.files (fun (m31 : (List (ByteArray × S_simfs_file))) (r32 : (List (ByteArray × S_simfs_file))) => Q (S_simfs_FS.mk r32 m31 ([] : List S_simfs_op) f_.quota f_.now f_.inodes f_.ops_ f_.off f_.armed f_.left f_.keep))))))))))
set_option maxRecDepth 20000 in
set_option maxHeartbeats 4000000 in
theorem simfs_FS_sync_w {X : List Nat} {w : World} {f_ : S_simfs_FS} {bf_1 : Nat} {Ff_2 : List Nat} {Q : S_simfs_FS → Prop} (hX0 : Old X w) (mf_3 : MO o_simfs_FS 153 Ff_2 w.heap.size X w Ff_2 bf_1 f_) (hp : simfs_FS_sync_p f_ Q) :
    Calls Tryd.prog 88 #[(.pointer (some ⟨bf_1, 0, none⟩))] w (Ret fun v w' => ∃ (m0 : S_simfs_FS), Q m0 ∧ ∃ (X' : List Nat) (Fm0 : List Nat), Step X w Ff_2 X' w' ∧ v = .tuple #[] ∧ MO o_simfs_FS 153 Ff_2 w.heap.size X' w' Fm0 bf_1 m0) := by
  have hXo := hX0
  have E0 : Evo Ff_2 w w := RB.refl _ _ _
  have hS : Sub X X := Sub.refl _
  have hN : News X w X w := News.refl _ _
  have hF0 : Sub Ff_2 X := MO.mem mf_3
  unfold simfs_FS_sync_p at hp
  refine enter_ Tryd.func88 rfl 13 [(0, (.pointer (some ⟨bf_1, 0, none⟩)))] (by kernel_rfl) (fun Qe hQ => ?_)
  refine reg_ ?_
  refine sq (o_pv (.pointer (some ⟨bf_1, 0, none⟩)) rfl (by kernel_rfl) ?_)
  refine sq (o_pv (.pointer (some ⟨bf_1, 0, none⟩)) rfl (by kernel_rfl) ?_)
  refine sq (o_pv (.pointer (some ⟨bf_1, 0, none⟩)) rfl (by kernel_rfl) ?_)
  refine sq (o_pv (.pointer (some ⟨bf_1, 0, none⟩)) rfl (by kernel_rfl) ?_)
  obtain ⟨rokept4, rofiles6, ao8, no9, co10, aokeep17, cokeep18, k20, mokept5, mofiles7, Oo11, roquota12, ronow13, roinodes14, roops_15, roleft16, hokeep19, sb21, sb22, sb23, sb24, p25, p26, p27, p28, p29, p30⟩ := o_simfs_FS_open mf_3
  replace hp := hp (OS.len Oo11)
  replace hp := hp roquota12
  replace hp := hp ronow13
  replace hp := hp roinodes14
  replace hp := hp roops_15
  replace hp := hp roleft16
  replace hp := hp (Sl.len hokeep19)
  refine sq (o_pv (.pointer (some ⟨bf_1, 1, none⟩)) rfl (by kernel_rfl) ?_)
  refine sq (o_pv (.map (some rofiles6)) rfl (x_load1 (by kernel_rfl) Tryd.isAgg150 (k20.2.1.cell' 1 rfl)) ?_)
  refine sq (o_call 111 #[(.map (some rofiles6))] rfl (x_call Tryd.call111 (by kernel_rfl)) (maps_Clone_map_string_simfs_file_string_simfs_file_w (X := X) (m := f_.files) hXo (OM.re mofiles7 (Wr.self _ _ (Sub.refl _))) hp) ?_)
  rintro _ w33 ⟨m31, r32, hp, X34, rr37, s35, rfl, m36, mr38, p39⟩
  have m40 := OM.re m36 (Wr.trans m36.wr mofiles7.wr E0.size)
  have p41 := Ap.grow m36.wr p26 (OB.old k20) (Nat.le_refl _)
  have p42 := Ap.grow m36.wr p28 (OM.old mokept5) (Nat.le_refl _)
  have p43 := Ap.grow m36.wr (Ap.symm p30) (OS.old Oo11) (Nat.le_refl _)
  have m44 := OM.re mr38 (Wr.trans mr38.wr (Wr.nil [] _) E0.size)
  have p45 := Ap.grow mr38.wr (Ap.nil_r _) (OB.old k20) (Nat.le_refl _)
  have p46 := Ap.grow mr38.wr (Ap.nil_r _) (OM.old mokept5) (Nat.le_refl _)
  have p47 := Ap.grow mr38.wr (Ap.nil_r _) (OS.old Oo11) (Nat.le_refl _)
  refine sq (o_pv (.pointer (some ⟨bf_1, 0, none⟩)) rfl (by kernel_rfl) ?_)
  refine sq (o_pv (.pointer (some ⟨bf_1, 0, none⟩)) rfl (by kernel_rfl) ?_)
  have k48 := (OB.step k20 s35 p41)
  have mokept49 := (OM.step mokept5 s35 p42)
  have Oo50 := (OS.step Oo11 s35 p43)
  have E51 := (Evo.thenW E0 (Step.evo s35) mofiles7.wr)
  refine sq (o_stB (o := 0) (v := (.map (some rr37))) [(.map (some rr37)), (.map (some rofiles6)), (.slice ao8 no9 co10), (.int .i64 f_.quota), (.int .i64 f_.now), (.int .i64 f_.inodes), (.int .i64 f_.ops_), (.bool f_.off), (.bool f_.armed), (.int .i64 f_.left), (.slice aokeep17 f_.keep.length cokeep18)] rfl k48 (by kernel_rfl) (by kernel_rfl) Tryd.sizeOf150 rfl rfl rfl ?_)
  intro w52 s53 k54
  refine sq (o_pv (.pointer (some ⟨bf_1, 0, none⟩)) rfl (by kernel_rfl) ?_)
  refine sq (o_pv (.pointer (some ⟨bf_1, 2, none⟩)) rfl (by kernel_rfl) ?_)
  have mokept55 := (OM.step mokept49 s53 (Ap.symm p25))
  have Oo56 := (OS.step Oo50 s53 (Ap.symm p27))
  have m57 := (OM.step m40 s53 (Ap.symm p41))
  have m58 := (OM.step m44 s53 (Ap.symm p45))
  have E59 := (Evo.thenW E51 (Step.evo s53) k48.2.2)
  refine sq (o_stB (o := 2) (v := (.slice none 0 0)) [(.map (some rr37)), (.map (some rofiles6)), (.slice none 0 0), (.int .i64 f_.quota), (.int .i64 f_.now), (.int .i64 f_.inodes), (.int .i64 f_.ops_), (.bool f_.off), (.bool f_.armed), (.int .i64 f_.left), (.slice aokeep17 f_.keep.length cokeep18)] rfl k54 (by kernel_rfl) (by kernel_rfl) Tryd.sizeOf151 rfl rfl rfl ?_)
  intro w60 s61 k62
  refine nil_ ?_
  have hXo63 := (Old.step (Old.step (Old.step hXo s35) s53) s61)
  have E64 := (Evo.thenW E59 (Step.evo s61) k54.2.2)
  have hS65 := (Sub.trans (Sub.trans (Sub.trans hS (Step.up s35)) (Step.up s53)) (Step.up s61))
  have hN66 := (News.step (News.step (News.step hN s35) s53) s61)
  have mokept67 := (OM.step mokept55 s61 (Ap.symm p25))
  have Oo68 := (OS.step Oo56 s61 (Ap.symm p27))
  have hokeep69 := (Sl.step (Sl.step (Sl.step hokeep19 s35) s53) s61)
  have m70 := (OM.step m57 s61 (Ap.symm p41))
  have m71 := (OM.step m58 s61 (Ap.symm p45))
  obtain ⟨F72, m73, hs74⟩ := MO.pack (o_simfs_FS_mk k62 (OM.re m71 (Wr.of m71.wr)) m70 (OS.nil2 _ _ _ _ _) roquota12 ronow13 roinodes14 roops_15 roleft16 hokeep69 rfl p45 p41 (Ap.nil_r _) (Ap.symm p39) (Ap.nil_r _) (Ap.nil_r _))
  have p75 := hs74 _ (Ap.cons (Ap.symm p25) (Ap.app p46 (Ap.app p42 (Ap.app (Ap.nil_r _) (Ap.app (Ap.nil_r _) (Ap.app (Ap.nil_r _) (Ap.app (Ap.nil_r _) (Ap.app (Ap.nil_r _) (Ap.app (Ap.nil_r _) (Ap.app (Ap.nil_r _) (Ap.app (Ap.nil_r _) (Ap.nil_r _))))))))))))
  have p76 := hs74 _ (Ap.cons (Ap.symm p27) (Ap.app p47 (Ap.app p43 (Ap.app (Ap.nil_r _) (Ap.app (Ap.nil_r _) (Ap.app (Ap.nil_r _) (Ap.app (Ap.nil_r _) (Ap.app (Ap.nil_r _) (Ap.app (Ap.nil_r _) (Ap.app (Ap.nil_r _) (Ap.app (Ap.nil_r _) (Ap.nil_r _))))))))))))
  refine end_normal hQ (.tuple #[]) (by kernel_rfl) ?_
  exact ⟨(S_simfs_FS.mk r32 m31 ([] : List S_simfs_op) f_.quota f_.now f_.inodes f_.ops_ f_.off f_.armed f_.left f_.keep), hp, X34, F72, step_of E64 hF0 hS65 hN66, rfl, m73⟩

end Go.Proofs.YtjejeipdndddpaaDoor
