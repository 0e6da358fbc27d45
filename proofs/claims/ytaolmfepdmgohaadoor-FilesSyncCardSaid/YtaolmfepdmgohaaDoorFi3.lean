/- Walks of functions: what each asks and computes, as a plain predicate, and the contract from it. -/
import Derived.Test.YtaolmfepdmgohaaDoorChecked
import Derived.Test.YtaolmfepdmgohaaDoorFi2
import Derived.Test.YtaolmfepdmgohaaDoorKeys
namespace Go.Proofs.YtaolmfepdmgohaaDoor
open Go

theorem elT48 : ElemT Tryd.prog 48 56 7 88 := elemT_mk (i := Tryd.t56) (z := (.agg #[(.int .i64 0), (.string (ByteArray.mk #[])), (.string (ByteArray.mk #[])), (.int .i64 0), (.int .i64 0), (.int .i64 0), (.slice none 0 0)])) (by kernel_rfl) (by kernel_rfl) (by kernel_rfl) (by kernel_rfl) Tryd.underlying48 Tryd.sizeOf56 (by decide) (by decide)
def simfs_FS_do_p (f_ : S_simfs_FS) (o : S_simfs_op) (Q : S_simfs_FS → Prop) : Prop :=
  ((inR .i64 o.kind) → ((o.path.size ≤ maxLen) → ((o.to_.size ≤ maxLen) → ((inR .i64 o.file.mode) → ((inR .i64 o.file.time) → ((inR .i64 o.file.inode) → ((o.file.b.length ≤ 9223372036854775807) → ((f_.pending.length ≤ 9223372036854775807) → ((inR .i64 f_.quota) → ((inR .i64 f_.now) → ((inR .i64 f_.inodes) → ((inR .i64 f_.ops_) → ((inR .i64 f_.left) → ((f_.keep.length ≤ 9223372036854775807) → (simfs_apply_p f_.files o (fun (l77 : (List (ByteArray × S_simfs_file))) (r78 : Bool) => (((f_.pending.length + ([o]).length) * 88 ≤ 140737488355328) ∧ ((inR .i64 (f_.ops_ + (1 : Int))) ∧ Q (S_simfs_FS.mk f_.kept l77 (f_.pending ++ ([o])) f_.quota f_.now f_.inodes (f_.ops_ + (1 : Int)) f_.off f_.armed f_.left f_.keep)))))))))))))))))))
set_option maxRecDepth 20000 in
set_option maxHeartbeats 4000000 in
theorem simfs_FS_do_w {X : List Nat} {w : World} {f_ : S_simfs_FS} {o : S_simfs_op} {bf_1 : Nat} {Ff_2 : List Nat} {aofileb10 : Option Addr} {cofileb11 : Nat} {Q : S_simfs_FS → Prop} (hX0 : Old X w) (mf_3 : MO o_simfs_FS 50 Ff_2 w.heap.size X w Ff_2 bf_1 f_) (rokind4 : inR .i64 o.kind) (zopath5 : o.path.size ≤ maxLen) (zoto_6 : o.to_.size ≤ maxLen) (rofilemode7 : inR .i64 o.file.mode) (rofiletime8 : inR .i64 o.file.time) (rofileinode9 : inR .i64 o.file.inode) (hofileb12 : Sl (rInt .u8) X w aofileb10 cofileb11 o.file.b) (hp : simfs_FS_do_p f_ o Q) :
    Calls Tryd.prog 26 #[(.pointer (some ⟨bf_1, 0, none⟩)), (.agg #[(.int .i64 o.kind), (.string o.path), (.string o.to_), (.int .i64 o.file.mode), (.int .i64 o.file.time), (.int .i64 o.file.inode), (.slice aofileb10 o.file.b.length cofileb11)])] w (Ret fun v w' => ∃ (m0 : S_simfs_FS), Q m0 ∧ ∃ (X' : List Nat) (Fm0 : List Nat), Step X w Ff_2 X' w' ∧ v = .tuple #[] ∧ MO o_simfs_FS 50 Ff_2 w.heap.size X' w' Fm0 bf_1 m0) := by
  have hXo := hX0
  have E0 : Evo Ff_2 w w := RB.refl _ _ _
  have hS : Sub X X := Sub.refl _
  have hN : News X w X w := News.refl _ _
  have hF0 : Sub Ff_2 X := MO.mem mf_3
  unfold simfs_FS_do_p at hp
  refine enter_ Tryd.func26 rfl 27 [(0, (.pointer (some ⟨bf_1, 0, none⟩))), (1, (.agg #[(.int .i64 o.kind), (.string o.path), (.string o.to_), (.int .i64 o.file.mode), (.int .i64 o.file.time), (.int .i64 o.file.inode), (.slice aofileb10 o.file.b.length cofileb11)]))] (by kernel_rfl) (fun Qe hQ => ?_)
  replace hp := hp rokind4
  replace hp := hp zopath5
  replace hp := hp zoto_6
  replace hp := hp rofilemode7
  replace hp := hp rofiletime8
  replace hp := hp rofileinode9
  replace hp := hp (Sl.len hofileb12)
  refine seq_ (fun _ K13 => ?_)
  refine reg_ ?_
  refine sq (o_newX [(.int .i64 o.kind), (.string o.path), (.string o.to_), (.int .i64 o.file.mode), (.int .i64 o.file.time), (.int .i64 o.file.inode), (.slice aofileb10 o.file.b.length cofileb11)] 56 (X := X) (B := w.heap.size) E0.size rfl (by kernel_rfl) ?_)
  intro b14 w15 X16 s17 k18 n19
  have p20 := n19 _ (MO.old mf_3)
  refine nil_ ?_
  refine then_normal (K13 _ _ _ _ ?_)
  refine seq_ (fun _ K21 => ?_)
  have mf_22 := (MO.step0 mf_3 s17)
  obtain ⟨rokept23, rofiles25, ao27, no28, co29, aokeep36, cokeep37, k39, mokept24, mofiles26, Oo30, roquota31, ronow32, roinodes33, roops_34, roleft35, hokeep38, sb40, sb41, sb42, sb43, p44, p45, p46, p47, p48, p49⟩ := o_simfs_FS_open mf_22
  have p50 := Ap.subr (Ap.symm p20) sb40
  have p51 := Ap.subr (Ap.symm p20) sb41
  have p52 := Ap.subr (Ap.symm p20) sb42
  have p53 := Ap.subr (Ap.symm p20) sb43
  replace hp := hp (OS.len Oo30)
  replace hp := hp roquota31
  replace hp := hp ronow32
  replace hp := hp roinodes33
  replace hp := hp roops_34
  replace hp := hp roleft35
  replace hp := hp (Sl.len hokeep38)
  have hofileb54 := (Sl.step hofileb12 s17)
  have hXo55 := (Old.step hXo s17)
  have E56 := (Evo.then0 E0 (Step.evo s17))
  have hS57 := (Sub.trans hS (Step.up s17))
  have hN58 := (News.step hN s17)
  have hFX65 : Sub [rofiles25] X16 := (OM.mem mofiles26)
  refine reg_drawn (RB w15.heap.size [rofiles25]) 6 (by kernel_rfl) (fun w59 hd60 => ?_)
  have e61 := Evo.of_drew hd60
  have z62 : w59.heap.size = w15.heap.size := by rw [hd60]
  clear hd60
  have s64 := Step.of0 X16 e61
  have er63 := RB.refl w15.heap.size [rofiles25] w59
  have hofileb66 := (Sl.step hofileb54 s64)
  have hXo67 := (Old.step hXo55 s64)
  have E68 := (Evo.then0 E56 (Step.evo s64))
  have hS69 := (Sub.trans hS57 (Step.up s64))
  have hN70 := (News.step hN58 s64)
  have k71 := (OB.step0 k18 s64)
  have k72 := (OB.step0 k39 s64)
  have mokept73 := (OM.step0 mokept24 s64)
  have mofiles74 := (OM.step0 mofiles26 s64)
  have Oo75 := (OS.step0 Oo30 s64)
  have hokeep76 := (Sl.step hokeep38 s64)
  refine r_take 0 (.pointer (some ⟨bf_1, 0, none⟩)) (RB.pre _ _) rfl (by kernel_rfl) (fun _ _ _ h => hQ.panic _ _ _ _ _ h) (.inl ⟨rfl, fun wq hq => (by kernel_rfl)⟩) ?_
  refine r_take 1 (.pointer (some ⟨bf_1, 0, none⟩)) (RB.pre _ _) rfl (by kernel_rfl) (fun _ _ _ h => hQ.panic _ _ _ _ _ h) (.inl ⟨rfl, fun wq hq => (by kernel_rfl)⟩) ?_
  refine r_take 2 (.pointer (some ⟨bf_1, 1, none⟩)) (RB.pre _ _) rfl (by kernel_rfl) (fun _ _ _ h => hQ.panic _ _ _ _ _ h) (.inl ⟨rfl, fun wq hq => (by kernel_rfl)⟩) ?_
  refine r_take 3 (.map (some rofiles25)) (RB.pre _ _) rfl (by kernel_rfl) (fun _ _ _ h => hQ.panic _ _ _ _ _ h) (.inl ⟨rfl, fun wq hq => (x_load1 (by kernel_rfl) Tryd.isAgg47 ((OB.step k72 (stepR (RB.trans er63 hq) z62 hFX65) p45).2.1.cell' 1 rfl))⟩) ?_
  refine r_take 4 (.agg #[(.int .i64 o.kind), (.string o.path), (.string o.to_), (.int .i64 o.file.mode), (.int .i64 o.file.time), (.int .i64 o.file.inode), (.slice aofileb10 o.file.b.length cofileb11)]) (RB.pre _ _) rfl (by kernel_rfl) (fun _ _ _ h => hQ.panic _ _ _ _ _ h) (.inl ⟨rfl, fun wq hq => (x_loadN [(.int .i64 o.kind), (.string o.path), (.string o.to_), (.int .i64 o.file.mode), (.int .i64 o.file.time), (.int .i64 o.file.inode), (.slice aofileb10 o.file.b.length cofileb11)] (by kernel_rfl) Tryd.isAgg56 Tryd.sizeOf56 ((OB.step k71 (stepR (RB.trans er63 hq) z62 hFX65) p52).2.1.cells' 0 rfl))⟩) ?_
  refine r_ready [5] (by kernel_rfl) rfl (all_cons ⟨_, _, _, _, _, _, rfl, ?_⟩ all_nil)
  refine o_call 32 #[(.map (some rofiles25)), (.agg #[(.int .i64 o.kind), (.string o.path), (.string o.to_), (.int .i64 o.file.mode), (.int .i64 o.file.time), (.int .i64 o.file.inode), (.slice aofileb10 o.file.b.length cofileb11)])] rfl (x_call Tryd.call32 (by kernel_rfl)) (simfs_apply_w (X := X16) (l := f_.files) (o := o) hXo67 (OM.re mofiles74 (Wr.self _ _ (Sub.refl _))) rokind4 zopath5 zoto_6 rofilemode7 rofiletime8 rofileinode9 hofileb66 hp) ?_
  rintro _ w79 ⟨l77, r78, hp, X80, s81, rfl, m82⟩
  have rm := RB.mono (F' := [rofiles25]) (Step.evo s81) (Nat.le_trans (Nat.le_of_eq z62.symm) (RB.size er63)) (Wr.self _ _ (Sub.refl _))
  have er83 := RB.trans er63 rm
  refine ⟨fun _ => rm, ?_⟩
  have wn84 : Wr [rofiles25] w15.heap.size [rofiles25] := Wr.trans m82.wr (Wr.self _ _ (Sub.refl _)) (Nat.le_trans (Nat.le_of_eq z62.symm) (RB.size er63))
  have m85 := OM.re m82 (Wr.trans m82.wr mofiles74.wr E68.size)
  have p86 := Ap.grow m82.wr p52 (OB.old k71) (Nat.le_refl _)
  have p87 := Ap.grow m82.wr p45 (OB.old k72) (Nat.le_refl _)
  have p88 := Ap.grow m82.wr p47 (OM.old mokept73) (Nat.le_refl _)
  have p89 := Ap.grow m82.wr (Ap.symm p49) (OS.old Oo75) (Nat.le_refl _)
  refine r_done (by kernel_rfl) ?_
  refine then_normal (K21 _ _ _ _ ?_)
  refine seq_ (fun _ K90 => ?_)
  have hofileb91 := (Sl.step hofileb66 s81)
  have hXo92 := (Old.step hXo67 s81)
  have E93 := (Evo.thenW E68 (Step.evo s81) mofiles74.wr)
  have hS94 := (Sub.trans hS69 (Step.up s81))
  have hN95 := (News.step hN70 s81)
  have k96 := (OB.step k71 s81 p86)
  have k97 := (OB.step k72 s81 p87)
  have mokept98 := (OM.step mokept73 s81 p88)
  have Oo99 := (OS.step Oo75 s81 p89)
  have hokeep100 := (Sl.step hokeep76 s81)
  have hFX107 : Sub (blkL ao27) X80 := (OS.mem Oo99)
  refine reg_drawn (RB w79.heap.size (blkL ao27)) 10 (by kernel_rfl) (fun w101 hd102 => ?_)
  have e103 := Evo.of_drew hd102
  have z104 : w101.heap.size = w79.heap.size := by rw [hd102]
  clear hd102
  have s106 := Step.of0 X80 e103
  have er105 := RB.refl w79.heap.size (blkL ao27) w101
  have hofileb108 := (Sl.step hofileb91 s106)
  have hXo109 := (Old.step hXo92 s106)
  have E110 := (Evo.then0 E93 (Step.evo s106))
  have hS111 := (Sub.trans hS94 (Step.up s106))
  have hN112 := (News.step hN95 s106)
  have k113 := (OB.step0 k96 s106)
  have k114 := (OB.step0 k97 s106)
  have mokept115 := (OM.step0 mokept98 s106)
  have Oo116 := (OS.step0 Oo99 s106)
  have hokeep117 := (Sl.step hokeep100 s106)
  have m118 := (OM.step0 m85 s106)
  refine r_take 0 (.pointer (some ⟨bf_1, 0, none⟩)) (RB.pre _ _) rfl (by kernel_rfl) (fun _ _ _ h => hQ.panic _ _ _ _ _ h) (.inl ⟨rfl, fun wq hq => (by kernel_rfl)⟩) ?_
  refine r_take 1 (.pointer (some ⟨bf_1, 0, none⟩)) (RB.pre _ _) rfl (by kernel_rfl) (fun _ _ _ h => hQ.panic _ _ _ _ _ h) (.inl ⟨rfl, fun wq hq => (by kernel_rfl)⟩) ?_
  refine r_take 2 (.pointer (some ⟨bf_1, 0, none⟩)) (RB.pre _ _) rfl (by kernel_rfl) (fun _ _ _ h => hQ.panic _ _ _ _ _ h) (.inl ⟨rfl, fun wq hq => (by kernel_rfl)⟩) ?_
  refine r_take 3 (.pointer (some ⟨bf_1, 2, none⟩)) (RB.pre _ _) rfl (by kernel_rfl) (fun _ _ _ h => hQ.panic _ _ _ _ _ h) (.inl ⟨rfl, fun wq hq => (by kernel_rfl)⟩) ?_
  refine r_take 4 (.slice ao27 no28 co29) (RB.pre _ _) rfl (by kernel_rfl) (fun _ _ _ h => hQ.panic _ _ _ _ _ h) (.inl ⟨rfl, fun wq hq => (x_load1 (by kernel_rfl) Tryd.isAgg48 ((OB.step k114 (stepR (RB.trans er105 hq) z104 hFX107) p46).2.1.cell' 2 rfl))⟩) ?_
  refine r_take 5 (.agg #[(.int .i64 o.kind), (.string o.path), (.string o.to_), (.int .i64 o.file.mode), (.int .i64 o.file.time), (.int .i64 o.file.inode), (.slice aofileb10 o.file.b.length cofileb11)]) (RB.pre _ _) rfl (by kernel_rfl) (fun _ _ _ h => hQ.panic _ _ _ _ _ h) (.inl ⟨rfl, fun wq hq => (x_loadN [(.int .i64 o.kind), (.string o.path), (.string o.to_), (.int .i64 o.file.mode), (.int .i64 o.file.time), (.int .i64 o.file.inode), (.slice aofileb10 o.file.b.length cofileb11)] (by kernel_rfl) Tryd.isAgg56 Tryd.sizeOf56 ((OB.step k113 (stepR (RB.trans er105 hq) z104 hFX107) p53).2.1.cells' 0 rfl))⟩) ?_
  refine r_ready [6] (by kernel_rfl) rfl (all_cons ⟨_, _, _, _, _, _, rfl, ?_⟩ all_nil)
  refine o_rowX (R := r_simfs_op) [(.int .i64 o.kind), (.string o.path), (.string o.to_), (.int .i64 o.file.mode), (.int .i64 o.file.time), (.int .i64 o.file.inode), (.slice aofileb10 o.file.b.length cofileb11)] [o] 56 1 (X := X80) (B := w.heap.size) E110.size rfl (by kernel_rfl) (Flat.cons (cs := [(.int .i64 o.kind), (.string o.path), (.string o.to_), (.int .i64 o.file.mode), (.int .i64 o.file.time), (.int .i64 o.file.inode), (.slice aofileb10 o.file.b.length cofileb11)]) (r_simfs_op_mk rokind4 zopath5 zoto_6 rofilemode7 rofiletime8 rofileinode9 hofileb108 rfl) Flat.nil) rfl (by decide) ?_
  intro b119 w120 X121 s122 O123 n124
  have rm := RB.mono (F' := (blkL ao27)) (Step.evo s122) (Nat.le_trans (Nat.le_of_eq z104.symm) (RB.size er105)) (fun _ h => by cases h)
  have er125 := RB.trans er105 rm
  refine ⟨fun _ => rm, ?_⟩
  have p126 := n124 _ (OB.old k113)
  have p127 := n124 _ (OB.old k114)
  have p128 := n124 _ (OM.old mokept115)
  have p129 := n124 _ (OS.old Oo116)
  have p130 := n124 _ (OM.old m118)
  refine r_ready [7] (by kernel_rfl) rfl (all_cons ⟨_, _, _, _, _, _, rfl, ?_⟩ all_nil)
  obtain ⟨h131, hp⟩ := hp
  have Oo132 := (OS.step0 Oo116 s122)
  have k133 := (OB.step0 k113 s122)
  have k134 := (OB.step0 k114 s122)
  have mokept135 := (OM.step0 mokept115 s122)
  have m136 := (OM.step0 m118 s122)
  have E137 := (Evo.then0 E110 (Step.evo s122))
  refine o_appX (R := r_simfs_op) (X := X121) (B := w.heap.size) (L := f_.pending) (M := [o]) rfl elT48 rfl E137.size Oo132 (OS.src O123) O123.1 (by kernel_rfl) (by kernel_rfl) h131 ?_
  intro a138 n139 c140 w141 X142 s143 O144 gr145
  have rm := RB.mono (F' := (blkL ao27)) (Step.evo s143) (Nat.le_trans (Nat.le_of_eq z104.symm) (RB.size er125)) (Wr.self _ _ (Sub.refl _))
  have er146 := RB.trans er125 rm
  refine ⟨fun _ => rm, ?_⟩
  have p147 := gr145 _ p53 (OB.old k133)
  have p148 := gr145 _ p46 (OB.old k134)
  have p149 := gr145 _ p48 (OM.old mokept135)
  have p150 := gr145 _ p49 (OM.old m136)
  refine r_take 8 (.pointer (some ⟨bf_1, 0, none⟩)) (RB.pre _ _) rfl (by kernel_rfl) (fun _ _ _ h => hQ.panic _ _ _ _ _ h) (.inl ⟨rfl, fun wq hq => (by kernel_rfl)⟩) ?_
  refine r_take 9 (.pointer (some ⟨bf_1, 2, none⟩)) (RB.pre _ _) rfl (by kernel_rfl) (fun _ _ _ h => hQ.panic _ _ _ _ _ h) (.inl ⟨rfl, fun wq hq => (by kernel_rfl)⟩) ?_
  refine r_ready [10] (by kernel_rfl) rfl (all_cons ⟨_, _, _, _, _, _, rfl, ?_⟩ all_nil)
  have k151 := (OB.step k133 s143 p53)
  have k152 := (OB.step k134 s143 p46)
  have mokept153 := (OM.step mokept135 s143 p48)
  have m154 := (OM.step m136 s143 p49)
  have E155 := (Evo.thenW E137 (Step.evo s143) Oo132.2.2)
  refine o_stB (o := 2) (v := (.slice a138 n139 c140)) [(.map (some rokept23)), (.map (some rofiles25)), (.slice a138 n139 c140), (.int .i64 f_.quota), (.int .i64 f_.now), (.int .i64 f_.inodes), (.int .i64 f_.ops_), (.bool f_.off), (.bool f_.armed), (.int .i64 f_.left), (.slice aokeep36 f_.keep.length cokeep37)] rfl k152 (by kernel_rfl) (by kernel_rfl) Tryd.sizeOf48 rfl rfl rfl ?_
  intro w156 s157 k158
  refine ⟨fun h => absurd h (by decide), ?_⟩
  refine r_done (by kernel_rfl) ?_
  refine then_normal (K90 _ _ _ _ ?_)
  refine reg_ ?_
  refine sq (o_pv (.pointer (some ⟨bf_1, 0, none⟩)) rfl (by kernel_rfl) ?_)
  refine sq (o_pv (.pointer (some ⟨bf_1, 0, none⟩)) rfl (by kernel_rfl) ?_)
  refine sq (o_pv (.pointer (some ⟨bf_1, 6, none⟩)) rfl (by kernel_rfl) ?_)
  refine sq (o_pv (.int .i64 f_.ops_) rfl (x_load1 (by kernel_rfl) Tryd.isAgg3 (k158.2.1.cell' 6 rfl)) ?_)
  obtain ⟨h159, hp⟩ := hp
  refine sq (o_pv (.int .i64 (f_.ops_ + (1 : Int))) rfl (x_add2 (k := .i64) (a := f_.ops_) (b := (1 : Int)) (f_.ops_ + (1 : Int)) (by kernel_rfl) (by kernel_rfl) (wrap_inR h159)) ?_)
  refine sq (o_pv (.pointer (some ⟨bf_1, 0, none⟩)) rfl (by kernel_rfl) ?_)
  refine sq (o_pv (.pointer (some ⟨bf_1, 6, none⟩)) rfl (by kernel_rfl) ?_)
  have k160 := (OB.step k151 s157 p50)
  have mokept161 := (OM.step mokept153 s157 (Ap.symm p44))
  have m162 := (OM.step m154 s157 (Ap.symm p87))
  have O163 := (OS.step O144 s157 (Ap.symm p148))
  have E164 := (Evo.thenW E155 (Step.evo s157) k152.2.2)
  refine sq (o_stB (o := 6) (v := (.int .i64 (f_.ops_ + (1 : Int)))) [(.map (some rokept23)), (.map (some rofiles25)), (.slice a138 n139 c140), (.int .i64 f_.quota), (.int .i64 f_.now), (.int .i64 f_.inodes), (.int .i64 (f_.ops_ + (1 : Int))), (.bool f_.off), (.bool f_.armed), (.int .i64 f_.left), (.slice aokeep36 f_.keep.length cokeep37)] rfl k158 (by kernel_rfl) (by kernel_rfl) Tryd.sizeOf3 rfl rfl rfl ?_)
  intro w165 s166 k167
  refine nil_ ?_
  have hofileb168 := (Sl.step (Sl.step (Sl.step (Sl.step hofileb108 s122) s143) s157) s166)
  have hXo169 := (Old.step (Old.step (Old.step (Old.step hXo109 s122) s143) s157) s166)
  have E170 := (Evo.thenW E164 (Step.evo s166) k158.2.2)
  have hS171 := (Sub.trans (Sub.trans (Sub.trans (Sub.trans hS111 (Step.up s122)) (Step.up s143)) (Step.up s157)) (Step.up s166))
  have hN172 := (News.step (News.step (News.step (News.step hN112 s122) s143) s157) s166)
  have k173 := (OB.step k160 s166 p50)
  have mokept174 := (OM.step mokept161 s166 (Ap.symm p44))
  have hokeep175 := (Sl.step (Sl.step (Sl.step (Sl.step hokeep117 s122) s143) s157) s166)
  have m176 := (OM.step m162 s166 (Ap.symm p87))
  have O177 := (OS.step O163 s166 (Ap.symm p148))
  obtain ⟨F178, m179, hs180⟩ := MO.pack (o_simfs_FS_mk k167 mokept174 m176 O177 roquota31 ronow32 roinodes33 h159 roleft35 hokeep175 rfl p44 p87 p148 p88 p149 p150)
  have p181 := hs180 _ (Ap.cons p50 (Ap.app p51 (Ap.app p86 (Ap.app p147 (Ap.app (Ap.nil_r _) (Ap.app (Ap.nil_r _) (Ap.app (Ap.nil_r _) (Ap.app (Ap.nil_r _) (Ap.app (Ap.nil_r _) (Ap.app (Ap.nil_r _) (Ap.app (Ap.nil_r _) (Ap.nil_r _))))))))))))
  refine end_normal hQ (.tuple #[]) (by kernel_rfl) ?_
  exact ⟨(S_simfs_FS.mk f_.kept l77 (f_.pending ++ ([o])) f_.quota f_.now f_.inodes (f_.ops_ + (1 : Int)) f_.off f_.armed f_.left f_.keep), hp, X142, F178, step_of E170 hF0 hS171 hN172, rfl, m179⟩

def simfs_FS_Write_p (f_ : S_simfs_FS) (p : ByteArray) (mode : Int) (b : (List Int)) (Q : S_simfs_FS → Int → Prop) : Prop :=
  ((p.size ≤ maxLen) → ((inR .i64 mode) → ((b.length ≤ 9223372036854775807) → (simfs_FS_may_p f_ p mode b (fun (f_12 : S_simfs_FS) (r13 : Int) => ((inR .i64 r13) → (((¬ (r13 = (0 : Int))) → Q f_12 r13) ∧ ((r13 = (0 : Int)) → (simfs_FS_trips_p f_12 (fun (f_36 : S_simfs_FS) (r37 : Bool) => (((r37 = true) → Q f_36 (13 : Int)) ∧ ((r37 = false) → (simfs_FS_put_p f_36 p mode b (fun (f_57 : S_simfs_FS) (r58 : S_simfs_op) => ((inR .i64 r58.kind) → ((r58.path.size ≤ maxLen) → ((r58.to_.size ≤ maxLen) → ((inR .i64 r58.file.mode) → ((inR .i64 r58.file.time) → ((inR .i64 r58.file.inode) → ((r58.file.b.length ≤ 9223372036854775807) → (simfs_FS_do_p f_57 r58 (fun (f_80 : S_simfs_FS) => Q f_80 (0 : Int))))))))))))))))))))))))
set_option maxRecDepth 20000 in
set_option maxHeartbeats 4000000 in
theorem simfs_FS_Write_w {X : List Nat} {w : World} {f_ : S_simfs_FS} {p : ByteArray} {mode : Int} {b : (List Int)} {bf_1 : Nat} {Ff_2 : List Nat} {ab6 : Option Addr} {cb7 : Nat} {Q : S_simfs_FS → Int → Prop} (hX0 : Old X w) (mf_3 : MO o_simfs_FS 50 Ff_2 w.heap.size X w Ff_2 bf_1 f_) (zp4 : p.size ≤ maxLen) (rmode5 : inR .i64 mode) (hb8 : Sl (rInt .u8) X w ab6 cb7 b) (hp : simfs_FS_Write_p f_ p mode b Q) :
    Calls Tryd.prog 9 #[(.pointer (some ⟨bf_1, 0, none⟩)), (.string p), (.int .i64 mode), (.slice ab6 b.length cb7)] w (Ret fun v w' => ∃ (m0 : S_simfs_FS) (r0 : Int), Q m0 r0 ∧ ∃ (X' : List Nat) (Fm0 : List Nat), Step X w Ff_2 X' w' ∧ v = (.int .i64 r0) ∧ MO o_simfs_FS 50 Ff_2 w.heap.size X' w' Fm0 bf_1 m0 ∧ inR .i64 r0) := by
  have hXo := hX0
  have E0 : Evo Ff_2 w w := RB.refl _ _ _
  have hS : Sub X X := Sub.refl _
  have hN : News X w X w := News.refl _ _
  have hF0 : Sub Ff_2 X := MO.mem mf_3
  unfold simfs_FS_Write_p at hp
  refine enter_ Tryd.func9 rfl 27 [(0, (.pointer (some ⟨bf_1, 0, none⟩))), (1, (.string p)), (2, (.int .i64 mode)), (3, (.slice ab6 b.length cb7))] (by kernel_rfl) (fun Qe hQ => ?_)
  replace hp := hp zp4
  replace hp := hp rmode5
  replace hp := hp (Sl.len hb8)
  refine seq_ (fun _ K9 => ?_)
  refine reg_ ?_
  refine sq (o_pv (.int .i64 (0 : Int)) rfl (by kernel_rfl) ?_)
  refine nil_ ?_
  refine then_normal (K9 _ _ _ _ ?_)
  refine seq_ (fun _ K10 => ?_)
  refine seq_ (fun _ K11 => ?_)
  refine reg_ ?_
  refine sq (o_pv (.pointer (some ⟨bf_1, 0, none⟩)) rfl (by kernel_rfl) ?_)
  refine sq (o_pv (.string p) rfl (by kernel_rfl) ?_)
  refine sq (o_pv (.int .i64 mode) rfl (by kernel_rfl) ?_)
  refine sq (o_pv (.slice ab6 b.length cb7) rfl (by kernel_rfl) ?_)
  refine sq (o_call 24 #[(.pointer (some ⟨bf_1, 0, none⟩)), (.string p), (.int .i64 mode), (.slice ab6 b.length cb7)] rfl (x_call Tryd.call24 (by kernel_rfl)) (simfs_FS_may_w (X := X) (f_ := f_) (p := p) (mode := mode) (b := b) hXo (MO.re mf_3 (Wr.self _ _ (Sub.refl _))) zp4 rmode5 hb8 hp) ?_)
  rintro _ w14 ⟨f_12, r13, hp, X15, F17, s16, rfl, m18, rr19⟩
  have m20 := MO.re m18 (Wr.trans m18.wr mf_3.wr E0.size)
  replace hp := hp rr19
  refine sq (o_pv (.int .i64 r13) rfl (by kernel_rfl) ?_)
  refine nil_ ?_
  refine then_normal (K11 _ _ _ _ ?_)
  refine seq_ (fun _ K21 => ?_)
  refine reg_ ?_
  refine sq (o_pv (.int .i64 r13) rfl (by kernel_rfl) ?_)
  refine sq (o_pv (.bool (!decide (r13 = (0 : Int)))) rfl (by kernel_rfl) ?_)
  refine nil_ ?_
  refine then_normal (K21 _ _ _ _ ?_)
  refine cond_nd (r13 = (0 : Int)) (by kernel_rfl) (fun h22 => ?_) (fun h22 => ?_)
  ·
    replace hp := hp.1 h22
    refine seq_ (fun _ K23 => ?_)
    refine reg_ ?_
    refine sq (o_pv (.int .i64 r13) rfl (by kernel_rfl) ?_)
    refine sq (o_pv (.int .i64 r13) rfl (by kernel_rfl) ?_)
    refine nil_ ?_
    refine then_normal (K23 _ _ _ _ ?_)
    refine wp_ret ?_
    refine then_ret ?_
    have hb24 := (Sl.step hb8 s16)
    have hXo25 := (Old.step hXo s16)
    have E26 := (Evo.thenW E0 (Step.evo s16) mf_3.wr)
    have hS27 := (Sub.trans hS (Step.up s16))
    have hN28 := (News.step hN s16)
    refine end_ret hQ (.int .i64 r13) (by kernel_rfl) ?_
    exact ⟨f_12, r13, hp, X15, F17, step_of E26 hF0 hS27 hN28, rfl, m20, rr19⟩
  ·
    replace hp := hp.2 h22
    refine wp_skip ?_
    refine then_normal (K10 _ _ _ _ ?_)
    refine seq_ (fun _ K29 => ?_)
    refine seq_ (fun _ K30 => ?_)
    refine reg_ ?_
    refine sq (o_pv (.pointer (some ⟨bf_1, 0, none⟩)) rfl (by kernel_rfl) ?_)
    have hb31 := (Sl.step hb8 s16)
    have hXo32 := (Old.step hXo s16)
    have E33 := (Evo.thenW E0 (Step.evo s16) mf_3.wr)
    have hS34 := (Sub.trans hS (Step.up s16))
    have hN35 := (News.step hN s16)
    refine sq (o_call 25 #[(.pointer (some ⟨bf_1, 0, none⟩))] rfl (x_call Tryd.call25 (by kernel_rfl)) (simfs_FS_trips_w (X := X15) (f_ := f_12) hXo32 (MO.re m20 (Wr.self _ _ (Sub.refl _))) hp) ?_)
    rintro _ w38 ⟨f_36, r37, hp, X39, F41, s40, rfl, m42⟩
    have m43 := MO.re m42 (Wr.trans m42.wr m20.wr E33.size)
    refine nil_ ?_
    refine then_normal (K30 _ _ _ _ ?_)
    refine cond_b r37 (by kernel_rfl) (fun h44 => ?_) (fun h44 => ?_)
    ·
      replace hp := hp.1 h44
      refine seq_ (fun _ K45 => ?_)
      refine reg_ ?_
      refine sq (o_pv (.int .i64 (13 : Int)) rfl (by kernel_rfl) ?_)
      refine nil_ ?_
      refine then_normal (K45 _ _ _ _ ?_)
      refine wp_ret ?_
      refine then_ret ?_
      have hb46 := (Sl.step hb31 s40)
      have hXo47 := (Old.step hXo32 s40)
      have E48 := (Evo.thenW E33 (Step.evo s40) m20.wr)
      have hS49 := (Sub.trans hS34 (Step.up s40))
      have hN50 := (News.step hN35 s40)
      refine end_ret hQ (.int .i64 (13 : Int)) (by kernel_rfl) ?_
      exact ⟨f_36, (13 : Int), hp, X39, F41, step_of E48 hF0 hS49 hN50, rfl, m43, (by decide : inR .i64 (13 : Int))⟩
    ·
      replace hp := hp.2 h44
      refine wp_skip ?_
      refine then_normal (K29 _ _ _ _ ?_)
      refine seq_ (fun _ K51 => ?_)
      refine reg_ ?_
      refine sq (o_pv (.pointer (some ⟨bf_1, 0, none⟩)) rfl (by kernel_rfl) ?_)
      refine sq (o_pv (.pointer (some ⟨bf_1, 0, none⟩)) rfl (by kernel_rfl) ?_)
      refine sq (o_pv (.string p) rfl (by kernel_rfl) ?_)
      refine sq (o_pv (.int .i64 mode) rfl (by kernel_rfl) ?_)
      refine sq (o_pv (.slice ab6 b.length cb7) rfl (by kernel_rfl) ?_)
      have hb52 := (Sl.step hb31 s40)
      have hXo53 := (Old.step hXo32 s40)
      have E54 := (Evo.thenW E33 (Step.evo s40) m20.wr)
      have hS55 := (Sub.trans hS34 (Step.up s40))
      have hN56 := (News.step hN35 s40)
      refine sq (o_call 27 #[(.pointer (some ⟨bf_1, 0, none⟩)), (.string p), (.int .i64 mode), (.slice ab6 b.length cb7)] rfl (x_call Tryd.call27 (by kernel_rfl)) (simfs_FS_put_w (X := X39) (f_ := f_36) (p := p) (mode := mode) (b := b) hXo53 (MO.re m43 (Wr.self _ _ (Sub.refl _))) zp4 rmode5 hb52 hp) ?_)
      rintro _ w59 ⟨f_57, r58, hp, X60, F62, arfileb70, crfileb71, s61, rfl, m63, rrkind64, zrpath65, zrto_66, rrfilemode67, rrfiletime68, rrfileinode69, hrfileb72, pin73⟩
      have m74 := MO.re m63 (Wr.trans m63.wr m43.wr E54.size)
      replace hp := hp rrkind64
      replace hp := hp zrpath65
      replace hp := hp zrto_66
      replace hp := hp rrfilemode67
      replace hp := hp rrfiletime68
      replace hp := hp rrfileinode69
      replace hp := hp (Sl.len hrfileb72)
      have hb75 := (Sl.step hb52 s61)
      have hXo76 := (Old.step hXo53 s61)
      have E77 := (Evo.thenW E54 (Step.evo s61) m43.wr)
      have hS78 := (Sub.trans hS55 (Step.up s61))
      have hN79 := (News.step hN56 s61)
      refine sq (o_call 26 #[(.pointer (some ⟨bf_1, 0, none⟩)), (.agg #[(.int .i64 r58.kind), (.string r58.path), (.string r58.to_), (.int .i64 r58.file.mode), (.int .i64 r58.file.time), (.int .i64 r58.file.inode), (.slice arfileb70 r58.file.b.length crfileb71)])] rfl (x_call Tryd.call26 (by kernel_rfl)) (simfs_FS_do_w (X := X60) (f_ := f_57) (o := r58) hXo76 (MO.re m74 (Wr.self _ _ (Sub.refl _))) rrkind64 zrpath65 zrto_66 rrfilemode67 rrfiletime68 rrfileinode69 hrfileb72 hp) ?_)
      rintro _ w81 ⟨f_80, hp, X82, F84, s83, rfl, m85⟩
      have m86 := MO.re m85 (Wr.trans m85.wr m74.wr E77.size)
      refine nil_ ?_
      refine then_normal (K51 _ _ _ _ ?_)
      refine seq_ (fun _ K87 => ?_)
      refine reg_ ?_
      refine sq (o_pv (.int .i64 (0 : Int)) rfl (by kernel_rfl) ?_)
      refine nil_ ?_
      refine then_normal (K87 _ _ _ _ ?_)
      refine wp_ret ?_
      have hb88 := (Sl.step hb75 s83)
      have hXo89 := (Old.step hXo76 s83)
      have E90 := (Evo.thenW E77 (Step.evo s83) m74.wr)
      have hS91 := (Sub.trans hS78 (Step.up s83))
      have hN92 := (News.step hN79 s83)
      have hrfileb93 := (Sl.step hrfileb72 s83)
      refine end_ret hQ (.int .i64 (0 : Int)) (by kernel_rfl) ?_
      exact ⟨f_80, (0 : Int), hp, X82, F84, step_of E90 hF0 hS91 hN92, rfl, m86, (by decide : inR .i64 (0 : Int))⟩

def simfs_FS_Tick_p (f_ : S_simfs_FS) (Q : S_simfs_FS → Prop) : Prop :=
  ((f_.pending.length ≤ 9223372036854775807) → ((inR .i64 f_.quota) → ((inR .i64 f_.now) → ((inR .i64 f_.inodes) → ((inR .i64 f_.ops_) → ((inR .i64 f_.left) → ((f_.keep.length ≤ 9223372036854775807) → ((inR .i64 (f_.now + (1 : Int))) ∧ Q (S_simfs_FS.mk f_.kept f_.files f_.pending f_.quota (f_.now + (1 : Int)) f_.inodes f_.ops_ f_.off f_.armed f_.left f_.keep)))))))))
set_option maxRecDepth 20000 in
set_option maxHeartbeats 4000000 in
theorem simfs_FS_Tick_w {X : List Nat} {w : World} {f_ : S_simfs_FS} {bf_1 : Nat} {Ff_2 : List Nat} {Q : S_simfs_FS → Prop} (hX0 : Old X w) (mf_3 : MO o_simfs_FS 50 Ff_2 w.heap.size X w Ff_2 bf_1 f_) (hp : simfs_FS_Tick_p f_ Q) :
    Calls Tryd.prog 18 #[(.pointer (some ⟨bf_1, 0, none⟩))] w (Ret fun v w' => ∃ (m0 : S_simfs_FS), Q m0 ∧ ∃ (X' : List Nat) (Fm0 : List Nat), Step X w Ff_2 X' w' ∧ v = .tuple #[] ∧ MO o_simfs_FS 50 Ff_2 w.heap.size X' w' Fm0 bf_1 m0) := by
  have hXo := hX0
  have E0 : Evo Ff_2 w w := RB.refl _ _ _
  have hS : Sub X X := Sub.refl _
  have hN : News X w X w := News.refl _ _
  have hF0 : Sub Ff_2 X := MO.mem mf_3
  unfold simfs_FS_Tick_p at hp
  refine enter_ Tryd.func18 rfl 9 [(0, (.pointer (some ⟨bf_1, 0, none⟩)))] (by kernel_rfl) (fun Qe hQ => ?_)
  refine reg_ ?_
  refine sq (o_pv (.pointer (some ⟨bf_1, 0, none⟩)) rfl (by kernel_rfl) ?_)
  refine sq (o_pv (.pointer (some ⟨bf_1, 0, none⟩)) rfl (by kernel_rfl) ?_)
  obtain ⟨rokept4, rofiles6, ao8, no9, co10, aokeep17, cokeep18, k20, mokept5, mofiles7, Oo11, roquota12, ronow13, roinodes14, roops_15, roleft16, hokeep19, sb21, sb22, sb23, sb24, p25, p26, p27, p28, p29, p30⟩ := o_simfs_FS_open mf_3
  replace hp := hp (OS.len Oo11)
  replace hp := hp roquota12
  replace hp := hp ronow13
  replace hp := hp roinodes14
  replace hp := hp roops_15
  replace hp := hp roleft16
  replace hp := hp (Sl.len hokeep19)
  refine sq (o_pv (.pointer (some ⟨bf_1, 4, none⟩)) rfl (by kernel_rfl) ?_)
  refine sq (o_pv (.int .i64 f_.now) rfl (x_load1 (by kernel_rfl) Tryd.isAgg3 (k20.2.1.cell' 4 rfl)) ?_)
  obtain ⟨h31, hp⟩ := hp
  refine sq (o_pv (.int .i64 (f_.now + (1 : Int))) rfl (x_add2 (k := .i64) (a := f_.now) (b := (1 : Int)) (f_.now + (1 : Int)) (by kernel_rfl) (by kernel_rfl) (wrap_inR h31)) ?_)
  refine sq (o_pv (.pointer (some ⟨bf_1, 0, none⟩)) rfl (by kernel_rfl) ?_)
  refine sq (o_pv (.pointer (some ⟨bf_1, 4, none⟩)) rfl (by kernel_rfl) ?_)
  refine sq (o_stB (o := 4) (v := (.int .i64 (f_.now + (1 : Int)))) [(.map (some rokept4)), (.map (some rofiles6)), (.slice ao8 no9 co10), (.int .i64 f_.quota), (.int .i64 (f_.now + (1 : Int))), (.int .i64 f_.inodes), (.int .i64 f_.ops_), (.bool f_.off), (.bool f_.armed), (.int .i64 f_.left), (.slice aokeep17 f_.keep.length cokeep18)] rfl k20 (by kernel_rfl) (by kernel_rfl) Tryd.sizeOf3 rfl rfl rfl ?_)
  intro w32 s33 k34
  refine nil_ ?_
  have hXo35 := (Old.step hXo s33)
  have E36 := (Evo.thenW E0 (Step.evo s33) k20.2.2)
  have hS37 := (Sub.trans hS (Step.up s33))
  have hN38 := (News.step hN s33)
  have mokept39 := (OM.step mokept5 s33 (Ap.symm p25))
  have mofiles40 := (OM.step mofiles7 s33 (Ap.symm p26))
  have Oo41 := (OS.step Oo11 s33 (Ap.symm p27))
  have hokeep42 := (Sl.step hokeep19 s33)
  obtain ⟨F43, m44, hs45⟩ := MO.pack (o_simfs_FS_mk k34 mokept39 mofiles40 Oo41 roquota12 h31 roinodes14 roops_15 roleft16 hokeep42 rfl p25 p26 p27 p28 p29 p30)
  refine end_normal hQ (.tuple #[]) (by kernel_rfl) ?_
  exact ⟨(S_simfs_FS.mk f_.kept f_.files f_.pending f_.quota (f_.now + (1 : Int)) f_.inodes f_.ops_ f_.off f_.armed f_.left f_.keep), hp, X, F43, step_of E36 hF0 hS37 hN38, rfl, m44⟩

def simfs_FS_Pending_p (f_ : S_simfs_FS) (Q : S_simfs_FS → Int → Prop) : Prop :=
  ((f_.pending.length ≤ 9223372036854775807) → ((inR .i64 f_.quota) → ((inR .i64 f_.now) → ((inR .i64 f_.inodes) → ((inR .i64 f_.ops_) → ((inR .i64 f_.left) → ((f_.keep.length ≤ 9223372036854775807) → Q f_ (f_.pending.length : Int))))))))
set_option maxRecDepth 20000 in
set_option maxHeartbeats 4000000 in
theorem simfs_FS_Pending_w {X : List Nat} {w : World} {f_ : S_simfs_FS} {bf_1 : Nat} {Ff_2 : List Nat} {Q : S_simfs_FS → Int → Prop} (hX0 : Old X w) (mf_3 : MO o_simfs_FS 50 Ff_2 w.heap.size X w Ff_2 bf_1 f_) (hp : simfs_FS_Pending_p f_ Q) :
    Calls Tryd.prog 14 #[(.pointer (some ⟨bf_1, 0, none⟩))] w (Ret fun v w' => ∃ (m0 : S_simfs_FS) (r0 : Int), Q m0 r0 ∧ ∃ (X' : List Nat) (Fm0 : List Nat), Step X w Ff_2 X' w' ∧ v = (.int .i64 r0) ∧ MO o_simfs_FS 50 Ff_2 w.heap.size X' w' Fm0 bf_1 m0 ∧ inR .i64 r0) := by
  have hXo := hX0
  have E0 : Evo Ff_2 w w := RB.refl _ _ _
  have hS : Sub X X := Sub.refl _
  have hN : News X w X w := News.refl _ _
  have hF0 : Sub Ff_2 X := MO.mem mf_3
  unfold simfs_FS_Pending_p at hp
  refine enter_ Tryd.func14 rfl 8 [(0, (.pointer (some ⟨bf_1, 0, none⟩)))] (by kernel_rfl) (fun Qe hQ => ?_)
  refine seq_ (fun _ K4 => ?_)
  refine reg_ ?_
  refine sq (o_pv (.int .i64 (0 : Int)) rfl (by kernel_rfl) ?_)
  refine nil_ ?_
  refine then_normal (K4 _ _ _ _ ?_)
  refine seq_ (fun _ K5 => ?_)
  refine reg_ ?_
  refine sq (o_pv (.pointer (some ⟨bf_1, 0, none⟩)) rfl (by kernel_rfl) ?_)
  refine sq (o_pv (.pointer (some ⟨bf_1, 0, none⟩)) rfl (by kernel_rfl) ?_)
  obtain ⟨rokept6, rofiles8, ao10, no11, co12, aokeep19, cokeep20, k22, mokept7, mofiles9, Oo13, roquota14, ronow15, roinodes16, roops_17, roleft18, hokeep21, sb23, sb24, sb25, sb26, p27, p28, p29, p30, p31, p32⟩ := o_simfs_FS_open mf_3
  replace hp := hp (OS.len Oo13)
  replace hp := hp roquota14
  replace hp := hp ronow15
  replace hp := hp roinodes16
  replace hp := hp roops_17
  replace hp := hp roleft18
  replace hp := hp (Sl.len hokeep21)
  refine sq (o_pv (.pointer (some ⟨bf_1, 2, none⟩)) rfl (by kernel_rfl) ?_)
  refine sq (o_pv (.slice ao10 no11 co12) rfl (x_load1 (by kernel_rfl) Tryd.isAgg48 (k22.2.1.cell' 2 rfl)) ?_)
  refine sq (o_pv (.int .i64 (f_.pending.length : Int)) rfl (by rw [← show no11 = f_.pending.length from Oo13.1]; kernel_rfl) ?_)
  refine sq (o_pv (.int .i64 (f_.pending.length : Int)) rfl (by kernel_rfl) ?_)
  refine nil_ ?_
  refine then_normal (K5 _ _ _ _ ?_)
  refine wp_ret ?_
  obtain ⟨F33, m34, hs35⟩ := MO.pack (o_simfs_FS_mk k22 mokept7 mofiles9 Oo13 roquota14 ronow15 roinodes16 roops_17 roleft18 hokeep21 rfl p27 p28 p29 p30 p31 p32)
  refine end_ret hQ (.int .i64 (f_.pending.length : Int)) (by kernel_rfl) ?_
  exact ⟨f_, (f_.pending.length : Int), hp, X, F33, step_of E0 hF0 hS hN, rfl, m34, (inR_len (OS.len Oo13))⟩

def simfs_FS_find_p (f_ : S_simfs_FS) (p : ByteArray) (Q : S_simfs_FS → S_simfs_file → Int → Prop) : Prop :=
  ((p.size ≤ maxLen) → ((f_.pending.length ≤ 9223372036854775807) → ((inR .i64 f_.quota) → ((inR .i64 f_.now) → ((inR .i64 f_.inodes) → ((inR .i64 f_.ops_) → ((inR .i64 f_.left) → ((f_.keep.length ≤ 9223372036854775807) → ((inR .i64 ((mgetD f_.files p).mode)) → ((inR .i64 ((mgetD f_.files p).time)) → ((inR .i64 ((mgetD f_.files p).inode)) → ((((mgetD f_.files p).b).length ≤ 9223372036854775807) → (((f_.off = true) → Q f_ (S_simfs_file.mk (0 : Int) (0 : Int) (0 : Int) ([] : List Int)) (13 : Int)) ∧ ((f_.off = false) → ((((!(mhas f_.files p)) = true) → Q f_ (S_simfs_file.mk (0 : Int) (0 : Int) (0 : Int) ([] : List Int)) (5 : Int)) ∧ (((!(mhas f_.files p)) = false) → Q f_ (mgetD f_.files p) (0 : Int)))))))))))))))))
set_option maxRecDepth 20000 in
set_option maxHeartbeats 4000000 in
theorem simfs_FS_find_w {X : List Nat} {w : World} {f_ : S_simfs_FS} {p : ByteArray} {bf_1 : Nat} {Ff_2 : List Nat} {Q : S_simfs_FS → S_simfs_file → Int → Prop} (hX0 : Old X w) (mf_3 : MO o_simfs_FS 50 Ff_2 w.heap.size X w Ff_2 bf_1 f_) (zp4 : p.size ≤ maxLen) (hp : simfs_FS_find_p f_ p Q) :
    Calls Tryd.prog 34 #[(.pointer (some ⟨bf_1, 0, none⟩)), (.string p)] w (Ret fun v w' => ∃ (m0 : S_simfs_FS) (r0 : S_simfs_file) (r1 : Int), Q m0 r0 r1 ∧ ∃ (X' : List Nat) (Fm0 : List Nat) (aq0b4 : Option Addr) (cq0b5 : Nat), Step X w Ff_2 X' w' ∧ v = .tuple #[(.agg #[(.int .i64 r0.mode), (.int .i64 r0.time), (.int .i64 r0.inode), (.slice aq0b4 r0.b.length cq0b5)]), (.int .i64 r1)] ∧ MO o_simfs_FS 50 Ff_2 w.heap.size X' w' Fm0 bf_1 m0 ∧ inR .i64 r0.mode ∧ inR .i64 r0.time ∧ inR .i64 r0.inode ∧ Sl (rInt .u8) X' w' aq0b4 cq0b5 r0.b ∧ inR .i64 r1) := by
  have hXo := hX0
  have E0 : Evo Ff_2 w w := RB.refl _ _ _
  have hS : Sub X X := Sub.refl _
  have hN : News X w X w := News.refl _ _
  have hF0 : Sub Ff_2 X := MO.mem mf_3
  unfold simfs_FS_find_p at hp
  refine enter_ Tryd.func34 rfl 28 [(0, (.pointer (some ⟨bf_1, 0, none⟩))), (1, (.string p))] (by kernel_rfl) (fun Qe hQ => ?_)
  replace hp := hp zp4
  refine seq_ (fun _ K5 => ?_)
  refine reg_ ?_
  refine sq (o_newX [(.int .i64 (0 : Int)), (.int .i64 (0 : Int)), (.int .i64 (0 : Int)), (.slice none 0 0)] 54 (X := X) (B := w.heap.size) E0.size rfl (by kernel_rfl) ?_)
  intro b6 w7 X8 s9 k10 n11
  have p12 := n11 _ (MO.old mf_3)
  refine sq (o_pv (.int .i64 (0 : Int)) rfl (by kernel_rfl) ?_)
  refine nil_ ?_
  refine then_normal (K5 _ _ _ _ ?_)
  refine seq_ (fun _ K13 => ?_)
  refine reg_ ?_
  refine sq (o_pv (.pointer (some ⟨bf_1, 0, none⟩)) rfl (by kernel_rfl) ?_)
  refine sq (o_pv (.pointer (some ⟨bf_1, 0, none⟩)) rfl (by kernel_rfl) ?_)
  have mf_14 := (MO.step0 mf_3 s9)
  obtain ⟨rokept15, rofiles17, ao19, no20, co21, aokeep28, cokeep29, k31, mokept16, mofiles18, Oo22, roquota23, ronow24, roinodes25, roops_26, roleft27, hokeep30, sb32, sb33, sb34, sb35, p36, p37, p38, p39, p40, p41⟩ := o_simfs_FS_open mf_14
  have p42 := Ap.subr (Ap.symm p12) sb32
  have p43 := Ap.subr (Ap.symm p12) sb33
  have p44 := Ap.subr (Ap.symm p12) sb34
  have p45 := Ap.subr (Ap.symm p12) sb35
  replace hp := hp (OS.len Oo22)
  replace hp := hp roquota23
  replace hp := hp ronow24
  replace hp := hp roinodes25
  replace hp := hp roops_26
  replace hp := hp roleft27
  replace hp := hp (Sl.len hokeep30)
  refine sq (o_pv (.pointer (some ⟨bf_1, 1, none⟩)) rfl (by kernel_rfl) ?_)
  refine sq (o_pv (.map (some rofiles17)) rfl (x_load1 (by kernel_rfl) Tryd.isAgg47 (k31.2.1.cell' 1 rfl)) ?_)
  refine sq (o_pv (.string p) rfl (by kernel_rfl) ?_)
  obtain ⟨cs46, ok47, lk48⟩ := MapAt.look mofiles18.2.1 p [(.int .i64 (0 : Int)), (.int .i64 (0 : Int)), (.int .i64 (0 : Int)), (.slice none 0 0)] (fun _ _ => (r_simfs_file_mk (by decide : inR .i64 (0 : Int)) (by decide : inR .i64 (0 : Int)) (by decide : inR .i64 (0 : Int)) (Sl.nil) rfl))
  obtain ⟨alb52, clb53, rfl, rlmode49, rltime50, rlinode51, hlb54⟩ := r_simfs_file_open ok47
  replace hp := hp rlmode49
  replace hp := hp rltime50
  replace hp := hp rlinode51
  replace hp := hp (Sl.len hlb54)
  refine sq (o_pv (.tuple #[(.agg #[(.int .i64 ((mgetD f_.files p).mode)), (.int .i64 ((mgetD f_.files p).time)), (.int .i64 ((mgetD f_.files p).inode)), (.slice alb52 (((mgetD f_.files p).b).length) clb53)]), (.bool (mhas f_.files p))]) rfl (x_lookup2 (w0 := w7) (k := p) (v := (.agg #[(.int .i64 ((mgetD f_.files p).mode)), (.int .i64 ((mgetD f_.files p).time)), (.int .i64 ((mgetD f_.files p).inode)), (.slice alb52 (((mgetD f_.files p).b).length) clb53)])) (z := (.agg #[(.int .i64 (0 : Int)), (.int .i64 (0 : Int)), (.int .i64 (0 : Int)), (.slice none 0 0)])) (b := mhas f_.files p) (s := 4) (bts := 48) (by kernel_rfl) (by kernel_rfl) lk48 rfl Tryd.underlying47 Tryd.underlying9 (by kernel_rfl)) ?_)
  refine sq (o_pv (.tuple #[(.agg #[(.int .i64 ((mgetD f_.files p).mode)), (.int .i64 ((mgetD f_.files p).time)), (.int .i64 ((mgetD f_.files p).inode)), (.slice alb52 (((mgetD f_.files p).b).length) clb53)]), (.bool (mhas f_.files p))]) rfl (by kernel_rfl) ?_)
  refine sq (o_pv (.agg #[(.int .i64 ((mgetD f_.files p).mode)), (.int .i64 ((mgetD f_.files p).time)), (.int .i64 ((mgetD f_.files p).inode)), (.slice alb52 (((mgetD f_.files p).b).length) clb53)]) rfl (by kernel_rfl) ?_)
  refine sq (o_pv (.bool (mhas f_.files p)) rfl (by kernel_rfl) ?_)
  have E61 := (Evo.then0 E0 (Step.evo s9))
  refine sq (o_newX [(.int .i64 (0 : Int)), (.int .i64 (0 : Int)), (.int .i64 (0 : Int)), (.slice none 0 0)] 54 (X := X8) (B := w.heap.size) E61.size rfl (by kernel_rfl) ?_)
  intro b55 w56 X57 s58 k59 n60
  have p62 := n60 _ (OB.old k10)
  have p63 := n60 _ (OB.old k31)
  have p64 := n60 _ (OM.old mokept16)
  have p65 := n60 _ (OM.old mofiles18)
  have p66 := n60 _ (OS.old Oo22)
  have k67 := (OB.step0 k10 s58)
  have k68 := (OB.step0 k31 s58)
  have mokept69 := (OM.step0 mokept16 s58)
  have mofiles70 := (OM.step0 mofiles18 s58)
  have Oo71 := (OS.step0 Oo22 s58)
  have E72 := (Evo.then0 E61 (Step.evo s58))
  refine sq (o_stB (o := 0) (v := (.agg #[(.int .i64 ((mgetD f_.files p).mode)), (.int .i64 ((mgetD f_.files p).time)), (.int .i64 ((mgetD f_.files p).inode)), (.slice alb52 (((mgetD f_.files p).b).length) clb53)])) [(.int .i64 ((mgetD f_.files p).mode)), (.int .i64 ((mgetD f_.files p).time)), (.int .i64 ((mgetD f_.files p).inode)), (.slice alb52 (((mgetD f_.files p).b).length) clb53)] rfl k59 (by kernel_rfl) (by kernel_rfl) Tryd.sizeOf54 rfl rfl rfl ?_)
  intro w73 s74 k75
  refine sq (o_pv (.bool (mhas f_.files p)) rfl (by kernel_rfl) ?_)
  refine nil_ ?_
  refine then_normal (K13 _ _ _ _ ?_)
  refine seq_ (fun _ K76 => ?_)
  refine wp_block ?_
  refine seq_ (fun _ K77 => ?_)
  refine reg_ ?_
  refine sq (o_pv (.pointer (some ⟨bf_1, 0, none⟩)) rfl (by kernel_rfl) ?_)
  refine sq (o_pv (.pointer (some ⟨bf_1, 0, none⟩)) rfl (by kernel_rfl) ?_)
  refine sq (o_pv (.pointer (some ⟨bf_1, 7, none⟩)) rfl (by kernel_rfl) ?_)
  have k78 := (OB.step k68 s74 p63)
  refine sq (o_pv (.bool f_.off) rfl (x_load1 (by kernel_rfl) Tryd.isAgg4 (k78.2.1.cell' 7 rfl)) ?_)
  refine sq (o_pv (.bool f_.off) rfl (by kernel_rfl) ?_)
  refine nil_ ?_
  refine then_normal (K77 _ _ _ _ ?_)
  refine cond_b f_.off (by kernel_rfl) (fun h79 => ?_) (fun h79 => ?_)
  ·
    replace hp := hp.1 h79
    refine seq_ (fun _ K80 => ?_)
    refine reg_ ?_
    refine sq (o_pv (.agg #[(.int .i64 (0 : Int)), (.int .i64 (0 : Int)), (.int .i64 (0 : Int)), (.slice none 0 0)]) rfl (by kernel_rfl) ?_)
    have k81 := (OB.step k67 s74 p62)
    have mokept82 := (OM.step mokept69 s74 p64)
    have mofiles83 := (OM.step mofiles70 s74 p65)
    have Oo84 := (OS.step Oo71 s74 p66)
    have E85 := (Evo.thenW E72 (Step.evo s74) (Wr.of k59.2.2))
    refine sq (o_stB (o := 0) (v := (.agg #[(.int .i64 (0 : Int)), (.int .i64 (0 : Int)), (.int .i64 (0 : Int)), (.slice none 0 0)])) [(.int .i64 (0 : Int)), (.int .i64 (0 : Int)), (.int .i64 (0 : Int)), (.slice none 0 0)] rfl k81 (by kernel_rfl) (by kernel_rfl) Tryd.sizeOf54 rfl rfl rfl ?_)
    intro w86 s87 k88
    refine sq (o_pv (.int .i64 (13 : Int)) rfl (by kernel_rfl) ?_)
    refine nil_ ?_
    refine then_normal (K80 _ _ _ _ ?_)
    refine wp_ret ?_
    refine blk_ret ?_
    refine then_ret ?_
    have hXo89 := (Old.step (Old.step (Old.step (Old.step hXo s9) s58) s74) s87)
    have E90 := (Evo.thenW E85 (Step.evo s87) (Wr.of k81.2.2))
    have hS91 := (Sub.trans (Sub.trans (Sub.trans (Sub.trans hS (Step.up s9)) (Step.up s58)) (Step.up s74)) (Step.up s87))
    have hN92 := (News.step (News.step (News.step (News.step hN s9) s58) s74) s87)
    have k93 := (OB.step k78 s87 (Ap.symm p42))
    have mokept94 := (OM.step mokept82 s87 (Ap.symm p43))
    have mofiles95 := (OM.step mofiles83 s87 (Ap.symm p44))
    have Oo96 := (OS.step Oo84 s87 (Ap.symm p45))
    have hokeep97 := (Sl.step (Sl.step (Sl.step hokeep30 s58) s74) s87)
    have hlb98 := (Sl.step (Sl.step (Sl.step hlb54 s58) s74) s87)
    have k99 := (OB.step k75 s87 (Ap.symm p62))
    obtain ⟨F100, m101, hs102⟩ := MO.pack (o_simfs_FS_mk k93 mokept94 mofiles95 Oo96 roquota23 ronow24 roinodes25 roops_26 roleft27 hokeep97 rfl p36 p37 p38 p39 p40 p41)
    have p103 := hs102 _ (Ap.cons p42 (Ap.app p43 (Ap.app p44 (Ap.app p45 (Ap.app (Ap.nil_r _) (Ap.app (Ap.nil_r _) (Ap.app (Ap.nil_r _) (Ap.app (Ap.nil_r _) (Ap.app (Ap.nil_r _) (Ap.app (Ap.nil_r _) (Ap.app (Ap.nil_r _) (Ap.nil_r _))))))))))))
    have p104 := hs102 _ (Ap.cons (Ap.symm p63) (Ap.app (Ap.symm p64) (Ap.app (Ap.symm p65) (Ap.app (Ap.symm p66) (Ap.app (Ap.nil_r _) (Ap.app (Ap.nil_r _) (Ap.app (Ap.nil_r _) (Ap.app (Ap.nil_r _) (Ap.app (Ap.nil_r _) (Ap.app (Ap.nil_r _) (Ap.app (Ap.nil_r _) (Ap.nil_r _))))))))))))
    refine end_ret hQ (.tuple #[(.agg #[(.int .i64 (0 : Int)), (.int .i64 (0 : Int)), (.int .i64 (0 : Int)), (.slice none 0 0)]), (.int .i64 (13 : Int))]) (rs2 Tryd.results34 (rs_agg [(.int .i64 (0 : Int)), (.int .i64 (0 : Int)), (.int .i64 (0 : Int)), (.slice none 0 0)] (by kernel_rfl) Tryd.isAgg54 Tryd.sizeOf54 (k88.2.1.cells' 0 rfl)) (rs_tmp (by kernel_rfl))) ?_
    exact ⟨f_, (S_simfs_file.mk (0 : Int) (0 : Int) (0 : Int) ([] : List Int)), (13 : Int), hp, X57, F100, none, 0, step_of E90 hF0 hS91 hN92, rfl, m101, (by decide : inR .i64 (0 : Int)), (by decide : inR .i64 (0 : Int)), (by decide : inR .i64 (0 : Int)), Sl.nil, (by decide : inR .i64 (13 : Int))⟩
  ·
    replace hp := hp.2 h79
    refine seq_ (fun _ K105 => ?_)
    refine reg_ ?_
    refine sq (o_pv (.bool (mhas f_.files p)) rfl (by kernel_rfl) ?_)
    refine sq (o_pv (.bool (!(mhas f_.files p))) rfl (by kernel_rfl) ?_)
    refine sq (o_pv (.bool (!(mhas f_.files p))) rfl (by kernel_rfl) ?_)
    refine nil_ ?_
    refine then_normal (K105 _ _ _ _ ?_)
    refine cond_b (!(mhas f_.files p)) (by kernel_rfl) (fun h106 => ?_) (fun h106 => ?_)
    ·
      replace hp := hp.1 h106
      refine seq_ (fun _ K107 => ?_)
      refine reg_ ?_
      refine sq (o_pv (.agg #[(.int .i64 (0 : Int)), (.int .i64 (0 : Int)), (.int .i64 (0 : Int)), (.slice none 0 0)]) rfl (by kernel_rfl) ?_)
      have k108 := (OB.step k67 s74 p62)
      have mokept109 := (OM.step mokept69 s74 p64)
      have mofiles110 := (OM.step mofiles70 s74 p65)
      have Oo111 := (OS.step Oo71 s74 p66)
      have E112 := (Evo.thenW E72 (Step.evo s74) (Wr.of k59.2.2))
      refine sq (o_stB (o := 0) (v := (.agg #[(.int .i64 (0 : Int)), (.int .i64 (0 : Int)), (.int .i64 (0 : Int)), (.slice none 0 0)])) [(.int .i64 (0 : Int)), (.int .i64 (0 : Int)), (.int .i64 (0 : Int)), (.slice none 0 0)] rfl k108 (by kernel_rfl) (by kernel_rfl) Tryd.sizeOf54 rfl rfl rfl ?_)
      intro w113 s114 k115
      refine sq (o_pv (.int .i64 (5 : Int)) rfl (by kernel_rfl) ?_)
      refine nil_ ?_
      refine then_normal (K107 _ _ _ _ ?_)
      refine wp_ret ?_
      refine blk_ret ?_
      refine then_ret ?_
      have hXo116 := (Old.step (Old.step (Old.step (Old.step hXo s9) s58) s74) s114)
      have E117 := (Evo.thenW E112 (Step.evo s114) (Wr.of k108.2.2))
      have hS118 := (Sub.trans (Sub.trans (Sub.trans (Sub.trans hS (Step.up s9)) (Step.up s58)) (Step.up s74)) (Step.up s114))
      have hN119 := (News.step (News.step (News.step (News.step hN s9) s58) s74) s114)
      have k120 := (OB.step k78 s114 (Ap.symm p42))
      have mokept121 := (OM.step mokept109 s114 (Ap.symm p43))
      have mofiles122 := (OM.step mofiles110 s114 (Ap.symm p44))
      have Oo123 := (OS.step Oo111 s114 (Ap.symm p45))
      have hokeep124 := (Sl.step (Sl.step (Sl.step hokeep30 s58) s74) s114)
      have hlb125 := (Sl.step (Sl.step (Sl.step hlb54 s58) s74) s114)
      have k126 := (OB.step k75 s114 (Ap.symm p62))
      obtain ⟨F127, m128, hs129⟩ := MO.pack (o_simfs_FS_mk k120 mokept121 mofiles122 Oo123 roquota23 ronow24 roinodes25 roops_26 roleft27 hokeep124 rfl p36 p37 p38 p39 p40 p41)
      have p130 := hs129 _ (Ap.cons p42 (Ap.app p43 (Ap.app p44 (Ap.app p45 (Ap.app (Ap.nil_r _) (Ap.app (Ap.nil_r _) (Ap.app (Ap.nil_r _) (Ap.app (Ap.nil_r _) (Ap.app (Ap.nil_r _) (Ap.app (Ap.nil_r _) (Ap.app (Ap.nil_r _) (Ap.nil_r _))))))))))))
      have p131 := hs129 _ (Ap.cons (Ap.symm p63) (Ap.app (Ap.symm p64) (Ap.app (Ap.symm p65) (Ap.app (Ap.symm p66) (Ap.app (Ap.nil_r _) (Ap.app (Ap.nil_r _) (Ap.app (Ap.nil_r _) (Ap.app (Ap.nil_r _) (Ap.app (Ap.nil_r _) (Ap.app (Ap.nil_r _) (Ap.app (Ap.nil_r _) (Ap.nil_r _))))))))))))
      refine end_ret hQ (.tuple #[(.agg #[(.int .i64 (0 : Int)), (.int .i64 (0 : Int)), (.int .i64 (0 : Int)), (.slice none 0 0)]), (.int .i64 (5 : Int))]) (rs2 Tryd.results34 (rs_agg [(.int .i64 (0 : Int)), (.int .i64 (0 : Int)), (.int .i64 (0 : Int)), (.slice none 0 0)] (by kernel_rfl) Tryd.isAgg54 Tryd.sizeOf54 (k115.2.1.cells' 0 rfl)) (rs_tmp (by kernel_rfl))) ?_
      exact ⟨f_, (S_simfs_file.mk (0 : Int) (0 : Int) (0 : Int) ([] : List Int)), (5 : Int), hp, X57, F127, none, 0, step_of E117 hF0 hS118 hN119, rfl, m128, (by decide : inR .i64 (0 : Int)), (by decide : inR .i64 (0 : Int)), (by decide : inR .i64 (0 : Int)), Sl.nil, (by decide : inR .i64 (5 : Int))⟩
    ·
      replace hp := hp.2 h106
      refine wp_skip ?_
      refine blk_normal ?_
      refine then_normal (K76 _ _ _ _ ?_)
      refine seq_ (fun _ K132 => ?_)
      refine reg_ ?_
      refine sq (o_pv (.agg #[(.int .i64 ((mgetD f_.files p).mode)), (.int .i64 ((mgetD f_.files p).time)), (.int .i64 ((mgetD f_.files p).inode)), (.slice alb52 (((mgetD f_.files p).b).length) clb53)]) rfl (x_loadN [(.int .i64 ((mgetD f_.files p).mode)), (.int .i64 ((mgetD f_.files p).time)), (.int .i64 ((mgetD f_.files p).inode)), (.slice alb52 (((mgetD f_.files p).b).length) clb53)] (by kernel_rfl) Tryd.isAgg54 Tryd.sizeOf54 (k75.2.1.cells' 0 rfl)) ?_)
      have k133 := (OB.step k67 s74 p62)
      have mokept134 := (OM.step mokept69 s74 p64)
      have mofiles135 := (OM.step mofiles70 s74 p65)
      have Oo136 := (OS.step Oo71 s74 p66)
      have E137 := (Evo.thenW E72 (Step.evo s74) (Wr.of k59.2.2))
      refine sq (o_stB (o := 0) (v := (.agg #[(.int .i64 ((mgetD f_.files p).mode)), (.int .i64 ((mgetD f_.files p).time)), (.int .i64 ((mgetD f_.files p).inode)), (.slice alb52 (((mgetD f_.files p).b).length) clb53)])) [(.int .i64 ((mgetD f_.files p).mode)), (.int .i64 ((mgetD f_.files p).time)), (.int .i64 ((mgetD f_.files p).inode)), (.slice alb52 (((mgetD f_.files p).b).length) clb53)] rfl k133 (by kernel_rfl) (by kernel_rfl) Tryd.sizeOf54 rfl rfl rfl ?_)
      intro w138 s139 k140
      refine sq (o_pv (.int .i64 (0 : Int)) rfl (by kernel_rfl) ?_)
      refine nil_ ?_
      refine then_normal (K132 _ _ _ _ ?_)
      refine wp_ret ?_
      have hXo141 := (Old.step (Old.step (Old.step (Old.step hXo s9) s58) s74) s139)
      have E142 := (Evo.thenW E137 (Step.evo s139) (Wr.of k133.2.2))
      have hS143 := (Sub.trans (Sub.trans (Sub.trans (Sub.trans hS (Step.up s9)) (Step.up s58)) (Step.up s74)) (Step.up s139))
      have hN144 := (News.step (News.step (News.step (News.step hN s9) s58) s74) s139)
      have k145 := (OB.step k78 s139 (Ap.symm p42))
      have mokept146 := (OM.step mokept134 s139 (Ap.symm p43))
      have mofiles147 := (OM.step mofiles135 s139 (Ap.symm p44))
      have Oo148 := (OS.step Oo136 s139 (Ap.symm p45))
      have hokeep149 := (Sl.step (Sl.step (Sl.step hokeep30 s58) s74) s139)
      have hlb150 := (Sl.step (Sl.step (Sl.step hlb54 s58) s74) s139)
      have k151 := (OB.step k75 s139 (Ap.symm p62))
      obtain ⟨F152, m153, hs154⟩ := MO.pack (o_simfs_FS_mk k145 mokept146 mofiles147 Oo148 roquota23 ronow24 roinodes25 roops_26 roleft27 hokeep149 rfl p36 p37 p38 p39 p40 p41)
      have p155 := hs154 _ (Ap.cons p42 (Ap.app p43 (Ap.app p44 (Ap.app p45 (Ap.app (Ap.nil_r _) (Ap.app (Ap.nil_r _) (Ap.app (Ap.nil_r _) (Ap.app (Ap.nil_r _) (Ap.app (Ap.nil_r _) (Ap.app (Ap.nil_r _) (Ap.app (Ap.nil_r _) (Ap.nil_r _))))))))))))
      have p156 := hs154 _ (Ap.cons (Ap.symm p63) (Ap.app (Ap.symm p64) (Ap.app (Ap.symm p65) (Ap.app (Ap.symm p66) (Ap.app (Ap.nil_r _) (Ap.app (Ap.nil_r _) (Ap.app (Ap.nil_r _) (Ap.app (Ap.nil_r _) (Ap.app (Ap.nil_r _) (Ap.app (Ap.nil_r _) (Ap.app (Ap.nil_r _) (Ap.nil_r _))))))))))))
      refine end_ret hQ (.tuple #[(.agg #[(.int .i64 ((mgetD f_.files p).mode)), (.int .i64 ((mgetD f_.files p).time)), (.int .i64 ((mgetD f_.files p).inode)), (.slice alb52 (((mgetD f_.files p).b).length) clb53)]), (.int .i64 (0 : Int))]) (rs2 Tryd.results34 (rs_agg [(.int .i64 ((mgetD f_.files p).mode)), (.int .i64 ((mgetD f_.files p).time)), (.int .i64 ((mgetD f_.files p).inode)), (.slice alb52 (((mgetD f_.files p).b).length) clb53)] (by kernel_rfl) Tryd.isAgg54 Tryd.sizeOf54 (k140.2.1.cells' 0 rfl)) (rs_tmp (by kernel_rfl))) ?_
      exact ⟨f_, (mgetD f_.files p), (0 : Int), hp, X57, F152, alb52, clb53, step_of E142 hF0 hS143 hN144, rfl, m153, rlmode49, rltime50, rlinode51, hlb150, (by decide : inR .i64 (0 : Int))⟩

def slices_Clip_byte_byte_p (s : (List Int)) (Q : (List Int) → Prop) : Prop :=
  ((s.length ≤ 9223372036854775807) → ((0 ≤ (s.length : Int) ∧ (s.length : Int) ≤ (s.length : Int)) ∧ Q s))
set_option maxRecDepth 20000 in
set_option maxHeartbeats 4000000 in
theorem slices_Clip_byte_byte_w {X : List Nat} {w : World} {s : (List Int)} {as1 : Option Addr} {cs2 : Nat} {Q : (List Int) → Prop} (hX0 : Old X w) (hs3 : Sl (rInt .u8) X w as1 cs2 s) (hp : slices_Clip_byte_byte_p s Q) :
    Calls Tryd.prog 35 #[(.slice as1 s.length cs2)] w (Ret fun v w' => ∃ (r0 : (List Int)), Q r0 ∧ Evo [] w w' ∧ ∃ (aq01 : Option Addr), v = (.slice aq01 r0.length r0.length) ∧ Sl (rInt .u8) X w' aq01 r0.length r0) := by
  have hXo := hX0
  have E0 : Evo [] w w := RB.refl _ _ _
  have hS : Sub X X := Sub.refl _
  unfold slices_Clip_byte_byte_p at hp
  refine enter_ Tryd.func35 rfl 9 [(0, (.slice as1 s.length cs2))] (by kernel_rfl) (fun Qe hQ => ?_)
  replace hp := hp (Sl.len hs3)
  refine seq_ (fun _ K4 => ?_)
  refine reg_ ?_
  refine sq (o_pv (.slice none 0 0) rfl (by kernel_rfl) ?_)
  refine nil_ ?_
  refine then_normal (K4 _ _ _ _ ?_)
  refine seq_ (fun _ K5 => ?_)
  refine reg_ ?_
  refine sq (o_pv (.slice as1 s.length cs2) rfl (by kernel_rfl) ?_)
  refine sq (o_pv (.slice as1 s.length cs2) rfl (by kernel_rfl) ?_)
  refine sq (o_pv (.int .i64 (s.length : Int)) rfl (by kernel_rfl) ?_)
  refine sq (o_pv (.slice as1 s.length cs2) rfl (by kernel_rfl) ?_)
  refine sq (o_pv (.int .i64 (s.length : Int)) rfl (by kernel_rfl) ?_)
  obtain ⟨h9, hp⟩ := hp
  refine sq (o_slice3F (R := (rInt .u8)) (k := .i64) (k' := .i64) (X := X) (L := s) (s.length : Int) Tryd.underlying28 Tryd.sizeOf5 hs3 (by kernel_rfl) rfl rfl (by kernel_rfl) (by kernel_rfl) h9 ?_)
  intro a6 h8
  rw [take_len] at h8
  rw [take_len]
  refine sq (o_pv (.slice a6 s.length s.length) rfl (by kernel_rfl) ?_)
  refine nil_ ?_
  refine then_normal (K5 _ _ _ _ ?_)
  refine wp_ret ?_
  refine end_ret hQ (.slice a6 s.length s.length) (by kernel_rfl) ?_
  exact ⟨s, hp, E0, a6, rfl, (Sl.less h8 hS)⟩
theorem slices_Clip_byte_byte_keep {w : World} {a : Option Addr} {m c : Nat} (hmc : m ≤ c) : Calls Tryd.prog 35 #[(.slice a m c)] w (Ret fun v w' => v = (.slice a m m) ∧ w' = w) := by
  refine enter_ Tryd.func35 rfl 9 [(0, (.slice a m c))] (by kernel_rfl) (fun Qe hQ => ?_)
  refine seq_ (fun _ K4 => ?_)
  refine reg_ ?_
  refine sq (o_pv (.slice none 0 0) rfl (by kernel_rfl) ?_)
  refine nil_ ?_
  refine then_normal (K4 _ _ _ _ ?_)
  refine seq_ (fun _ K5 => ?_)
  refine reg_ ?_
  refine sq (o_pv (.slice a m c) rfl (by kernel_rfl) ?_)
  refine sq (o_pv (.slice a m c) rfl (by kernel_rfl) ?_)
  refine sq (o_pv (.int .i64 (m : Int)) rfl (by kernel_rfl) ?_)
  refine sq (o_pv (.slice a m c) rfl (by kernel_rfl) ?_)
  refine sq (o_pv (.int .i64 (m : Int)) rfl (by kernel_rfl) ?_)
  refine sq (o_slice3K (a := a) (m := m) (c := c) (k := .i64) (k' := .i64) Tryd.underlying28 Tryd.sizeOf5 (by kernel_rfl) hmc rfl (by kernel_rfl) (by kernel_rfl) ?_)
  refine sq (o_pv (.slice a m m) rfl (by kernel_rfl) ?_)
  refine nil_ ?_
  refine then_normal (K5 _ _ _ _ ?_)
  refine wp_ret ?_
  refine end_ret hQ (.slice a m m) (by kernel_rfl) ?_
  exact ⟨rfl, rfl⟩

def simfs_FS_Read_p (f_ : S_simfs_FS) (p : ByteArray) (Q : S_simfs_FS → (List Int) → Int → Prop) : Prop :=
  ((p.size ≤ maxLen) → (simfs_FS_find_p f_ p (fun (f_7 : S_simfs_FS) (r8 : S_simfs_file) (r9 : Int) => ((inR .i64 r8.mode) → ((inR .i64 r8.time) → ((inR .i64 r8.inode) → ((r8.b.length ≤ 9223372036854775807) → ((inR .i64 r9) → (((¬ (r9 = (0 : Int))) → Q f_7 ([] : List Int) r9) ∧ ((r9 = (0 : Int)) → (slices_Clone_byte_byte_p r8.b (fun (r49 : (List Int)) => ((r49.length ≤ 9223372036854775807) → (slices_Clip_byte_byte_p r49 (fun (r76 : (List Int)) => ((r76.length ≤ 9223372036854775807) → Q f_7 r76 (0 : Int)))))))))))))))))
set_option maxRecDepth 20000 in
set_option maxHeartbeats 4000000 in
theorem simfs_FS_Read_w {X : List Nat} {w : World} {f_ : S_simfs_FS} {p : ByteArray} {bf_1 : Nat} {Ff_2 : List Nat} {Q : S_simfs_FS → (List Int) → Int → Prop} (hX0 : Old X w) (mf_3 : MO o_simfs_FS 50 Ff_2 w.heap.size X w Ff_2 bf_1 f_) (zp4 : p.size ≤ maxLen) (hp : simfs_FS_Read_p f_ p Q) :
    Calls Tryd.prog 17 #[(.pointer (some ⟨bf_1, 0, none⟩)), (.string p)] w (Ret fun v w' => ∃ (m0 : S_simfs_FS) (r0 : (List Int)) (r1 : Int), Q m0 r0 r1 ∧ ∃ (X' : List Nat) (Fm0 : List Nat) (aq01 : Option Addr) (cq02 : Nat), Step X w Ff_2 X' w' ∧ v = .tuple #[(.slice aq01 r0.length cq02), (.int .i64 r1)] ∧ MO o_simfs_FS 50 Ff_2 w.heap.size X' w' Fm0 bf_1 m0 ∧ Sl (rInt .u8) X' w' aq01 cq02 r0 ∧ inR .i64 r1) := by
  have hXo := hX0
  have E0 : Evo Ff_2 w w := RB.refl _ _ _
  have hS : Sub X X := Sub.refl _
  have hN : News X w X w := News.refl _ _
  have hF0 : Sub Ff_2 X := MO.mem mf_3
  unfold simfs_FS_Read_p at hp
  refine enter_ Tryd.func17 rfl 21 [(0, (.pointer (some ⟨bf_1, 0, none⟩))), (1, (.string p))] (by kernel_rfl) (fun Qe hQ => ?_)
  replace hp := hp zp4
  refine seq_ (fun _ K5 => ?_)
  refine reg_ ?_
  refine sq (o_pv (.slice none 0 0) rfl (by kernel_rfl) ?_)
  refine sq (o_pv (.int .i64 (0 : Int)) rfl (by kernel_rfl) ?_)
  refine nil_ ?_
  refine then_normal (K5 _ _ _ _ ?_)
  refine seq_ (fun _ K6 => ?_)
  refine reg_ ?_
  refine sq (o_pv (.pointer (some ⟨bf_1, 0, none⟩)) rfl (by kernel_rfl) ?_)
  refine sq (o_pv (.string p) rfl (by kernel_rfl) ?_)
  refine sq (o_call 34 #[(.pointer (some ⟨bf_1, 0, none⟩)), (.string p)] rfl (x_call Tryd.call34 (by kernel_rfl)) (simfs_FS_find_w (X := X) (f_ := f_) (p := p) hXo (MO.re mf_3 (Wr.self _ _ (Sub.refl _))) zp4 hp) ?_)
  rintro _ w10 ⟨f_7, r8, r9, hp, X11, F13, arb18, crb19, s12, rfl, m14, rrmode15, rrtime16, rrinode17, hrb20, rr21⟩
  have m22 := MO.re m14 (Wr.trans m14.wr mf_3.wr E0.size)
  replace hp := hp rrmode15
  replace hp := hp rrtime16
  replace hp := hp rrinode17
  replace hp := hp (Sl.len hrb20)
  replace hp := hp rr21
  refine sq (o_pv (.tuple #[(.agg #[(.int .i64 r8.mode), (.int .i64 r8.time), (.int .i64 r8.inode), (.slice arb18 r8.b.length crb19)]), (.int .i64 r9)]) rfl (by kernel_rfl) ?_)
  refine sq (o_pv (.agg #[(.int .i64 r8.mode), (.int .i64 r8.time), (.int .i64 r8.inode), (.slice arb18 r8.b.length crb19)]) rfl (by kernel_rfl) ?_)
  refine sq (o_pv (.int .i64 r9) rfl (by kernel_rfl) ?_)
  have E29 := (Evo.thenW E0 (Step.evo s12) mf_3.wr)
  refine sq (o_newX [(.int .i64 (0 : Int)), (.int .i64 (0 : Int)), (.int .i64 (0 : Int)), (.slice none 0 0)] 54 (X := X11) (B := w.heap.size) E29.size rfl (by kernel_rfl) ?_)
  intro b23 w24 X25 s26 k27 n28
  have p30 := n28 _ (MO.old m22)
  have m31 := (MO.step0 m22 s26)
  have E32 := (Evo.then0 E29 (Step.evo s26))
  refine sq (o_stB (o := 0) (v := (.agg #[(.int .i64 r8.mode), (.int .i64 r8.time), (.int .i64 r8.inode), (.slice arb18 r8.b.length crb19)])) [(.int .i64 r8.mode), (.int .i64 r8.time), (.int .i64 r8.inode), (.slice arb18 r8.b.length crb19)] rfl k27 (by kernel_rfl) (by kernel_rfl) Tryd.sizeOf54 rfl rfl rfl ?_)
  intro w33 s34 k35
  refine sq (o_pv (.int .i64 r9) rfl (by kernel_rfl) ?_)
  refine nil_ ?_
  refine then_normal (K6 _ _ _ _ ?_)
  refine seq_ (fun _ K36 => ?_)
  refine seq_ (fun _ K37 => ?_)
  refine reg_ ?_
  refine sq (o_pv (.int .i64 r9) rfl (by kernel_rfl) ?_)
  refine sq (o_pv (.bool (!decide (r9 = (0 : Int)))) rfl (by kernel_rfl) ?_)
  refine nil_ ?_
  refine then_normal (K37 _ _ _ _ ?_)
  refine cond_nd (r9 = (0 : Int)) (by kernel_rfl) (fun h38 => ?_) (fun h38 => ?_)
  ·
    replace hp := hp.1 h38
    refine seq_ (fun _ K39 => ?_)
    refine reg_ ?_
    refine sq (o_pv (.int .i64 r9) rfl (by kernel_rfl) ?_)
    refine sq (o_pv (.slice none 0 0) rfl (by kernel_rfl) ?_)
    refine sq (o_pv (.int .i64 r9) rfl (by kernel_rfl) ?_)
    refine nil_ ?_
    refine then_normal (K39 _ _ _ _ ?_)
    refine wp_ret ?_
    refine then_ret ?_
    have hXo40 := (Old.step (Old.step (Old.step hXo s12) s26) s34)
    have E41 := (Evo.thenW E32 (Step.evo s34) (Wr.of k27.2.2))
    have hS42 := (Sub.trans (Sub.trans (Sub.trans hS (Step.up s12)) (Step.up s26)) (Step.up s34))
    have hN43 := (News.step (News.step (News.step hN s12) s26) s34)
    have m44 := (MO.step m31 s34 p30)
    have hrb45 := (Sl.step (Sl.step hrb20 s26) s34)
    refine end_ret hQ (.tuple #[(.slice none 0 0), (.int .i64 r9)]) (by kernel_rfl) ?_
    exact ⟨f_7, ([] : List Int), r9, hp, X25, F13, none, 0, step_of E41 hF0 hS42 hN43, rfl, m44, Sl.nil, rr21⟩
  ·
    replace hp := hp.2 h38
    refine wp_skip ?_
    refine then_normal (K36 _ _ _ _ ?_)
    refine seq_ (fun _ K46 => ?_)
    refine reg_ ?_
    refine sq (o_pv (.pointer (some ⟨b23, 3, none⟩)) rfl (by kernel_rfl) ?_)
    refine sq (o_pv (.slice arb18 r8.b.length crb19) rfl (x_load1 (by kernel_rfl) Tryd.isAgg28 (k35.2.1.cell' 3 rfl)) ?_)
    have hrb47 := (Sl.step (Sl.step hrb20 s26) s34)
    have hXo48 := (Old.step (Old.step (Old.step hXo s12) s26) s34)
    have m56 := (MO.step m31 s34 p30)
    refine sq (o_call 36 #[(.slice arb18 r8.b.length crb19)] rfl (x_call Tryd.call36 (by kernel_rfl)) (slices_Clone_byte_byte_w (X := X25) (s := r8.b) hXo48 (Sl.sq hrb47) hp) ?_)
    rintro _ w50 ⟨r49, hp, e51, a53, c54, rfl, O55⟩
    have E60 := (Evo.thenW E32 (Step.evo s34) (Wr.of k27.2.2))
    obtain ⟨X57, s52, O58, n59⟩ := OS.own_in O55 e51 E60.size
    have p61 := n59 _ (MO.old m56)
    have p62 := n59 _ (OB.old k35)
    replace hp := hp (OS.len O58)
    have hS63 := (Sub.trans (Sub.trans (Sub.trans (Sub.trans hS (Step.up s12)) (Step.up s26)) (Step.up s34)) (Step.up s52))
    have hXo69 := (Old.step hXo48 s52)
    have E70 := (Evo.then0 E60 (Step.evo s52))
    have hN71 := (News.step (News.step (News.step (News.step hN s12) s26) s34) s52)
    have m72 := (MO.step0 m56 s52)
    have hrb73 := (Sl.step hrb47 s52)
    have k74 := (OB.step0 k35 s52)
    have ax68 := OS.apold O58 hX0
    obtain ⟨X64, u65, r66, hm67⟩ := OS.release O58
    have hXo75 := (Old.less hXo69 u65)
    refine sq (o_call 35 #[(.slice a53 r49.length c54)] rfl (x_call Tryd.call35 (by kernel_rfl)) (slices_Clip_byte_byte_w (X := X64) (s := r49) hXo75 r66 hp) ?_)
    rintro _ w77 ⟨r76, hp, e78, ar80, rfl, hr81⟩
    have s79 := Step.of0 X64 e78
    replace hp := hp (Sl.len hr81)
    refine sq (o_pv (.slice ar80 r76.length r76.length) rfl (by kernel_rfl) ?_)
    refine sq (o_pv (.int .i64 (0 : Int)) rfl (by kernel_rfl) ?_)
    refine nil_ ?_
    refine then_normal (K46 _ _ _ _ ?_)
    refine wp_ret ?_
    have hXo82 := (Old.step hXo75 s79)
    have E83 := (Evo.then0 E70 e78)
    have hS84 := (Sub.trans (hm67 _ ax68 hS63) (Step.up s79))
    have hN85 := (News.step (News.less hN71 u65) s79)
    have m86 := (MO.step0 (MO.less m72 u65 (hm67 _ p61 (MO.mem m72))) s79)
    have hrb87 := (Sl.step (Sl.less hrb73 u65) s79)
    have k88 := (OB.step0 (OB.less k74 (hm67 _ p62 (OB.mem k74))) s79)
    have r89 := (Sl.step r66 s79)
    refine end_ret hQ (.tuple #[(.slice ar80 r76.length r76.length), (.int .i64 (0 : Int))]) (by kernel_rfl) ?_
    exact ⟨f_7, r76, (0 : Int), hp, X64, F13, ar80, r76.length, step_of E83 hF0 hS84 hN85, rfl, m86, hr81, (by decide : inR .i64 (0 : Int))⟩

def simfs_FS_On_p (f_ : S_simfs_FS) (Q : S_simfs_FS → Prop) : Prop :=
  ((f_.pending.length ≤ 9223372036854775807) → ((inR .i64 f_.quota) → ((inR .i64 f_.now) → ((inR .i64 f_.inodes) → ((inR .i64 f_.ops_) → ((inR .i64 f_.left) → ((f_.keep.length ≤ 9223372036854775807) → Q (S_simfs_FS.mk f_.kept f_.files f_.pending f_.quota f_.now f_.inodes f_.ops_ false f_.armed f_.left f_.keep))))))))
set_option maxRecDepth 20000 in
set_option maxHeartbeats 4000000 in
theorem simfs_FS_On_w {X : List Nat} {w : World} {f_ : S_simfs_FS} {bf_1 : Nat} {Ff_2 : List Nat} {Q : S_simfs_FS → Prop} (hX0 : Old X w) (mf_3 : MO o_simfs_FS 50 Ff_2 w.heap.size X w Ff_2 bf_1 f_) (hp : simfs_FS_On_p f_ Q) :
    Calls Tryd.prog 11 #[(.pointer (some ⟨bf_1, 0, none⟩))] w (Ret fun v w' => ∃ (m0 : S_simfs_FS), Q m0 ∧ ∃ (X' : List Nat) (Fm0 : List Nat), Step X w Ff_2 X' w' ∧ v = .tuple #[] ∧ MO o_simfs_FS 50 Ff_2 w.heap.size X' w' Fm0 bf_1 m0) := by
  have hXo := hX0
  have E0 : Evo Ff_2 w w := RB.refl _ _ _
  have hS : Sub X X := Sub.refl _
  have hN : News X w X w := News.refl _ _
  have hF0 : Sub Ff_2 X := MO.mem mf_3
  unfold simfs_FS_On_p at hp
  refine enter_ Tryd.func11 rfl 5 [(0, (.pointer (some ⟨bf_1, 0, none⟩)))] (by kernel_rfl) (fun Qe hQ => ?_)
  refine reg_ ?_
  refine sq (o_pv (.pointer (some ⟨bf_1, 0, none⟩)) rfl (by kernel_rfl) ?_)
  refine sq (o_pv (.pointer (some ⟨bf_1, 0, none⟩)) rfl (by kernel_rfl) ?_)
  obtain ⟨rokept4, rofiles6, ao8, no9, co10, aokeep17, cokeep18, k20, mokept5, mofiles7, Oo11, roquota12, ronow13, roinodes14, roops_15, roleft16, hokeep19, sb21, sb22, sb23, sb24, p25, p26, p27, p28, p29, p30⟩ := o_simfs_FS_open mf_3
  replace hp := hp (OS.len Oo11)
  replace hp := hp roquota12
  replace hp := hp ronow13
  replace hp := hp roinodes14
  replace hp := hp roops_15
  replace hp := hp roleft16
  replace hp := hp (Sl.len hokeep19)
  refine sq (o_pv (.pointer (some ⟨bf_1, 7, none⟩)) rfl (by kernel_rfl) ?_)
  refine sq (o_stB (o := 7) (v := (.bool false)) [(.map (some rokept4)), (.map (some rofiles6)), (.slice ao8 no9 co10), (.int .i64 f_.quota), (.int .i64 f_.now), (.int .i64 f_.inodes), (.int .i64 f_.ops_), (.bool false), (.bool f_.armed), (.int .i64 f_.left), (.slice aokeep17 f_.keep.length cokeep18)] rfl k20 (by kernel_rfl) (by kernel_rfl) Tryd.sizeOf4 rfl rfl rfl ?_)
  intro w31 s32 k33
  refine nil_ ?_
  have hXo34 := (Old.step hXo s32)
  have E35 := (Evo.thenW E0 (Step.evo s32) k20.2.2)
  have hS36 := (Sub.trans hS (Step.up s32))
  have hN37 := (News.step hN s32)
  have mokept38 := (OM.step mokept5 s32 (Ap.symm p25))
  have mofiles39 := (OM.step mofiles7 s32 (Ap.symm p26))
  have Oo40 := (OS.step Oo11 s32 (Ap.symm p27))
  have hokeep41 := (Sl.step hokeep19 s32)
  obtain ⟨F42, m43, hs44⟩ := MO.pack (o_simfs_FS_mk k33 mokept38 mofiles39 Oo40 roquota12 ronow13 roinodes14 roops_15 roleft16 hokeep41 rfl p25 p26 p27 p28 p29 p30)
  refine end_normal hQ (.tuple #[]) (by kernel_rfl) ?_
  exact ⟨(S_simfs_FS.mk f_.kept f_.files f_.pending f_.quota f_.now f_.inodes f_.ops_ false f_.armed f_.left f_.keep), hp, X, F42, step_of E35 hF0 hS36 hN37, rfl, m43⟩

def simfs_FS_Stat_p (f_ : S_simfs_FS) (p : ByteArray) (Q : S_simfs_FS → S_simfs_Stat → Int → Prop) : Prop :=
  ((p.size ≤ maxLen) → (simfs_FS_find_p f_ p (fun (f_19 : S_simfs_FS) (r20 : S_simfs_file) (r21 : Int) => ((inR .i64 r20.mode) → ((inR .i64 r20.time) → ((inR .i64 r20.inode) → ((r20.b.length ≤ 9223372036854775807) → ((inR .i64 r21) → (((¬ (r21 = (0 : Int))) → Q f_19 (S_simfs_Stat.mk (0 : Int) (0 : Int) (0 : Int) (0 : Int)) r21) ∧ ((r21 = (0 : Int)) → Q f_19 (S_simfs_Stat.mk (r20.b.length : Int) r20.time r20.inode r20.mode) (0 : Int)))))))))))
set_option maxRecDepth 20000 in
set_option maxHeartbeats 4000000 in
theorem simfs_FS_Stat_w {X : List Nat} {w : World} {f_ : S_simfs_FS} {p : ByteArray} {bf_1 : Nat} {Ff_2 : List Nat} {Q : S_simfs_FS → S_simfs_Stat → Int → Prop} (hX0 : Old X w) (mf_3 : MO o_simfs_FS 50 Ff_2 w.heap.size X w Ff_2 bf_1 f_) (zp4 : p.size ≤ maxLen) (hp : simfs_FS_Stat_p f_ p Q) :
    Calls Tryd.prog 19 #[(.pointer (some ⟨bf_1, 0, none⟩)), (.string p)] w (Ret fun v w' => ∃ (m0 : S_simfs_FS) (r0 : S_simfs_Stat) (r1 : Int), Q m0 r0 r1 ∧ ∃ (X' : List Nat) (Fm0 : List Nat), Step X w Ff_2 X' w' ∧ v = .tuple #[(.agg #[(.int .i64 r0.Size), (.int .i64 r0.Time), (.int .i64 r0.Inode), (.int .i64 r0.Mode)]), (.int .i64 r1)] ∧ MO o_simfs_FS 50 Ff_2 w.heap.size X' w' Fm0 bf_1 m0 ∧ inR .i64 r0.Size ∧ inR .i64 r0.Time ∧ inR .i64 r0.Inode ∧ inR .i64 r0.Mode ∧ inR .i64 r1) := by
  have hXo := hX0
  have E0 : Evo Ff_2 w w := RB.refl _ _ _
  have hS : Sub X X := Sub.refl _
  have hN : News X w X w := News.refl _ _
  have hF0 : Sub Ff_2 X := MO.mem mf_3
  unfold simfs_FS_Stat_p at hp
  refine enter_ Tryd.func19 rfl 28 [(0, (.pointer (some ⟨bf_1, 0, none⟩))), (1, (.string p))] (by kernel_rfl) (fun Qe hQ => ?_)
  replace hp := hp zp4
  refine seq_ (fun _ K5 => ?_)
  refine reg_ ?_
  refine sq (o_newX [(.int .i64 (0 : Int)), (.int .i64 (0 : Int)), (.int .i64 (0 : Int)), (.int .i64 (0 : Int))] 42 (X := X) (B := w.heap.size) E0.size rfl (by kernel_rfl) ?_)
  intro b6 w7 X8 s9 k10 n11
  have p12 := n11 _ (MO.old mf_3)
  refine sq (o_pv (.int .i64 (0 : Int)) rfl (by kernel_rfl) ?_)
  refine nil_ ?_
  refine then_normal (K5 _ _ _ _ ?_)
  refine seq_ (fun _ K13 => ?_)
  refine reg_ ?_
  refine sq (o_pv (.pointer (some ⟨bf_1, 0, none⟩)) rfl (by kernel_rfl) ?_)
  refine sq (o_pv (.string p) rfl (by kernel_rfl) ?_)
  have mf_14 := (MO.step0 mf_3 s9)
  have hXo15 := (Old.step hXo s9)
  have E16 := (Evo.then0 E0 (Step.evo s9))
  have hS17 := (Sub.trans hS (Step.up s9))
  have hN18 := (News.step hN s9)
  refine sq (o_call 34 #[(.pointer (some ⟨bf_1, 0, none⟩)), (.string p)] rfl (x_call Tryd.call34 (by kernel_rfl)) (simfs_FS_find_w (X := X8) (f_ := f_) (p := p) hXo15 (MO.re mf_14 (Wr.self _ _ (Sub.refl _))) zp4 hp) ?_)
  rintro _ w22 ⟨f_19, r20, r21, hp, X23, F25, arb30, crb31, s24, rfl, m26, rrmode27, rrtime28, rrinode29, hrb32, rr33⟩
  have m34 := MO.re m26 (Wr.trans m26.wr mf_14.wr E16.size)
  have p35 := Ap.grow m26.wr (Ap.symm p12) (OB.old k10) (Nat.le_refl _)
  replace hp := hp rrmode27
  replace hp := hp rrtime28
  replace hp := hp rrinode29
  replace hp := hp (Sl.len hrb32)
  replace hp := hp rr33
  refine sq (o_pv (.tuple #[(.agg #[(.int .i64 r20.mode), (.int .i64 r20.time), (.int .i64 r20.inode), (.slice arb30 r20.b.length crb31)]), (.int .i64 r21)]) rfl (by kernel_rfl) ?_)
  refine sq (o_pv (.agg #[(.int .i64 r20.mode), (.int .i64 r20.time), (.int .i64 r20.inode), (.slice arb30 r20.b.length crb31)]) rfl (by kernel_rfl) ?_)
  refine sq (o_pv (.int .i64 r21) rfl (by kernel_rfl) ?_)
  have k42 := (OB.step k10 s24 (Ap.symm p12))
  have E43 := (Evo.thenW E16 (Step.evo s24) mf_14.wr)
  refine sq (o_newX [(.int .i64 (0 : Int)), (.int .i64 (0 : Int)), (.int .i64 (0 : Int)), (.slice none 0 0)] 54 (X := X23) (B := w.heap.size) E43.size rfl (by kernel_rfl) ?_)
  intro b36 w37 X38 s39 k40 n41
  have p44 := n41 _ (OB.old k42)
  have p45 := n41 _ (MO.old m34)
  have k46 := (OB.step0 k42 s39)
  have m47 := (MO.step0 m34 s39)
  have E48 := (Evo.then0 E43 (Step.evo s39))
  refine sq (o_stB (o := 0) (v := (.agg #[(.int .i64 r20.mode), (.int .i64 r20.time), (.int .i64 r20.inode), (.slice arb30 r20.b.length crb31)])) [(.int .i64 r20.mode), (.int .i64 r20.time), (.int .i64 r20.inode), (.slice arb30 r20.b.length crb31)] rfl k40 (by kernel_rfl) (by kernel_rfl) Tryd.sizeOf54 rfl rfl rfl ?_)
  intro w49 s50 k51
  refine sq (o_pv (.int .i64 r21) rfl (by kernel_rfl) ?_)
  refine nil_ ?_
  refine then_normal (K13 _ _ _ _ ?_)
  refine seq_ (fun _ K52 => ?_)
  refine seq_ (fun _ K53 => ?_)
  refine reg_ ?_
  refine sq (o_pv (.int .i64 r21) rfl (by kernel_rfl) ?_)
  refine sq (o_pv (.bool (!decide (r21 = (0 : Int)))) rfl (by kernel_rfl) ?_)
  refine nil_ ?_
  refine then_normal (K53 _ _ _ _ ?_)
  refine cond_nd (r21 = (0 : Int)) (by kernel_rfl) (fun h54 => ?_) (fun h54 => ?_)
  ·
    replace hp := hp.1 h54
    refine seq_ (fun _ K55 => ?_)
    refine reg_ ?_
    refine sq (o_pv (.agg #[(.int .i64 (0 : Int)), (.int .i64 (0 : Int)), (.int .i64 (0 : Int)), (.int .i64 (0 : Int))]) rfl (by kernel_rfl) ?_)
    refine sq (o_pv (.int .i64 r21) rfl (by kernel_rfl) ?_)
    have k56 := (OB.step k46 s50 p44)
    have m57 := (MO.step m47 s50 p45)
    have E58 := (Evo.thenW E48 (Step.evo s50) (Wr.of k40.2.2))
    refine sq (o_stB (o := 0) (v := (.agg #[(.int .i64 (0 : Int)), (.int .i64 (0 : Int)), (.int .i64 (0 : Int)), (.int .i64 (0 : Int))])) [(.int .i64 (0 : Int)), (.int .i64 (0 : Int)), (.int .i64 (0 : Int)), (.int .i64 (0 : Int))] rfl k56 (by kernel_rfl) (by kernel_rfl) Tryd.sizeOf42 rfl rfl rfl ?_)
    intro w59 s60 k61
    refine sq (o_pv (.int .i64 r21) rfl (by kernel_rfl) ?_)
    refine nil_ ?_
    refine then_normal (K55 _ _ _ _ ?_)
    refine wp_ret ?_
    refine then_ret ?_
    have hXo62 := (Old.step (Old.step (Old.step (Old.step hXo15 s24) s39) s50) s60)
    have E63 := (Evo.thenW E58 (Step.evo s60) (Wr.of k56.2.2))
    have hS64 := (Sub.trans (Sub.trans (Sub.trans (Sub.trans hS17 (Step.up s24)) (Step.up s39)) (Step.up s50)) (Step.up s60))
    have hN65 := (News.step (News.step (News.step (News.step hN18 s24) s39) s50) s60)
    have m66 := (MO.step m57 s60 (Ap.symm p35))
    have hrb67 := (Sl.step (Sl.step (Sl.step hrb32 s39) s50) s60)
    have k68 := (OB.step k51 s60 (Ap.symm p44))
    refine end_ret hQ (.tuple #[(.agg #[(.int .i64 (0 : Int)), (.int .i64 (0 : Int)), (.int .i64 (0 : Int)), (.int .i64 (0 : Int))]), (.int .i64 r21)]) (rs2 Tryd.results19 (rs_agg [(.int .i64 (0 : Int)), (.int .i64 (0 : Int)), (.int .i64 (0 : Int)), (.int .i64 (0 : Int))] (by kernel_rfl) Tryd.isAgg42 Tryd.sizeOf42 (k61.2.1.cells' 0 rfl)) (rs_tmp (by kernel_rfl))) ?_
    exact ⟨f_19, (S_simfs_Stat.mk (0 : Int) (0 : Int) (0 : Int) (0 : Int)), r21, hp, X38, F25, step_of E63 hF0 hS64 hN65, rfl, m66, (by decide : inR .i64 (0 : Int)), (by decide : inR .i64 (0 : Int)), (by decide : inR .i64 (0 : Int)), (by decide : inR .i64 (0 : Int)), rr33⟩
  ·
    replace hp := hp.2 h54
    refine wp_skip ?_
    refine then_normal (K52 _ _ _ _ ?_)
    refine seq_ (fun _ K69 => ?_)
    refine reg_ ?_
    refine sq (o_pv (.pointer (some ⟨b36, 3, none⟩)) rfl (by kernel_rfl) ?_)
    refine sq (o_pv (.slice arb30 r20.b.length crb31) rfl (x_load1 (by kernel_rfl) Tryd.isAgg28 (k51.2.1.cell' 3 rfl)) ?_)
    refine sq (o_pv (.int .i64 (r20.b.length : Int)) rfl (by kernel_rfl) ?_)
    refine sq (o_pv (.pointer (some ⟨b36, 1, none⟩)) rfl (by kernel_rfl) ?_)
    refine sq (o_pv (.int .i64 r20.time) rfl (x_load1 (by kernel_rfl) Tryd.isAgg3 (k51.2.1.cell' 1 rfl)) ?_)
    refine sq (o_pv (.pointer (some ⟨b36, 2, none⟩)) rfl (by kernel_rfl) ?_)
    refine sq (o_pv (.int .i64 r20.inode) rfl (x_load1 (by kernel_rfl) Tryd.isAgg3 (k51.2.1.cell' 2 rfl)) ?_)
    refine sq (o_pv (.pointer (some ⟨b36, 0, none⟩)) rfl (by kernel_rfl) ?_)
    refine sq (o_pv (.int .i64 r20.mode) rfl (x_load1 (by kernel_rfl) Tryd.isAgg3 (k51.2.1.cell' 0 rfl)) ?_)
    refine sq (o_pv (.agg #[(.int .i64 (r20.b.length : Int)), (.int .i64 r20.time), (.int .i64 r20.inode), (.int .i64 r20.mode)]) rfl (by kernel_rfl) ?_)
    have k70 := (OB.step k46 s50 p44)
    have m71 := (MO.step m47 s50 p45)
    have E72 := (Evo.thenW E48 (Step.evo s50) (Wr.of k40.2.2))
    refine sq (o_stB (o := 0) (v := (.agg #[(.int .i64 (r20.b.length : Int)), (.int .i64 r20.time), (.int .i64 r20.inode), (.int .i64 r20.mode)])) [(.int .i64 (r20.b.length : Int)), (.int .i64 r20.time), (.int .i64 r20.inode), (.int .i64 r20.mode)] rfl k70 (by kernel_rfl) (by kernel_rfl) Tryd.sizeOf42 rfl rfl rfl ?_)
    intro w73 s74 k75
    refine sq (o_pv (.int .i64 (0 : Int)) rfl (by kernel_rfl) ?_)
    refine nil_ ?_
    refine then_normal (K69 _ _ _ _ ?_)
    refine wp_ret ?_
    have hXo76 := (Old.step (Old.step (Old.step (Old.step hXo15 s24) s39) s50) s74)
    have E77 := (Evo.thenW E72 (Step.evo s74) (Wr.of k70.2.2))
    have hS78 := (Sub.trans (Sub.trans (Sub.trans (Sub.trans hS17 (Step.up s24)) (Step.up s39)) (Step.up s50)) (Step.up s74))
    have hN79 := (News.step (News.step (News.step (News.step hN18 s24) s39) s50) s74)
    have m80 := (MO.step m71 s74 (Ap.symm p35))
    have hrb81 := (Sl.step (Sl.step (Sl.step hrb32 s39) s50) s74)
    have k82 := (OB.step k51 s74 (Ap.symm p44))
    refine end_ret hQ (.tuple #[(.agg #[(.int .i64 (r20.b.length : Int)), (.int .i64 r20.time), (.int .i64 r20.inode), (.int .i64 r20.mode)]), (.int .i64 (0 : Int))]) (rs2 Tryd.results19 (rs_agg [(.int .i64 (r20.b.length : Int)), (.int .i64 r20.time), (.int .i64 r20.inode), (.int .i64 r20.mode)] (by kernel_rfl) Tryd.isAgg42 Tryd.sizeOf42 (k75.2.1.cells' 0 rfl)) (rs_tmp (by kernel_rfl))) ?_
    exact ⟨f_19, (S_simfs_Stat.mk (r20.b.length : Int) r20.time r20.inode r20.mode), (0 : Int), hp, X38, F25, step_of E77 hF0 hS78 hN79, rfl, m80, (inR_len (Sl.len hrb32)), rrtime28, rrinode29, rrmode27, (by decide : inR .i64 (0 : Int))⟩

def slices_Clip_string_string_p (s : (List ByteArray)) (Q : (List ByteArray) → Prop) : Prop :=
  ((s.length ≤ 9223372036854775807) → ((0 ≤ (s.length : Int) ∧ (s.length : Int) ≤ (s.length : Int)) ∧ Q s))
set_option maxRecDepth 20000 in
set_option maxHeartbeats 4000000 in
theorem slices_Clip_string_string_w {X : List Nat} {w : World} {s : (List ByteArray)} {as1 : Option Addr} {cs2 : Nat} {Q : (List ByteArray) → Prop} (hX0 : Old X w) (hs3 : Sl rStr X w as1 cs2 s) (hp : slices_Clip_string_string_p s Q) :
    Calls Tryd.prog 28 #[(.slice as1 s.length cs2)] w (Ret fun v w' => ∃ (r0 : (List ByteArray)), Q r0 ∧ Evo [] w w' ∧ ∃ (aq01 : Option Addr), v = (.slice aq01 r0.length r0.length) ∧ Sl rStr X w' aq01 r0.length r0) := by
  have hXo := hX0
  have E0 : Evo [] w w := RB.refl _ _ _
  have hS : Sub X X := Sub.refl _
  unfold slices_Clip_string_string_p at hp
  refine enter_ Tryd.func28 rfl 9 [(0, (.slice as1 s.length cs2))] (by kernel_rfl) (fun Qe hQ => ?_)
  replace hp := hp (Sl.len hs3)
  refine seq_ (fun _ K4 => ?_)
  refine reg_ ?_
  refine sq (o_pv (.slice none 0 0) rfl (by kernel_rfl) ?_)
  refine nil_ ?_
  refine then_normal (K4 _ _ _ _ ?_)
  refine seq_ (fun _ K5 => ?_)
  refine reg_ ?_
  refine sq (o_pv (.slice as1 s.length cs2) rfl (by kernel_rfl) ?_)
  refine sq (o_pv (.slice as1 s.length cs2) rfl (by kernel_rfl) ?_)
  refine sq (o_pv (.int .i64 (s.length : Int)) rfl (by kernel_rfl) ?_)
  refine sq (o_pv (.slice as1 s.length cs2) rfl (by kernel_rfl) ?_)
  refine sq (o_pv (.int .i64 (s.length : Int)) rfl (by kernel_rfl) ?_)
  obtain ⟨h9, hp⟩ := hp
  refine sq (o_slice3F (R := rStr) (k := .i64) (k' := .i64) (X := X) (L := s) (s.length : Int) Tryd.underlying29 Tryd.sizeOf9 hs3 (by kernel_rfl) rfl rfl (by kernel_rfl) (by kernel_rfl) h9 ?_)
  intro a6 h8
  rw [take_len] at h8
  rw [take_len]
  refine sq (o_pv (.slice a6 s.length s.length) rfl (by kernel_rfl) ?_)
  refine nil_ ?_
  refine then_normal (K5 _ _ _ _ ?_)
  refine wp_ret ?_
  refine end_ret hQ (.slice a6 s.length s.length) (by kernel_rfl) ?_
  exact ⟨s, hp, E0, a6, rfl, (Sl.less h8 hS)⟩
theorem slices_Clip_string_string_keep {w : World} {a : Option Addr} {m c : Nat} (hmc : m ≤ c) : Calls Tryd.prog 28 #[(.slice a m c)] w (Ret fun v w' => v = (.slice a m m) ∧ w' = w) := by
  refine enter_ Tryd.func28 rfl 9 [(0, (.slice a m c))] (by kernel_rfl) (fun Qe hQ => ?_)
  refine seq_ (fun _ K4 => ?_)
  refine reg_ ?_
  refine sq (o_pv (.slice none 0 0) rfl (by kernel_rfl) ?_)
  refine nil_ ?_
  refine then_normal (K4 _ _ _ _ ?_)
  refine seq_ (fun _ K5 => ?_)
  refine reg_ ?_
  refine sq (o_pv (.slice a m c) rfl (by kernel_rfl) ?_)
  refine sq (o_pv (.slice a m c) rfl (by kernel_rfl) ?_)
  refine sq (o_pv (.int .i64 (m : Int)) rfl (by kernel_rfl) ?_)
  refine sq (o_pv (.slice a m c) rfl (by kernel_rfl) ?_)
  refine sq (o_pv (.int .i64 (m : Int)) rfl (by kernel_rfl) ?_)
  refine sq (o_slice3K (a := a) (m := m) (c := c) (k := .i64) (k' := .i64) Tryd.underlying29 Tryd.sizeOf9 (by kernel_rfl) hmc rfl (by kernel_rfl) (by kernel_rfl) ?_)
  refine sq (o_pv (.slice a m m) rfl (by kernel_rfl) ?_)
  refine nil_ ?_
  refine then_normal (K5 _ _ _ _ ?_)
  refine wp_ret ?_
  refine end_ret hQ (.slice a m m) (by kernel_rfl) ?_
  exact ⟨rfl, rfl⟩

def simfs_FS_List_p (f_ : S_simfs_FS) (Q : S_simfs_FS → (List ByteArray) → Int → Prop) : Prop :=
  ((f_.pending.length ≤ 9223372036854775807) → ((inR .i64 f_.quota) → ((inR .i64 f_.now) → ((inR .i64 f_.inodes) → ((inR .i64 f_.ops_) → ((inR .i64 f_.left) → ((f_.keep.length ≤ 9223372036854775807) → (((f_.off = true) → Q f_ ([] : List ByteArray) (13 : Int)) ∧ ((f_.off = false) → (((f_.files.map (·.1)).Nodup ∧ f_.files.length ≤ 8796093022208) ∧ (slices_Clip_string_string_p (keysB f_.files) (fun (r84 : (List ByteArray)) => ((r84.length ≤ 9223372036854775807) → Q f_ r84 (0 : Int))))))))))))))
set_option maxRecDepth 20000 in
set_option maxHeartbeats 4000000 in
theorem simfs_FS_List_w {X : List Nat} {w : World} {f_ : S_simfs_FS} {bf_1 : Nat} {Ff_2 : List Nat} {Q : S_simfs_FS → (List ByteArray) → Int → Prop} (hX0 : Old X w) (mf_3 : MO o_simfs_FS 50 Ff_2 w.heap.size X w Ff_2 bf_1 f_) (hp : simfs_FS_List_p f_ Q) :
    Calls Tryd.prog 12 #[(.pointer (some ⟨bf_1, 0, none⟩))] w (Ret fun v w' => ∃ (m0 : S_simfs_FS) (r0 : (List ByteArray)) (r1 : Int), Q m0 r0 r1 ∧ ∃ (X' : List Nat) (Fm0 : List Nat) (aq01 : Option Addr) (cq02 : Nat), Step X w Ff_2 X' w' ∧ v = .tuple #[(.slice aq01 r0.length cq02), (.int .i64 r1)] ∧ MO o_simfs_FS 50 Ff_2 w.heap.size X' w' Fm0 bf_1 m0 ∧ Sl rStr X' w' aq01 cq02 r0 ∧ inR .i64 r1) := by
  have hXo := hX0
  have E0 : Evo Ff_2 w w := RB.refl _ _ _
  have hS : Sub X X := Sub.refl _
  have hN : News X w X w := News.refl _ _
  have hF0 : Sub Ff_2 X := MO.mem mf_3
  unfold simfs_FS_List_p at hp
  refine enter_ Tryd.func12 rfl 15 [(0, (.pointer (some ⟨bf_1, 0, none⟩)))] (by kernel_rfl) (fun Qe hQ => ?_)
  refine seq_ (fun _ K4 => ?_)
  refine reg_ ?_
  refine sq (o_pv (.slice none 0 0) rfl (by kernel_rfl) ?_)
  refine sq (o_pv (.int .i64 (0 : Int)) rfl (by kernel_rfl) ?_)
  refine nil_ ?_
  refine then_normal (K4 _ _ _ _ ?_)
  refine seq_ (fun _ K5 => ?_)
  refine seq_ (fun _ K6 => ?_)
  refine reg_ ?_
  refine sq (o_pv (.pointer (some ⟨bf_1, 0, none⟩)) rfl (by kernel_rfl) ?_)
  refine sq (o_pv (.pointer (some ⟨bf_1, 0, none⟩)) rfl (by kernel_rfl) ?_)
  obtain ⟨rokept7, rofiles9, ao11, no12, co13, aokeep20, cokeep21, k23, mokept8, mofiles10, Oo14, roquota15, ronow16, roinodes17, roops_18, roleft19, hokeep22, sb24, sb25, sb26, sb27, p28, p29, p30, p31, p32, p33⟩ := o_simfs_FS_open mf_3
  replace hp := hp (OS.len Oo14)
  replace hp := hp roquota15
  replace hp := hp ronow16
  replace hp := hp roinodes17
  replace hp := hp roops_18
  replace hp := hp roleft19
  replace hp := hp (Sl.len hokeep22)
  refine sq (o_pv (.pointer (some ⟨bf_1, 7, none⟩)) rfl (by kernel_rfl) ?_)
  refine sq (o_pv (.bool f_.off) rfl (x_load1 (by kernel_rfl) Tryd.isAgg4 (k23.2.1.cell' 7 rfl)) ?_)
  refine nil_ ?_
  refine then_normal (K6 _ _ _ _ ?_)
  refine cond_b f_.off (by kernel_rfl) (fun h34 => ?_) (fun h34 => ?_)
  ·
    replace hp := hp.1 h34
    refine seq_ (fun _ K35 => ?_)
    refine reg_ ?_
    refine sq (o_pv (.slice none 0 0) rfl (by kernel_rfl) ?_)
    refine sq (o_pv (.int .i64 (13 : Int)) rfl (by kernel_rfl) ?_)
    refine nil_ ?_
    refine then_normal (K35 _ _ _ _ ?_)
    refine wp_ret ?_
    refine then_ret ?_
    obtain ⟨F36, m37, hs38⟩ := MO.pack (o_simfs_FS_mk k23 mokept8 mofiles10 Oo14 roquota15 ronow16 roinodes17 roops_18 roleft19 hokeep22 rfl p28 p29 p30 p31 p32 p33)
    refine end_ret hQ (.tuple #[(.slice none 0 0), (.int .i64 (13 : Int))]) (by kernel_rfl) ?_
    exact ⟨f_, ([] : List ByteArray), (13 : Int), hp, X, F36, none, 0, step_of E0 hF0 hS hN, rfl, m37, Sl.nil, (by decide : inR .i64 (13 : Int))⟩
  ·
    replace hp := hp.2 h34
    refine wp_skip ?_
    refine then_normal (K5 _ _ _ _ ?_)
    refine seq_ (fun _ K39 => ?_)
    refine reg_ ?_
    refine sq (o_pv (.pointer (some ⟨bf_1, 0, none⟩)) rfl (by kernel_rfl) ?_)
    refine sq (o_pv (.pointer (some ⟨bf_1, 0, none⟩)) rfl (by kernel_rfl) ?_)
    refine sq (o_pv (.pointer (some ⟨bf_1, 1, none⟩)) rfl (by kernel_rfl) ?_)
    refine sq (o_pv (.map (some rofiles9)) rfl (x_load1 (by kernel_rfl) Tryd.isAgg47 (k23.2.1.cell' 1 rfl)) ?_)
    refine sq (o_call 30 #[(.map (some rofiles9))] rfl (x_call Tryd.call30 (by kernel_rfl)) (mkeys_w (X := X) (B := w.heap.size) E0.size) ?_)
    rintro _ w41 ⟨kb40, X42, rfl, s43, k44, n45⟩
    have p46 := n45 _ (OB.old k23)
    have p47 := n45 _ (OM.old mokept8)
    have p48 := n45 _ (OM.old mofiles10)
    have p49 := n45 _ (OS.old Oo14)
    have mofiles50 := (OM.step0 mofiles10 s43)
    obtain ⟨h51, hp⟩ := hp
    have k52 := (OB.step0 k23 s43)
    have mokept53 := (OM.step0 mokept8 s43)
    have Oo54 := (OS.step0 Oo14 s43)
    have E62 := (Evo.then0 E0 (Step.evo s43))
    refine sq (o_call 29 #[(.func (.func 43) #[] #[(.pointer (some ⟨kb40, 0, none⟩))])] rfl (x_call Tryd.call29 (by kernel_rfl)) (mkeys_sorted_w (X := X42) (B := w.heap.size) E62.size k44.2.1 mofiles50.2.1 h51) ?_)
    rintro _ w57 ⟨a55, c56, X58, rfl, s59, O60, n61⟩
    have p63 := n61 _ (OB.old k52)
    have p64 := n61 _ (OM.old mokept53)
    have p65 := n61 _ (OM.old mofiles50)
    have p66 := n61 _ (OS.old Oo54)
    have p67 := n61 _ (OB.old k44)
    have hS68 := (Sub.trans (Sub.trans hS (Step.up s43)) (Step.up s59))
    have hXo74 := (Old.step (Old.step hXo s43) s59)
    have E75 := (Evo.then0 E62 (Step.evo s59))
    have hN76 := (News.step (News.step hN s43) s59)
    have k77 := (OB.step0 k52 s59)
    have mokept78 := (OM.step0 mokept53 s59)
    have mofiles79 := (OM.step0 mofiles50 s59)
    have Oo80 := (OS.step0 Oo54 s59)
    have hokeep81 := (Sl.step (Sl.step hokeep22 s43) s59)
    have k82 := (OB.step0 k44 s59)
    have ax73 := OS.apold O60 hX0
    obtain ⟨X69, u70, r71, hm72⟩ := OS.release O60
    have hXo83 := (Old.less hXo74 u70)
    refine sq (o_call 28 #[(.slice a55 (keysB f_.files).length c56)] rfl (x_call Tryd.call28 (by rw []; kernel_rfl)) (slices_Clip_string_string_w (X := X69) (s := keysB f_.files) hXo83 r71 hp) ?_)
    rintro _ w85 ⟨r84, hp, e86, ar88, rfl, hr89⟩
    have s87 := Step.of0 X69 e86
    replace hp := hp (Sl.len hr89)
    refine sq (o_pv (.slice ar88 r84.length r84.length) rfl (by kernel_rfl) ?_)
    refine sq (o_pv (.int .i64 (0 : Int)) rfl (by kernel_rfl) ?_)
    refine nil_ ?_
    refine then_normal (K39 _ _ _ _ ?_)
    refine wp_ret ?_
    have hXo90 := (Old.step hXo83 s87)
    have E91 := (Evo.then0 E75 e86)
    have hS92 := (Sub.trans (hm72 _ ax73 hS68) (Step.up s87))
    have hN93 := (News.step (News.less hN76 u70) s87)
    have k94 := (OB.step0 (OB.less k77 (hm72 _ p63 (OB.mem k77))) s87)
    have mokept95 := (OM.step0 (OM.less mokept78 u70 (hm72 _ p64 (OM.mem mokept78))) s87)
    have mofiles96 := (OM.step0 (OM.less mofiles79 u70 (hm72 _ p65 (OM.mem mofiles79))) s87)
    have Oo97 := (OS.step0 (OS.less Oo80 u70 (hm72 _ p66 (OS.mem Oo80))) s87)
    have hokeep98 := (Sl.step (Sl.less hokeep81 u70) s87)
    have k99 := (OB.step0 (OB.less k82 (hm72 _ p67 (OB.mem k82))) s87)
    have r100 := (Sl.step r71 s87)
    obtain ⟨F101, m102, hs103⟩ := MO.pack (o_simfs_FS_mk k94 mokept95 mofiles96 Oo97 roquota15 ronow16 roinodes17 roops_18 roleft19 hokeep98 rfl p28 p29 p30 p31 p32 p33)
    have p104 := hs103 _ (Ap.cons (Ap.symm p46) (Ap.app (Ap.symm p47) (Ap.app (Ap.symm p48) (Ap.app (Ap.symm p49) (Ap.app (Ap.nil_r _) (Ap.app (Ap.nil_r _) (Ap.app (Ap.nil_r _) (Ap.app (Ap.nil_r _) (Ap.app (Ap.nil_r _) (Ap.app (Ap.nil_r _) (Ap.app (Ap.nil_r _) (Ap.nil_r _))))))))))))
    refine end_ret hQ (.tuple #[(.slice ar88 r84.length r84.length), (.int .i64 (0 : Int))]) (by kernel_rfl) ?_
    exact ⟨f_, r84, (0 : Int), hp, X69, F101, ar88, r84.length, step_of E91 hF0 hS92 hN93, rfl, m102, hr89, (by decide : inR .i64 (0 : Int))⟩

def simfs_FS_Now_p (f_ : S_simfs_FS) (Q : S_simfs_FS → Int → Prop) : Prop :=
  ((f_.pending.length ≤ 9223372036854775807) → ((inR .i64 f_.quota) → ((inR .i64 f_.now) → ((inR .i64 f_.inodes) → ((inR .i64 f_.ops_) → ((inR .i64 f_.left) → ((f_.keep.length ≤ 9223372036854775807) → Q f_ f_.now)))))))
set_option maxRecDepth 20000 in
set_option maxHeartbeats 4000000 in
theorem simfs_FS_Now_w {X : List Nat} {w : World} {f_ : S_simfs_FS} {bf_1 : Nat} {Ff_2 : List Nat} {Q : S_simfs_FS → Int → Prop} (hX0 : Old X w) (mf_3 : MO o_simfs_FS 50 Ff_2 w.heap.size X w Ff_2 bf_1 f_) (hp : simfs_FS_Now_p f_ Q) :
    Calls Tryd.prog 21 #[(.pointer (some ⟨bf_1, 0, none⟩))] w (Ret fun v w' => ∃ (m0 : S_simfs_FS) (r0 : Int), Q m0 r0 ∧ ∃ (X' : List Nat) (Fm0 : List Nat), Step X w Ff_2 X' w' ∧ v = (.int .i64 r0) ∧ MO o_simfs_FS 50 Ff_2 w.heap.size X' w' Fm0 bf_1 m0 ∧ inR .i64 r0) := by
  have hXo := hX0
  have E0 : Evo Ff_2 w w := RB.refl _ _ _
  have hS : Sub X X := Sub.refl _
  have hN : News X w X w := News.refl _ _
  have hF0 : Sub Ff_2 X := MO.mem mf_3
  unfold simfs_FS_Now_p at hp
  refine enter_ Tryd.func21 rfl 7 [(0, (.pointer (some ⟨bf_1, 0, none⟩)))] (by kernel_rfl) (fun Qe hQ => ?_)
  refine seq_ (fun _ K4 => ?_)
  refine reg_ ?_
  refine sq (o_pv (.int .i64 (0 : Int)) rfl (by kernel_rfl) ?_)
  refine nil_ ?_
  refine then_normal (K4 _ _ _ _ ?_)
  refine seq_ (fun _ K5 => ?_)
  refine reg_ ?_
  refine sq (o_pv (.pointer (some ⟨bf_1, 0, none⟩)) rfl (by kernel_rfl) ?_)
  refine sq (o_pv (.pointer (some ⟨bf_1, 0, none⟩)) rfl (by kernel_rfl) ?_)
  obtain ⟨rokept6, rofiles8, ao10, no11, co12, aokeep19, cokeep20, k22, mokept7, mofiles9, Oo13, roquota14, ronow15, roinodes16, roops_17, roleft18, hokeep21, sb23, sb24, sb25, sb26, p27, p28, p29, p30, p31, p32⟩ := o_simfs_FS_open mf_3
  replace hp := hp (OS.len Oo13)
  replace hp := hp roquota14
  replace hp := hp ronow15
  replace hp := hp roinodes16
  replace hp := hp roops_17
  replace hp := hp roleft18
  replace hp := hp (Sl.len hokeep21)
  refine sq (o_pv (.pointer (some ⟨bf_1, 4, none⟩)) rfl (by kernel_rfl) ?_)
  refine sq (o_pv (.int .i64 f_.now) rfl (x_load1 (by kernel_rfl) Tryd.isAgg3 (k22.2.1.cell' 4 rfl)) ?_)
  refine sq (o_pv (.int .i64 f_.now) rfl (by kernel_rfl) ?_)
  refine nil_ ?_
  refine then_normal (K5 _ _ _ _ ?_)
  refine wp_ret ?_
  obtain ⟨F33, m34, hs35⟩ := MO.pack (o_simfs_FS_mk k22 mokept7 mofiles9 Oo13 roquota14 ronow15 roinodes16 roops_17 roleft18 hokeep21 rfl p27 p28 p29 p30 p31 p32)
  refine end_ret hQ (.int .i64 f_.now) (by kernel_rfl) ?_
  exact ⟨f_, f_.now, hp, X, F33, step_of E0 hF0 hS hN, rfl, m34, ronow15⟩

def simfs_FS_Used_p (f_ : S_simfs_FS) (Q : S_simfs_FS → Int → Prop) : Prop :=
  ((f_.pending.length ≤ 9223372036854775807) → ((inR .i64 f_.quota) → ((inR .i64 f_.now) → ((inR .i64 f_.inodes) → ((inR .i64 f_.ops_) → ((inR .i64 f_.left) → ((f_.keep.length ≤ 9223372036854775807) → (simfs_sum_p f_.files (fun (r33 : Int) => ((inR .i64 r33) → Q f_ r33))))))))))
set_option maxRecDepth 20000 in
set_option maxHeartbeats 4000000 in
theorem simfs_FS_Used_w {X : List Nat} {w : World} {f_ : S_simfs_FS} {bf_1 : Nat} {Ff_2 : List Nat} {Q : S_simfs_FS → Int → Prop} (hX0 : Old X w) (mf_3 : MO o_simfs_FS 50 Ff_2 w.heap.size X w Ff_2 bf_1 f_) (hp : simfs_FS_Used_p f_ Q) :
    Calls Tryd.prog 22 #[(.pointer (some ⟨bf_1, 0, none⟩))] w (Ret fun v w' => ∃ (m0 : S_simfs_FS) (r0 : Int), Q m0 r0 ∧ ∃ (X' : List Nat) (Fm0 : List Nat), Step X w Ff_2 X' w' ∧ v = (.int .i64 r0) ∧ MO o_simfs_FS 50 Ff_2 w.heap.size X' w' Fm0 bf_1 m0 ∧ inR .i64 r0) := by
  have hXo := hX0
  have E0 : Evo Ff_2 w w := RB.refl _ _ _
  have hS : Sub X X := Sub.refl _
  have hN : News X w X w := News.refl _ _
  have hF0 : Sub Ff_2 X := MO.mem mf_3
  unfold simfs_FS_Used_p at hp
  refine enter_ Tryd.func22 rfl 8 [(0, (.pointer (some ⟨bf_1, 0, none⟩)))] (by kernel_rfl) (fun Qe hQ => ?_)
  refine seq_ (fun _ K4 => ?_)
  refine reg_ ?_
  refine sq (o_pv (.int .i64 (0 : Int)) rfl (by kernel_rfl) ?_)
  refine nil_ ?_
  refine then_normal (K4 _ _ _ _ ?_)
  refine seq_ (fun _ K5 => ?_)
  refine reg_ ?_
  refine sq (o_pv (.pointer (some ⟨bf_1, 0, none⟩)) rfl (by kernel_rfl) ?_)
  refine sq (o_pv (.pointer (some ⟨bf_1, 0, none⟩)) rfl (by kernel_rfl) ?_)
  obtain ⟨rokept6, rofiles8, ao10, no11, co12, aokeep19, cokeep20, k22, mokept7, mofiles9, Oo13, roquota14, ronow15, roinodes16, roops_17, roleft18, hokeep21, sb23, sb24, sb25, sb26, p27, p28, p29, p30, p31, p32⟩ := o_simfs_FS_open mf_3
  replace hp := hp (OS.len Oo13)
  replace hp := hp roquota14
  replace hp := hp ronow15
  replace hp := hp roinodes16
  replace hp := hp roops_17
  replace hp := hp roleft18
  replace hp := hp (Sl.len hokeep21)
  refine sq (o_pv (.pointer (some ⟨bf_1, 1, none⟩)) rfl (by kernel_rfl) ?_)
  refine sq (o_pv (.map (some rofiles8)) rfl (x_load1 (by kernel_rfl) Tryd.isAgg47 (k22.2.1.cell' 1 rfl)) ?_)
  refine sq (o_call 39 #[(.map (some rofiles8))] rfl (x_call Tryd.call39 (by kernel_rfl)) (simfs_sum_w (X := []) (l := f_.files) (Old.nil _) (OM.rm mofiles9) hp) ?_)
  rintro _ w34 ⟨r33, hp, e35, rfl, rr37⟩
  have s36 := Step.of0 X e35
  replace hp := hp rr37
  refine sq (o_pv (.int .i64 r33) rfl (by kernel_rfl) ?_)
  refine nil_ ?_
  refine then_normal (K5 _ _ _ _ ?_)
  refine wp_ret ?_
  have hXo38 := (Old.step hXo s36)
  have E39 := (Evo.then0 E0 e35)
  have hS40 := (Sub.trans hS (Step.up s36))
  have hN41 := (News.step hN s36)
  have k42 := (OB.step0 k22 s36)
  have mokept43 := (OM.step0 mokept7 s36)
  have mofiles44 := (OM.step0 mofiles9 s36)
  have Oo45 := (OS.step0 Oo13 s36)
  have hokeep46 := (Sl.step hokeep21 s36)
  obtain ⟨F47, m48, hs49⟩ := MO.pack (o_simfs_FS_mk k42 mokept43 mofiles44 Oo45 roquota14 ronow15 roinodes16 roops_17 roleft18 hokeep46 rfl p27 p28 p29 p30 p31 p32)
  refine end_ret hQ (.int .i64 r33) (by kernel_rfl) ?_
  exact ⟨f_, r33, hp, X, F47, step_of E39 hF0 hS40 hN41, rfl, m48, rr37⟩

def simfs_FS_Ops_p (f_ : S_simfs_FS) (Q : S_simfs_FS → Int → Prop) : Prop :=
  ((f_.pending.length ≤ 9223372036854775807) → ((inR .i64 f_.quota) → ((inR .i64 f_.now) → ((inR .i64 f_.inodes) → ((inR .i64 f_.ops_) → ((inR .i64 f_.left) → ((f_.keep.length ≤ 9223372036854775807) → Q f_ f_.ops_)))))))
set_option maxRecDepth 20000 in
set_option maxHeartbeats 4000000 in
theorem simfs_FS_Ops_w {X : List Nat} {w : World} {f_ : S_simfs_FS} {bf_1 : Nat} {Ff_2 : List Nat} {Q : S_simfs_FS → Int → Prop} (hX0 : Old X w) (mf_3 : MO o_simfs_FS 50 Ff_2 w.heap.size X w Ff_2 bf_1 f_) (hp : simfs_FS_Ops_p f_ Q) :
    Calls Tryd.prog 13 #[(.pointer (some ⟨bf_1, 0, none⟩))] w (Ret fun v w' => ∃ (m0 : S_simfs_FS) (r0 : Int), Q m0 r0 ∧ ∃ (X' : List Nat) (Fm0 : List Nat), Step X w Ff_2 X' w' ∧ v = (.int .i64 r0) ∧ MO o_simfs_FS 50 Ff_2 w.heap.size X' w' Fm0 bf_1 m0 ∧ inR .i64 r0) := by
  have hXo := hX0
  have E0 : Evo Ff_2 w w := RB.refl _ _ _
  have hS : Sub X X := Sub.refl _
  have hN : News X w X w := News.refl _ _
  have hF0 : Sub Ff_2 X := MO.mem mf_3
  unfold simfs_FS_Ops_p at hp
  refine enter_ Tryd.func13 rfl 7 [(0, (.pointer (some ⟨bf_1, 0, none⟩)))] (by kernel_rfl) (fun Qe hQ => ?_)
  refine seq_ (fun _ K4 => ?_)
  refine reg_ ?_
  refine sq (o_pv (.int .i64 (0 : Int)) rfl (by kernel_rfl) ?_)
  refine nil_ ?_
  refine then_normal (K4 _ _ _ _ ?_)
  refine seq_ (fun _ K5 => ?_)
  refine reg_ ?_
  refine sq (o_pv (.pointer (some ⟨bf_1, 0, none⟩)) rfl (by kernel_rfl) ?_)
  refine sq (o_pv (.pointer (some ⟨bf_1, 0, none⟩)) rfl (by kernel_rfl) ?_)
  obtain ⟨rokept6, rofiles8, ao10, no11, co12, aokeep19, cokeep20, k22, mokept7, mofiles9, Oo13, roquota14, ronow15, roinodes16, roops_17, roleft18, hokeep21, sb23, sb24, sb25, sb26, p27, p28, p29, p30, p31, p32⟩ := o_simfs_FS_open mf_3
  replace hp := hp (OS.len Oo13)
  replace hp := hp roquota14
  replace hp := hp ronow15
  replace hp := hp roinodes16
  replace hp := hp roops_17
  replace hp := hp roleft18
  replace hp := hp (Sl.len hokeep21)
  refine sq (o_pv (.pointer (some ⟨bf_1, 6, none⟩)) rfl (by kernel_rfl) ?_)
  refine sq (o_pv (.int .i64 f_.ops_) rfl (x_load1 (by kernel_rfl) Tryd.isAgg3 (k22.2.1.cell' 6 rfl)) ?_)
  refine sq (o_pv (.int .i64 f_.ops_) rfl (by kernel_rfl) ?_)
  refine nil_ ?_
  refine then_normal (K5 _ _ _ _ ?_)
  refine wp_ret ?_
  obtain ⟨F33, m34, hs35⟩ := MO.pack (o_simfs_FS_mk k22 mokept7 mofiles9 Oo13 roquota14 ronow15 roinodes16 roops_17 roleft18 hokeep21 rfl p27 p28 p29 p30 p31 p32)
  refine end_ret hQ (.int .i64 f_.ops_) (by kernel_rfl) ?_
  exact ⟨f_, f_.ops_, hp, X, F33, step_of E0 hF0 hS hN, rfl, m34, roops_17⟩

end Go.Proofs.YtaolmfepdmgohaaDoor
