/- Walks of functions: what each asks and computes, as a plain predicate, and the contract from it. -/
import Derived.Test.YtaolmfepdmgohaaGreatDoorChecked
import Derived.Test.YtaolmfepdmgohaaGreatDoorFp9
namespace Go.Proofs.YtaolmfepdmgohaaGreatDoor
open Go
def simfs_FS_Off_p (f_ : S_simfs_FS) (Q : S_simfs_FS → Bool → Prop) : Prop :=
 ((f_.pending.length ≤ 9223372036854775807) → ((inR .i64 f_.quota) → ((inR .i64 f_.now) → ((inR .i64 f_.inodes) → ((inR .i64 f_.ops_) → ((inR .i64 f_.left) → ((f_.keep.length ≤ 9223372036854775807) → Q f_ f_.off)))))))
set_option maxRecDepth 20000 in
set_option maxHeartbeats 4000000 in
theorem simfs_FS_Off_w {X : List Nat} {w : World} {f_ : S_simfs_FS} {z0 : Nat} {z2 : List Nat} {Q : S_simfs_FS → Bool → Prop} (y7 : Old X w) (y0 : MO o_simfs_FS 78 z2 w.heap.size X w z2 z0 f_) (hp : simfs_FS_Off_p f_ Q) :
  Calls Tryz.prog 25 #[(.pointer (some ⟨z0, 0, none⟩))] w (Ret fun v w' => ∃ (y8 : S_simfs_FS) (y9 : Bool), Q y8 y9 ∧ ∃ (X' : List Nat) (v0 : List Nat), Step X w z2 X' w' ∧ v = (.bool y9) ∧ MO o_simfs_FS 78 z2 w.heap.size X' w' v0 z0 y8) := by
 have hXo := y7
 have E0 : Evo z2 w w := RB.refl _ _ _
 have hS : Sub X X := Sub.refl _
 have hN : News X w X w := News.refl _ _
 have v1 : Sub z2 X := MO.mem y0
 unfold simfs_FS_Off_p at hp
 refine enter_ Tryz.func25 rfl 7 [(0, (.pointer (some ⟨z0, 0, none⟩)))] (by kernel_rfl) (fun Qe hQ => ?_)
 refine seq_ (fun _ u0 => ?_)
 refine reg_ ?_
 refine sq (o_pv (.bool false) rfl (by kernel_rfl) ?_)
 refine nil_ ?_
 refine then_normal (u0 _ _ _ _ ?_)
 refine seq_ (fun _ u1 => ?_)
 refine reg_ ?_
 refine sq (o_pv (.pointer (some ⟨z0, 0, none⟩)) rfl (by kernel_rfl) ?_)
 refine sq (o_pv (.pointer (some ⟨z0, 0, none⟩)) rfl (by kernel_rfl) ?_)
 obtain ⟨y6, y3, u2, u3, u4, y4, y5, y2, z9, z8, y1, z3, z7, z1, z4, z5, z6, u5, u6, u7, u9, v2, v3, v4, v5, v6, v7⟩ := o_simfs_FS_open y0
 replace hp := hp (OS.len y1)
 replace hp := hp z3
 replace hp := hp z7
 replace hp := hp z1
 replace hp := hp z4
 replace hp := hp z5
 replace hp := hp (Sl.len z6)
 refine sq (o_pv (.pointer (some ⟨z0, 7, none⟩)) rfl (by kernel_rfl) ?_)
 refine sq (o_pv (.bool f_.off) rfl (x_load1 (by kernel_rfl) Tryz.isAgg4 (y2.2.1.cell' 7 rfl)) ?_)
 refine sq (o_pv (.bool f_.off) rfl (by kernel_rfl) ?_)
 refine nil_ ?_
 refine then_normal (u1 _ _ _ _ ?_)
 refine wp_ret ?_
 obtain ⟨v8, v9, t0⟩ := MO.pack (o_simfs_FS_mk y2 z9 z8 y1 z3 z7 z1 z4 z5 z6 rfl v2 v3 v4 v5 v6 v7)
 refine end_ret hQ (.bool f_.off) (by kernel_rfl) ?_
 exact ⟨f_, f_.off, hp, X, v8, step_of E0 v1 hS hN, rfl, v9⟩
def rectolaw5_Same_p (f_ : S_simfs_FS) (d : S_rectolaw5_Disk) (Q : S_simfs_FS → S_rectolaw5_Disk → Bool → Prop) : Prop :=
 (∃ z7 : Bool → S_simfs_FS → S_rectolaw5_Disk → Prop, (∀ (y6 : Bool) (y7 : S_simfs_FS) (z0 : S_rectolaw5_Disk), z7 y6 y7 z0 → (((y6 = true) → Q y7 z0 false) ∧ ((y6 = false) → (simfs_FS_List_p y7 (fun (v4 : S_simfs_FS) (z2 : (List ByteArray)) (z9 : Int) => ((z2.length ≤ 9223372036854775807) → ((inR .i64 z9) → ((z0.kept.length ≤ 9223372036854775807) → ((z0.now.length ≤ 9223372036854775807) → ((z0.wait.length ≤ 9223372036854775807) → ((inR .i64 z0.quota) → ((inR .i64 z0.time) → ((inR .i64 z0.inode) → ((inR .i64 z0.left) → ((z0.keep.length ≤ 9223372036854775807) → ((inR .i64 z0.ops_) → (((z0.off = true) → Q v4 z0 (decide ((z9 = (13 : Int)) ∧ ((z2.length : Int) = (0 : Int))))) ∧ ((z0.off = false) → (∃ y0 : Bool → S_simfs_FS → Prop, (∀ (y8 : Bool) (y9 : S_simfs_FS), y0 y8 y9 → (((y8 = true) → Q y9 z0 false) ∧ ((y8 = false) → (∃ (y1 : Int → S_simfs_FS → Prop) (v5 : Int → S_simfs_FS → Nat), (y1 (0 : Int) y9) ∧ (∀ (z1 : Int) (y2 : S_simfs_FS), (y1 z1 y2) → (inR .i64 z1) → (((z1 < (z2.length : Int)) → ((inL z0.now z1) ∧ ((((lget z0.now z1).path).size ≤ maxLen) → ((((lget z0.now z1).data).size ≤ maxLen) → ((inR .i64 ((lget z0.now z1).mode)) → ((inR .i64 ((lget z0.now z1).time)) → ((inR .i64 ((lget z0.now z1).inode)) → ((inL z2 z1) ∧ (((lget z2 z1).size ≤ maxLen) → (simfs_FS_Read_p y2 (lget z2 z1) (fun (v9 : S_simfs_FS) (y3 : (List Int)) (z5 : Int) => ((y3.length ≤ 9223372036854775807) → ((inR .i64 z5) → ((inL z2 z1) ∧ (((lget z2 z1).size ≤ maxLen) → (simfs_FS_Stat_p v9 (lget z2 z1) (fun (z8 : S_simfs_FS) (z3 : S_simfs_Stat) (z6 : Int) => ((inR .i64 z3.Size) → ((inR .i64 z3.Time) → ((inR .i64 z3.Inode) → ((inR .i64 z3.Mode) → ((inR .i64 z6) → (∃ z4 : Bool → Prop, (∀ (y4 : Bool), z4 y4 → (((y4 = true) → Q z8 z0 false) ∧ ((y4 = false) → ((inR .i64 (z1 + (1 : Int))) ∧ ((y1 (z1 + (1 : Int)) z8) ∧ v5 (z1 + (1 : Int)) z8 < v5 z1 y2))))) ∧ ((inL z2 z1) ∧ (((lget z2 z1).size ≤ maxLen) → ((((lget z2 z1 : ByteArray) = (lget z0.now z1).path) → ((inR .i64 (z5 + z6)) ∧ ((((z5 + z6) = (0 : Int)) → ((((strOfNums y3 : ByteArray) = (lget z0.now z1).data) → (((z3.Size = (((lget z0.now z1).data).size : Int)) → (((z3.Time = ((lget z0.now z1).time)) → (((z3.Inode = ((lget z0.now z1).inode)) → (z4 (!decide (z3.Mode = ((lget z0.now z1).mode))))) ∧ ((¬ (z3.Inode = ((lget z0.now z1).inode))) → (z4 true)))) ∧ ((¬ (z3.Time = ((lget z0.now z1).time))) → (z4 true)))) ∧ ((¬ (z3.Size = (((lget z0.now z1).data).size : Int))) → (z4 true)))) ∧ ((¬ ((strOfNums y3 : ByteArray) = (lget z0.now z1).data)) → (z4 true)))) ∧ ((¬ ((z5 + z6) = (0 : Int))) → (z4 true))))) ∧ ((¬ ((lget z2 z1 : ByteArray) = (lget z0.now z1).path)) → (z4 true)))))))))))))))))))))))))))) ∧ ((¬ (z1 < (z2.length : Int))) → Q y2 z0 true))))))) ∧ (simfs_FS_Used_p v4 (fun (y5 : S_simfs_FS) (v0 : Int) => ((inR .i64 v0) → (rectolaw5_used_p z0.now (fun (v1 : Int) => ((inR .i64 v1) → (((v0 = v1) → (((z9 = (0 : Int)) → (y0 (!decide ((z2.length : Int) = (z0.now.length : Int))) y5)) ∧ ((¬ (z9 = (0 : Int))) → (y0 true y5)))) ∧ ((¬ (v0 = v1)) → (y0 true y5)))))))))))))))))))))))))))) ∧ ((d.kept.length ≤ 9223372036854775807) → ((d.now.length ≤ 9223372036854775807) → ((d.wait.length ≤ 9223372036854775807) → ((inR .i64 d.quota) → ((inR .i64 d.time) → ((inR .i64 d.inode) → ((inR .i64 d.left) → ((d.keep.length ≤ 9223372036854775807) → ((inR .i64 d.ops_) → (simfs_FS_Off_p f_ (fun (v6 : S_simfs_FS) (u0 : Bool) => ((((u0 : Bool) = d.off) → (simfs_FS_Pending_p v6 (fun (v7 : S_simfs_FS) (v2 : Int) => ((inR .i64 v2) → (((v2 = (d.wait.length : Int)) → (simfs_FS_Now_p v7 (fun (v8 : S_simfs_FS) (v3 : Int) => ((inR .i64 v3) → (((v3 = d.time) → (simfs_FS_Ops_p v8 (fun (u2 : S_simfs_FS) (u1 : Int) => ((inR .i64 u1) → (z7 (!decide (u1 = d.ops_)) u2 d))))) ∧ ((¬ (v3 = d.time)) → (z7 true v8 d))))))) ∧ ((¬ (v2 = (d.wait.length : Int))) → (z7 true v7 d))))))) ∧ ((¬ ((u0 : Bool) = d.off)) → (z7 true v6 d)))))))))))))))
set_option maxRecDepth 20000 in
set_option maxHeartbeats 4000000 in
theorem rectolaw5_Same_w {X : List Nat} {w : World} {f_ : S_simfs_FS} {d : S_rectolaw5_Disk} {z8 : Nat} {z4 : List Nat} {z7 : Nat} {v6 : List Nat} {Q : S_simfs_FS → S_rectolaw5_Disk → Bool → Prop} (C01 : Old X w) (V5 : MO o_simfs_FS 78 (z4 ++ v6) w.heap.size X w z4 z8 f_) (f00 : MO o_rectolaw5_Disk 31 (z4 ++ v6) w.heap.size X w v6 z7 d) (hap : Ap z4 v6) (hp : rectolaw5_Same_p f_ d Q) :
  Calls Tryz.prog 13 #[(.pointer (some ⟨z8, 0, none⟩)), (.pointer (some ⟨z7, 0, none⟩))] w (Ret fun v w' => ∃ (B01 : S_simfs_FS) (E01 : S_rectolaw5_Disk) (F01 : Bool), Q B01 E01 F01 ∧ ∃ (X' : List Nat) (p00 : List Nat) (Z00 : List Nat), Step X w (z4 ++ v6) X' w' ∧ v = (.bool F01) ∧ MO o_simfs_FS 78 (z4 ++ v6) w.heap.size X' w' p00 z8 B01 ∧ MO o_rectolaw5_Disk 31 (z4 ++ v6) w.heap.size X' w' Z00 z7 E01 ∧ Ap p00 Z00) := by
 have hXo := C01
 have E0 : Evo (z4 ++ v6) w w := RB.refl _ _ _
 have hS : Sub X X := Sub.refl _
 have hN : News X w X w := News.refl _ _
 have f3 : Sub (z4 ++ v6) X := Sub.app (MO.mem V5) (MO.mem f00)
 unfold rectolaw5_Same_p at hp
 refine enter_ Tryz.func13 rfl 166 [(0, (.pointer (some ⟨z8, 0, none⟩))), (1, (.pointer (some ⟨z7, 0, none⟩)))] (by kernel_rfl) (fun Qe hQ => ?_)
 refine seq_ (fun _ f02 => ?_)
 refine reg_ ?_
 refine sq (o_pv (.bool false) rfl (by kernel_rfl) ?_)
 refine nil_ ?_
 refine then_normal (f02 _ _ _ _ ?_)
 refine seq_ (fun _ p02 => ?_)
 refine seq_ (fun _ Z02 => ?_)
 obtain ⟨R00, C2, hp⟩ := hp
 refine ground_ ?_
 refine join_ 281474976702464 (fun lq g2 => ∃ (q3 : List Nat) (m5 : Bool) (g3 : S_simfs_FS) (z0 : S_rectolaw5_Disk) (c2 : List Nat) (c3 : List Nat), (lq = [(47, (.bool m5))]) ∧ (Evo (z4 ++ v6) w g2) ∧ (Old q3 g2) ∧ (Sub X q3) ∧ (News X w q3 g2) ∧ (MO o_simfs_FS 78 (z4 ++ v6) w.heap.size q3 g2 c2 z8 g3) ∧ (MO o_rectolaw5_Disk 31 (z4 ++ v6) w.heap.size q3 g2 c3 z7 z0) ∧ (Ap (c2) (c3)) ∧ (R00 m5 g3 z0)) (fun j02 l1 => ?_) ?_
 ·
  obtain ⟨Y00, V00, P00, N00, f4, f5, U00, T00, M00, g5, m6, g6, u7, s2, u9, s3, g7, s4, C3⟩ := o_rectolaw5_Disk_open f00
  have k5 := Ap.subr hap C3
  replace hp := hp (Sl.len g5)
  replace hp := hp (Sl.len m6)
  replace hp := hp (Sl.len g6)
  replace hp := hp u7
  replace hp := hp s2
  replace hp := hp u9
  replace hp := hp s3
  replace hp := hp (Sl.len g7)
  replace hp := hp s4
  have j2 : Sub z4 X := (MO.mem V5)
  refine reg_drawn (RB w.heap.size z4) 35 (by kernel_rfl) (fun K2 c4 => ?_)
  have L00 := Evo.of_drew c4
  have s9 : K2.heap.size = w.heap.size := by rw [c4]
  clear c4
  have r7 := Step.of0 X L00
  have l2 := RB.refl w.heap.size z4 K2
  have j3 := (MO.step0 V5 r7)
  have m7 := (Old.step hXo r7)
  have V6 := (Evo.then0 E0 (Step.evo r7))
  have R7 := (Sub.trans hS (Step.up r7))
  have R8 := (News.step hN r7)
  have k6 := (OB.step0 M00 r7)
  have g8 := (Sl.step g5 r7)
  have m8 := (Sl.step m6 r7)
  have g9 := (Sl.step g6 r7)
  have d0 := (Sl.step g7 r7)
  refine r_take 0 (.pointer (some ⟨z8, 0, none⟩)) (RB.pre _ _) rfl (by kernel_rfl) (fun _ _ _ h => hQ.panic _ _ _ _ _ h) (.inl ⟨rfl, fun wq hq => (by kernel_rfl)⟩) ?_
  refine r_take 2 (.pointer (some ⟨z7, 0, none⟩)) (RB.pre _ _) rfl (by kernel_rfl) (fun _ _ _ h => hQ.panic _ _ _ _ _ h) (.inl ⟨rfl, fun wq hq => (by kernel_rfl)⟩) ?_
  refine r_take 3 (.pointer (some ⟨z7, 0, none⟩)) (RB.pre _ _) rfl (by kernel_rfl) (fun _ _ _ h => hQ.panic _ _ _ _ _ h) (.inl ⟨rfl, fun wq hq => (by kernel_rfl)⟩) ?_
  refine r_take 4 (.pointer (some ⟨z7, 6, none⟩)) (RB.pre _ _) rfl (by kernel_rfl) (fun _ _ _ h => hQ.panic _ _ _ _ _ h) (.inl ⟨rfl, fun wq hq => (by kernel_rfl)⟩) ?_
  refine r_take 5 (.bool d.off) (RB.pre _ _) rfl (by kernel_rfl) (fun _ _ _ h => hQ.panic _ _ _ _ _ h) (.inl ⟨rfl, fun wq hq => (x_load1 (by kernel_rfl) Tryz.isAgg4 ((OB.step k6 (stepR (RB.trans l2 hq) s9 j2) (Ap.symm k5)).2.1.cell' 6 rfl))⟩) ?_
  refine r_ready [1] (by kernel_rfl) rfl (all_cons ⟨_, _, _, _, _, _, rfl, ?_⟩ all_nil)
  refine o_call 25 #[(.pointer (some ⟨z8, 0, none⟩))] rfl (x_call Tryz.call25 (by kernel_rfl)) (simfs_FS_Off_w (X := X) (f_ := f_) m7 (MO.re j3 (Wr.self _ _ (Sub.refl _))) hp) ?_
  rintro _ Y02 ⟨R9, m9, hp, K3, K4, y1, rfl, c5⟩
  have rm := RB.mono (F' := z4) (Step.evo y1) (Nat.le_trans (Nat.le_of_eq s9.symm) (RB.size l2)) (Wr.self _ _ (Sub.refl _))
  have l3 := RB.trans l2 rm
  refine ⟨fun _ => rm, ?_⟩
  have P0 : Wr z4 w.heap.size K4 := Wr.trans c5.wr (Wr.self _ _ (Sub.refl _)) (Nat.le_trans (Nat.le_of_eq s9.symm) (RB.size l2))
  have n0 := MO.re c5 (Wr.trans c5.wr j3.wr V6.size)
  have c6 := Ap.grow c5.wr (Ap.symm k5) (OB.old k6) (Nat.le_refl _)
  by_cases c7 : (m9 : Bool) = d.off
  ·
   replace hp := hp.1 c7
   refine r_take 6 (.bool false) (RB.pre _ _) rfl (by kernel_rfl) (fun _ _ _ h => hQ.panic _ _ _ _ _ h) (.inl ⟨rfl, fun wq hq => (x_ndf (p := (m9 : Bool) = d.off) (x_boolne (a := m9) (b := d.off) Tryz.underlying4 (by kernel_rfl) (by kernel_rfl)) c7)⟩) ?_
   refine r_take 7 (.bool false) (RB.pre _ _) rfl (by kernel_rfl) (fun _ _ _ h => hQ.panic _ _ _ _ _ h) (.inl ⟨rfl, fun wq hq => (by kernel_rfl)⟩) ?_
   refine r_take 8 (.pointer (some ⟨z8, 0, none⟩)) (RB.pre _ _) rfl (by kernel_rfl) (fun _ _ _ h => hQ.panic _ _ _ _ _ h) (.inl ⟨(by kernel_rfl), fun wq hq => (by kernel_rfl)⟩) ?_
   refine r_take 10 (.pointer (some ⟨z7, 0, none⟩)) (RB.pre _ _) rfl (by kernel_rfl) (fun _ _ _ h => hQ.panic _ _ _ _ _ h) (.inl ⟨(by kernel_rfl), fun wq hq => (by kernel_rfl)⟩) ?_
   refine r_take 11 (.pointer (some ⟨z7, 0, none⟩)) (RB.pre _ _) rfl (by kernel_rfl) (fun _ _ _ h => hQ.panic _ _ _ _ _ h) (.inl ⟨(by kernel_rfl), fun wq hq => (by kernel_rfl)⟩) ?_
   refine r_take 12 (.pointer (some ⟨z7, 2, none⟩)) (RB.pre _ _) rfl (by kernel_rfl) (fun _ _ _ h => hQ.panic _ _ _ _ _ h) (.inl ⟨(by kernel_rfl), fun wq hq => (by kernel_rfl)⟩) ?_
   refine r_take 13 (.slice f4 d.wait.length f5) (RB.pre _ _) rfl (by kernel_rfl) (fun _ _ _ h => hQ.panic _ _ _ _ _ h) (.inl ⟨(by kernel_rfl), fun wq hq => (x_load1 (by kernel_rfl) Tryz.isAgg28 ((OB.step k6 (stepR (RB.trans l3 hq) s9 j2) (Ap.symm k5)).2.1.cell' 2 rfl))⟩) ?_
   refine r_take 14 (.int .i64 (d.wait.length : Int)) (RB.pre _ _) rfl (by kernel_rfl) (fun _ _ _ h => hQ.panic _ _ _ _ _ h) (.inl ⟨(by kernel_rfl), fun wq hq => (by kernel_rfl)⟩) ?_
   refine r_ready [9] (by kernel_rfl) rfl (all_cons ⟨_, _, _, _, _, _, rfl, ?_⟩ all_nil)
   have n1 := (Old.step m7 y1)
   have V7 := (Evo.thenW V6 (Step.evo y1) j3.wr)
   have P1 := (Sub.trans R7 (Step.up y1))
   have P2 := (News.step R8 y1)
   have V8 := (OB.step k6 y1 (Ap.symm k5))
   have d1 := (Sl.step g8 y1)
   have n2 := (Sl.step m8 y1)
   have d2 := (Sl.step g9 y1)
   have d3 := (Sl.step d0 y1)
   refine o_call 29 #[(.pointer (some ⟨z8, 0, none⟩))] (by kernel_rfl) (x_call Tryz.call29 (by kernel_rfl)) (simfs_FS_Pending_w (X := K3) (f_ := R9) n1 (MO.re n0 (Wr.self _ _ (Sub.refl _))) hp) ?_
   rintro _ V02 ⟨P3, V9, hp, K5, K6, y2, rfl, c8, C4⟩
   have rm := RB.mono (F' := z4) (Step.evo y2) (Nat.le_trans (Nat.le_of_eq s9.symm) (RB.size l3)) P0
   have l4 := RB.trans l3 rm
   refine ⟨fun _ => rm, ?_⟩
   have P4 : Wr z4 w.heap.size K6 := Wr.trans c8.wr P0 (Nat.le_trans (Nat.le_of_eq s9.symm) (RB.size l3))
   have n3 := MO.re c8 (Wr.trans c8.wr n0.wr V7.size)
   have c9 := Ap.grow c8.wr c6 (OB.old V8) (Nat.le_refl _)
   replace hp := hp C4
   by_cases a0 : V9 = (d.wait.length : Int)
   ·
    replace hp := hp.1 a0
    refine r_take 15 (.bool false) (RB.pre _ _) rfl (by kernel_rfl) (fun _ _ _ h => hQ.panic _ _ _ _ _ h) (.inl ⟨(by kernel_rfl), fun wq hq => (x_ndf (p := V9 = (d.wait.length : Int)) (by kernel_rfl) a0)⟩) ?_
    refine r_take 16 (.bool false) (RB.pre _ _) rfl (by kernel_rfl) (fun _ _ _ h => hQ.panic _ _ _ _ _ h) (.inl ⟨rfl, fun wq hq => (by kernel_rfl)⟩) ?_
    refine r_take 17 (.bool false) (RB.pre _ _) rfl (by kernel_rfl) (fun _ _ _ h => hQ.panic _ _ _ _ _ h) (.inl ⟨rfl, fun wq hq => (by kernel_rfl)⟩) ?_
    refine r_take 18 (.pointer (some ⟨z8, 0, none⟩)) (RB.pre _ _) rfl (by kernel_rfl) (fun _ _ _ h => hQ.panic _ _ _ _ _ h) (.inl ⟨(by kernel_rfl), fun wq hq => (by kernel_rfl)⟩) ?_
    refine r_take 20 (.pointer (some ⟨z7, 0, none⟩)) (RB.pre _ _) rfl (by kernel_rfl) (fun _ _ _ h => hQ.panic _ _ _ _ _ h) (.inl ⟨(by kernel_rfl), fun wq hq => (by kernel_rfl)⟩) ?_
    refine r_take 21 (.pointer (some ⟨z7, 0, none⟩)) (RB.pre _ _) rfl (by kernel_rfl) (fun _ _ _ h => hQ.panic _ _ _ _ _ h) (.inl ⟨(by kernel_rfl), fun wq hq => (by kernel_rfl)⟩) ?_
    refine r_take 22 (.pointer (some ⟨z7, 4, none⟩)) (RB.pre _ _) rfl (by kernel_rfl) (fun _ _ _ h => hQ.panic _ _ _ _ _ h) (.inl ⟨(by kernel_rfl), fun wq hq => (by kernel_rfl)⟩) ?_
    refine r_take 23 (.int .i64 d.time) (RB.pre _ _) rfl (by kernel_rfl) (fun _ _ _ h => hQ.panic _ _ _ _ _ h) (.inl ⟨(by kernel_rfl), fun wq hq => (x_load1 (by kernel_rfl) Tryz.isAgg3 ((OB.step k6 (stepR (RB.trans l4 hq) s9 j2) (Ap.symm k5)).2.1.cell' 4 rfl))⟩) ?_
    refine r_ready [19] (by kernel_rfl) rfl (all_cons ⟨_, _, _, _, _, _, rfl, ?_⟩ all_nil)
    have n4 := (Old.step n1 y2)
    have U0 := (Evo.thenW V7 (Step.evo y2) n0.wr)
    have P5 := (Sub.trans P1 (Step.up y2))
    have P6 := (News.step P2 y2)
    have U1 := (OB.step V8 y2 c6)
    have d4 := (Sl.step d1 y2)
    have n5 := (Sl.step n2 y2)
    have d5 := (Sl.step d2 y2)
    have d6 := (Sl.step d3 y2)
    refine o_call 33 #[(.pointer (some ⟨z8, 0, none⟩))] (by kernel_rfl) (x_call Tryz.call33 (by kernel_rfl)) (simfs_FS_Now_w (X := K5) (f_ := P3) n4 (MO.re n3 (Wr.self _ _ (Sub.refl _))) hp) ?_
    rintro _ U02 ⟨P7, U2, hp, K7, K8, y3, rfl, a1, C5⟩
    have rm := RB.mono (F' := z4) (Step.evo y3) (Nat.le_trans (Nat.le_of_eq s9.symm) (RB.size l4)) P4
    have a2 := RB.trans l4 rm
    refine ⟨fun _ => rm, ?_⟩
    have P8 : Wr z4 w.heap.size K8 := Wr.trans a1.wr P4 (Nat.le_trans (Nat.le_of_eq s9.symm) (RB.size l4))
    have a3 := MO.re a1 (Wr.trans a1.wr n3.wr U0.size)
    have U3 := Ap.grow a1.wr c9 (OB.old U1) (Nat.le_refl _)
    replace hp := hp C5
    by_cases a4 : U2 = d.time
    ·
     replace hp := hp.1 a4
     refine r_take 24 (.bool false) (RB.pre _ _) rfl (by kernel_rfl) (fun _ _ _ h => hQ.panic _ _ _ _ _ h) (.inl ⟨(by kernel_rfl), fun wq hq => (x_ndf (p := U2 = d.time) (by kernel_rfl) a4)⟩) ?_
     refine r_take 25 (.bool false) (RB.pre _ _) rfl (by kernel_rfl) (fun _ _ _ h => hQ.panic _ _ _ _ _ h) (.inl ⟨rfl, fun wq hq => (by kernel_rfl)⟩) ?_
     refine r_take 26 (.bool false) (RB.pre _ _) rfl (by kernel_rfl) (fun _ _ _ h => hQ.panic _ _ _ _ _ h) (.inl ⟨rfl, fun wq hq => (by kernel_rfl)⟩) ?_
     refine r_take 27 (.pointer (some ⟨z8, 0, none⟩)) (RB.pre _ _) rfl (by kernel_rfl) (fun _ _ _ h => hQ.panic _ _ _ _ _ h) (.inl ⟨(by kernel_rfl), fun wq hq => (by kernel_rfl)⟩) ?_
     refine r_take 29 (.pointer (some ⟨z7, 0, none⟩)) (RB.pre _ _) rfl (by kernel_rfl) (fun _ _ _ h => hQ.panic _ _ _ _ _ h) (.inl ⟨(by kernel_rfl), fun wq hq => (by kernel_rfl)⟩) ?_
     refine r_take 30 (.pointer (some ⟨z7, 0, none⟩)) (RB.pre _ _) rfl (by kernel_rfl) (fun _ _ _ h => hQ.panic _ _ _ _ _ h) (.inl ⟨(by kernel_rfl), fun wq hq => (by kernel_rfl)⟩) ?_
     refine r_take 31 (.pointer (some ⟨z7, 10, none⟩)) (RB.pre _ _) rfl (by kernel_rfl) (fun _ _ _ h => hQ.panic _ _ _ _ _ h) (.inl ⟨(by kernel_rfl), fun wq hq => (by kernel_rfl)⟩) ?_
     refine r_take 32 (.int .i64 d.ops_) (RB.pre _ _) rfl (by kernel_rfl) (fun _ _ _ h => hQ.panic _ _ _ _ _ h) (.inl ⟨(by kernel_rfl), fun wq hq => (x_load1 (by kernel_rfl) Tryz.isAgg3 ((OB.step k6 (stepR (RB.trans a2 hq) s9 j2) (Ap.symm k5)).2.1.cell' 10 rfl))⟩) ?_
     refine r_ready [28] (by kernel_rfl) rfl (all_cons ⟨_, _, _, _, _, _, rfl, ?_⟩ all_nil)
     have f6 := (Old.step n4 y3)
     have K9 := (Evo.thenW U0 (Step.evo y3) n3.wr)
     have C6 := (Sub.trans P5 (Step.up y3))
     have C7 := (News.step P6 y3)
     have J0 := (OB.step U1 y3 c9)
     have f7 := (Sl.step d4 y3)
     have U4 := (Sl.step n5 y3)
     have f8 := (Sl.step d5 y3)
     have f9 := (Sl.step d6 y3)
     refine o_call 26 #[(.pointer (some ⟨z8, 0, none⟩))] (by kernel_rfl) (x_call Tryz.call26 (by kernel_rfl)) (simfs_FS_Ops_w (X := K7) (f_ := P7) f6 (MO.re a3 (Wr.self _ _ (Sub.refl _))) hp) ?_
     rintro _ T02 ⟨C8, a5, hp, K00, J1, r8, rfl, a6, C9⟩
     have rm := RB.mono (F' := z4) (Step.evo r8) (Nat.le_trans (Nat.le_of_eq s9.symm) (RB.size a2)) P8
     refine ⟨fun _ => rm, ?_⟩
     have g02 : Wr z4 w.heap.size J1 := Wr.trans a6.wr P8 (Nat.le_trans (Nat.le_of_eq s9.symm) (RB.size a2))
     have J00 := MO.re a6 (Wr.trans a6.wr a3.wr K9.size)
     have I00 := Ap.grow a6.wr U3 (OB.old J0) (Nat.le_refl _)
     replace hp := hp C9
     refine r_take 33 (.bool (!decide (a5 = d.ops_))) (RB.pre _ _) rfl (by kernel_rfl) (fun _ _ _ h => hQ.panic _ _ _ _ _ h) (.inl ⟨(by kernel_rfl), fun wq hq => (by kernel_rfl)⟩) ?_
     refine r_take 34 (.bool (!decide (a5 = d.ops_))) (RB.pre _ _) rfl (by kernel_rfl) (fun _ _ _ h => hQ.panic _ _ _ _ _ h) (.inl ⟨rfl, fun wq hq => (by kernel_rfl)⟩) ?_
     refine r_done (by kernel_rfl) ?_
     have J2 := (Old.step f6 r8)
     have H00 := (Evo.thenW K9 (Step.evo r8) a3.wr)
     have B0 := (Sub.trans C6 (Step.up r8))
     have B1 := (News.step C7 r8)
     have G00 := (OB.step J0 r8 U3)
     have p0 := (Sl.step f7 r8)
     have U5 := (Sl.step U4 r8)
     have p1 := (Sl.step f8 r8)
     have p2 := (Sl.step f9 r8)
     obtain ⟨D00, C00, B2⟩ := MO.pack (o_rectolaw5_Disk_mk G00 p0 rfl U5 rfl p1 rfl u7 s2 u9 s3 p2 rfl s4)
     have B00 := B2 _ (Ap.cons (Ap.symm I00) (Ap.app (Ap.nil_r _) (Ap.app (Ap.nil_r _) (Ap.app (Ap.nil_r _) (Ap.app (Ap.nil_r _) (Ap.app (Ap.nil_r _) (Ap.app (Ap.nil_r _) (Ap.app (Ap.nil_r _) (Ap.app (Ap.nil_r _) (Ap.app (Ap.nil_r _) (Ap.app (Ap.nil_r _) (Ap.nil_r _))))))))))))
     refine then_normal (l1 _ _ _ ⟨[(47, (.bool (!decide (a5 = d.ops_))))], fit_mk (fun _ _ => rfl) (by kernel_rfl) (vs_cons (by kernel_rfl) vs_nil), ?_⟩)
     exact ⟨K00, (!decide (a5 = d.ops_)), C8, d, J1, D00, rfl, H00, J2, B0, B1, J00, C00, B00, hp⟩
    ·
     replace hp := hp.2 a4
     refine r_take 24 (.bool true) (RB.pre _ _) rfl (by kernel_rfl) (fun _ _ _ h => hQ.panic _ _ _ _ _ h) (.inl ⟨(by kernel_rfl), fun wq hq => (x_ndt (p := U2 = d.time) (by kernel_rfl) a4)⟩) ?_
     refine r_take 25 (.bool true) (RB.pre _ _) rfl (by kernel_rfl) (fun _ _ _ h => hQ.panic _ _ _ _ _ h) (.inl ⟨rfl, fun wq hq => (by kernel_rfl)⟩) ?_
     refine r_take 26 (.bool true) (RB.pre _ _) rfl (by kernel_rfl) (fun _ _ _ h => hQ.panic _ _ _ _ _ h) (.inl ⟨rfl, fun wq hq => (by kernel_rfl)⟩) ?_
     refine r_take 27 undef (RB.pre _ _) rfl (by kernel_rfl) (fun _ _ _ h => hQ.panic _ _ _ _ _ h) (.inr ⟨by kernel_rfl, rfl⟩) ?_
     refine r_take 28 undef (RB.pre _ _) rfl (by kernel_rfl) (fun _ _ _ h => hQ.panic _ _ _ _ _ h) (.inr ⟨by kernel_rfl, rfl⟩) ?_
     refine r_take 29 undef (RB.pre _ _) rfl (by kernel_rfl) (fun _ _ _ h => hQ.panic _ _ _ _ _ h) (.inr ⟨by kernel_rfl, rfl⟩) ?_
     refine r_take 30 undef (RB.pre _ _) rfl (by kernel_rfl) (fun _ _ _ h => hQ.panic _ _ _ _ _ h) (.inr ⟨by kernel_rfl, rfl⟩) ?_
     refine r_take 31 undef (RB.pre _ _) rfl (by kernel_rfl) (fun _ _ _ h => hQ.panic _ _ _ _ _ h) (.inr ⟨by kernel_rfl, rfl⟩) ?_
     refine r_take 32 undef (RB.pre _ _) rfl (by kernel_rfl) (fun _ _ _ h => hQ.panic _ _ _ _ _ h) (.inr ⟨by kernel_rfl, rfl⟩) ?_
     refine r_take 33 undef (RB.pre _ _) rfl (by kernel_rfl) (fun _ _ _ h => hQ.panic _ _ _ _ _ h) (.inr ⟨by kernel_rfl, rfl⟩) ?_
     refine r_take 34 (.bool true) (RB.pre _ _) rfl (by kernel_rfl) (fun _ _ _ h => hQ.panic _ _ _ _ _ h) (.inl ⟨rfl, fun wq hq => (by kernel_rfl)⟩) ?_
     refine r_done (by kernel_rfl) ?_
     have J3 := (Old.step n4 y3)
     have E00 := (Evo.thenW U0 (Step.evo y3) n3.wr)
     have B3 := (Sub.trans P5 (Step.up y3))
     have B4 := (News.step P6 y3)
     have F00 := (OB.step U1 y3 c9)
     have p3 := (Sl.step d4 y3)
     have U6 := (Sl.step n5 y3)
     have p4 := (Sl.step d5 y3)
     have p5 := (Sl.step d6 y3)
     obtain ⟨O00, S00, B5⟩ := MO.pack (o_rectolaw5_Disk_mk F00 p3 rfl U6 rfl p4 rfl u7 s2 u9 s3 p5 rfl s4)
     have A00 := B5 _ (Ap.cons (Ap.symm U3) (Ap.app (Ap.nil_r _) (Ap.app (Ap.nil_r _) (Ap.app (Ap.nil_r _) (Ap.app (Ap.nil_r _) (Ap.app (Ap.nil_r _) (Ap.app (Ap.nil_r _) (Ap.app (Ap.nil_r _) (Ap.app (Ap.nil_r _) (Ap.app (Ap.nil_r _) (Ap.app (Ap.nil_r _) (Ap.nil_r _))))))))))))
     refine then_normal (l1 _ _ _ ⟨[(47, (.bool true))], fit_mk (fun _ _ => rfl) (by kernel_rfl) (vs_cons (by kernel_rfl) vs_nil), ?_⟩)
     exact ⟨K7, true, P7, d, K8, O00, rfl, E00, J3, B3, B4, a3, S00, A00, hp⟩
   ·
    replace hp := hp.2 a0
    refine r_take 15 (.bool true) (RB.pre _ _) rfl (by kernel_rfl) (fun _ _ _ h => hQ.panic _ _ _ _ _ h) (.inl ⟨(by kernel_rfl), fun wq hq => (x_ndt (p := V9 = (d.wait.length : Int)) (by kernel_rfl) a0)⟩) ?_
    refine r_take 16 (.bool true) (RB.pre _ _) rfl (by kernel_rfl) (fun _ _ _ h => hQ.panic _ _ _ _ _ h) (.inl ⟨rfl, fun wq hq => (by kernel_rfl)⟩) ?_
    refine r_take 17 (.bool true) (RB.pre _ _) rfl (by kernel_rfl) (fun _ _ _ h => hQ.panic _ _ _ _ _ h) (.inl ⟨rfl, fun wq hq => (by kernel_rfl)⟩) ?_
    refine r_take 18 undef (RB.pre _ _) rfl (by kernel_rfl) (fun _ _ _ h => hQ.panic _ _ _ _ _ h) (.inr ⟨by kernel_rfl, rfl⟩) ?_
    refine r_take 19 undef (RB.pre _ _) rfl (by kernel_rfl) (fun _ _ _ h => hQ.panic _ _ _ _ _ h) (.inr ⟨by kernel_rfl, rfl⟩) ?_
    refine r_take 20 undef (RB.pre _ _) rfl (by kernel_rfl) (fun _ _ _ h => hQ.panic _ _ _ _ _ h) (.inr ⟨by kernel_rfl, rfl⟩) ?_
    refine r_take 21 undef (RB.pre _ _) rfl (by kernel_rfl) (fun _ _ _ h => hQ.panic _ _ _ _ _ h) (.inr ⟨by kernel_rfl, rfl⟩) ?_
    refine r_take 22 undef (RB.pre _ _) rfl (by kernel_rfl) (fun _ _ _ h => hQ.panic _ _ _ _ _ h) (.inr ⟨by kernel_rfl, rfl⟩) ?_
    refine r_take 23 undef (RB.pre _ _) rfl (by kernel_rfl) (fun _ _ _ h => hQ.panic _ _ _ _ _ h) (.inr ⟨by kernel_rfl, rfl⟩) ?_
    refine r_take 24 undef (RB.pre _ _) rfl (by kernel_rfl) (fun _ _ _ h => hQ.panic _ _ _ _ _ h) (.inr ⟨by kernel_rfl, rfl⟩) ?_
    refine r_take 25 (.bool true) (RB.pre _ _) rfl (by kernel_rfl) (fun _ _ _ h => hQ.panic _ _ _ _ _ h) (.inl ⟨rfl, fun wq hq => (by kernel_rfl)⟩) ?_
    refine r_take 26 (.bool true) (RB.pre _ _) rfl (by kernel_rfl) (fun _ _ _ h => hQ.panic _ _ _ _ _ h) (.inl ⟨rfl, fun wq hq => (by kernel_rfl)⟩) ?_
    refine r_take 27 undef (RB.pre _ _) rfl (by kernel_rfl) (fun _ _ _ h => hQ.panic _ _ _ _ _ h) (.inr ⟨by kernel_rfl, rfl⟩) ?_
    refine r_take 28 undef (RB.pre _ _) rfl (by kernel_rfl) (fun _ _ _ h => hQ.panic _ _ _ _ _ h) (.inr ⟨by kernel_rfl, rfl⟩) ?_
    refine r_take 29 undef (RB.pre _ _) rfl (by kernel_rfl) (fun _ _ _ h => hQ.panic _ _ _ _ _ h) (.inr ⟨by kernel_rfl, rfl⟩) ?_
    refine r_take 30 undef (RB.pre _ _) rfl (by kernel_rfl) (fun _ _ _ h => hQ.panic _ _ _ _ _ h) (.inr ⟨by kernel_rfl, rfl⟩) ?_
    refine r_take 31 undef (RB.pre _ _) rfl (by kernel_rfl) (fun _ _ _ h => hQ.panic _ _ _ _ _ h) (.inr ⟨by kernel_rfl, rfl⟩) ?_
    refine r_take 32 undef (RB.pre _ _) rfl (by kernel_rfl) (fun _ _ _ h => hQ.panic _ _ _ _ _ h) (.inr ⟨by kernel_rfl, rfl⟩) ?_
    refine r_take 33 undef (RB.pre _ _) rfl (by kernel_rfl) (fun _ _ _ h => hQ.panic _ _ _ _ _ h) (.inr ⟨by kernel_rfl, rfl⟩) ?_
    refine r_take 34 (.bool true) (RB.pre _ _) rfl (by kernel_rfl) (fun _ _ _ h => hQ.panic _ _ _ _ _ h) (.inl ⟨rfl, fun wq hq => (by kernel_rfl)⟩) ?_
    refine r_done (by kernel_rfl) ?_
    have J4 := (Old.step n1 y2)
    have W00 := (Evo.thenW V7 (Step.evo y2) n0.wr)
    have B6 := (Sub.trans P1 (Step.up y2))
    have B7 := (News.step P2 y2)
    have z01 := (OB.step V8 y2 c6)
    have p6 := (Sl.step d1 y2)
    have U7 := (Sl.step n2 y2)
    have p7 := (Sl.step d2 y2)
    have p8 := (Sl.step d3 y2)
    obtain ⟨y01, v01, B8⟩ := MO.pack (o_rectolaw5_Disk_mk z01 p6 rfl U7 rfl p7 rfl u7 s2 u9 s3 p8 rfl s4)
    have u01 := B8 _ (Ap.cons (Ap.symm c9) (Ap.app (Ap.nil_r _) (Ap.app (Ap.nil_r _) (Ap.app (Ap.nil_r _) (Ap.app (Ap.nil_r _) (Ap.app (Ap.nil_r _) (Ap.app (Ap.nil_r _) (Ap.app (Ap.nil_r _) (Ap.app (Ap.nil_r _) (Ap.app (Ap.nil_r _) (Ap.app (Ap.nil_r _) (Ap.nil_r _))))))))))))
    refine then_normal (l1 _ _ _ ⟨[(47, (.bool true))], fit_mk (fun _ _ => rfl) (by kernel_rfl) (vs_cons (by kernel_rfl) vs_nil), ?_⟩)
    exact ⟨K5, true, P3, d, K6, y01, rfl, W00, J4, B6, B7, n3, v01, u01, hp⟩
  ·
   replace hp := hp.2 c7
   refine r_take 6 (.bool true) (RB.pre _ _) rfl (by kernel_rfl) (fun _ _ _ h => hQ.panic _ _ _ _ _ h) (.inl ⟨rfl, fun wq hq => (x_ndt (p := (m9 : Bool) = d.off) (x_boolne (a := m9) (b := d.off) Tryz.underlying4 (by kernel_rfl) (by kernel_rfl)) c7)⟩) ?_
   refine r_take 7 (.bool true) (RB.pre _ _) rfl (by kernel_rfl) (fun _ _ _ h => hQ.panic _ _ _ _ _ h) (.inl ⟨rfl, fun wq hq => (by kernel_rfl)⟩) ?_
   refine r_take 8 undef (RB.pre _ _) rfl (by kernel_rfl) (fun _ _ _ h => hQ.panic _ _ _ _ _ h) (.inr ⟨by kernel_rfl, rfl⟩) ?_
   refine r_take 9 undef (RB.pre _ _) rfl (by kernel_rfl) (fun _ _ _ h => hQ.panic _ _ _ _ _ h) (.inr ⟨by kernel_rfl, rfl⟩) ?_
   refine r_take 10 undef (RB.pre _ _) rfl (by kernel_rfl) (fun _ _ _ h => hQ.panic _ _ _ _ _ h) (.inr ⟨by kernel_rfl, rfl⟩) ?_
   refine r_take 11 undef (RB.pre _ _) rfl (by kernel_rfl) (fun _ _ _ h => hQ.panic _ _ _ _ _ h) (.inr ⟨by kernel_rfl, rfl⟩) ?_
   refine r_take 12 undef (RB.pre _ _) rfl (by kernel_rfl) (fun _ _ _ h => hQ.panic _ _ _ _ _ h) (.inr ⟨by kernel_rfl, rfl⟩) ?_
   refine r_take 13 undef (RB.pre _ _) rfl (by kernel_rfl) (fun _ _ _ h => hQ.panic _ _ _ _ _ h) (.inr ⟨by kernel_rfl, rfl⟩) ?_
   refine r_take 14 undef (RB.pre _ _) rfl (by kernel_rfl) (fun _ _ _ h => hQ.panic _ _ _ _ _ h) (.inr ⟨by kernel_rfl, rfl⟩) ?_
   refine r_take 15 undef (RB.pre _ _) rfl (by kernel_rfl) (fun _ _ _ h => hQ.panic _ _ _ _ _ h) (.inr ⟨by kernel_rfl, rfl⟩) ?_
   refine r_take 16 (.bool true) (RB.pre _ _) rfl (by kernel_rfl) (fun _ _ _ h => hQ.panic _ _ _ _ _ h) (.inl ⟨rfl, fun wq hq => (by kernel_rfl)⟩) ?_
   refine r_take 17 (.bool true) (RB.pre _ _) rfl (by kernel_rfl) (fun _ _ _ h => hQ.panic _ _ _ _ _ h) (.inl ⟨rfl, fun wq hq => (by kernel_rfl)⟩) ?_
   refine r_take 18 undef (RB.pre _ _) rfl (by kernel_rfl) (fun _ _ _ h => hQ.panic _ _ _ _ _ h) (.inr ⟨by kernel_rfl, rfl⟩) ?_
   refine r_take 19 undef (RB.pre _ _) rfl (by kernel_rfl) (fun _ _ _ h => hQ.panic _ _ _ _ _ h) (.inr ⟨by kernel_rfl, rfl⟩) ?_
   refine r_take 20 undef (RB.pre _ _) rfl (by kernel_rfl) (fun _ _ _ h => hQ.panic _ _ _ _ _ h) (.inr ⟨by kernel_rfl, rfl⟩) ?_
   refine r_take 21 undef (RB.pre _ _) rfl (by kernel_rfl) (fun _ _ _ h => hQ.panic _ _ _ _ _ h) (.inr ⟨by kernel_rfl, rfl⟩) ?_
   refine r_take 22 undef (RB.pre _ _) rfl (by kernel_rfl) (fun _ _ _ h => hQ.panic _ _ _ _ _ h) (.inr ⟨by kernel_rfl, rfl⟩) ?_
   refine r_take 23 undef (RB.pre _ _) rfl (by kernel_rfl) (fun _ _ _ h => hQ.panic _ _ _ _ _ h) (.inr ⟨by kernel_rfl, rfl⟩) ?_
   refine r_take 24 undef (RB.pre _ _) rfl (by kernel_rfl) (fun _ _ _ h => hQ.panic _ _ _ _ _ h) (.inr ⟨by kernel_rfl, rfl⟩) ?_
   refine r_take 25 (.bool true) (RB.pre _ _) rfl (by kernel_rfl) (fun _ _ _ h => hQ.panic _ _ _ _ _ h) (.inl ⟨rfl, fun wq hq => (by kernel_rfl)⟩) ?_
   refine r_take 26 (.bool true) (RB.pre _ _) rfl (by kernel_rfl) (fun _ _ _ h => hQ.panic _ _ _ _ _ h) (.inl ⟨rfl, fun wq hq => (by kernel_rfl)⟩) ?_
   refine r_take 27 undef (RB.pre _ _) rfl (by kernel_rfl) (fun _ _ _ h => hQ.panic _ _ _ _ _ h) (.inr ⟨by kernel_rfl, rfl⟩) ?_
   refine r_take 28 undef (RB.pre _ _) rfl (by kernel_rfl) (fun _ _ _ h => hQ.panic _ _ _ _ _ h) (.inr ⟨by kernel_rfl, rfl⟩) ?_
   refine r_take 29 undef (RB.pre _ _) rfl (by kernel_rfl) (fun _ _ _ h => hQ.panic _ _ _ _ _ h) (.inr ⟨by kernel_rfl, rfl⟩) ?_
   refine r_take 30 undef (RB.pre _ _) rfl (by kernel_rfl) (fun _ _ _ h => hQ.panic _ _ _ _ _ h) (.inr ⟨by kernel_rfl, rfl⟩) ?_
   refine r_take 31 undef (RB.pre _ _) rfl (by kernel_rfl) (fun _ _ _ h => hQ.panic _ _ _ _ _ h) (.inr ⟨by kernel_rfl, rfl⟩) ?_
   refine r_take 32 undef (RB.pre _ _) rfl (by kernel_rfl) (fun _ _ _ h => hQ.panic _ _ _ _ _ h) (.inr ⟨by kernel_rfl, rfl⟩) ?_
   refine r_take 33 undef (RB.pre _ _) rfl (by kernel_rfl) (fun _ _ _ h => hQ.panic _ _ _ _ _ h) (.inr ⟨by kernel_rfl, rfl⟩) ?_
   refine r_take 34 (.bool true) (RB.pre _ _) rfl (by kernel_rfl) (fun _ _ _ h => hQ.panic _ _ _ _ _ h) (.inl ⟨rfl, fun wq hq => (by kernel_rfl)⟩) ?_
   refine r_done (by kernel_rfl) ?_
   have J5 := (Old.step m7 y1)
   have t01 := (Evo.thenW V6 (Step.evo y1) j3.wr)
   have B9 := (Sub.trans R7 (Step.up y1))
   have E1 := (News.step R8 y1)
   have s01 := (OB.step k6 y1 (Ap.symm k5))
   have p9 := (Sl.step g8 y1)
   have U8 := (Sl.step m8 y1)
   have Z0 := (Sl.step g9 y1)
   have Z1 := (Sl.step d0 y1)
   obtain ⟨r01, q01, E2⟩ := MO.pack (o_rectolaw5_Disk_mk s01 p9 rfl U8 rfl Z0 rfl u7 s2 u9 s3 Z1 rfl s4)
   have k01 := E2 _ (Ap.cons (Ap.symm c6) (Ap.app (Ap.nil_r _) (Ap.app (Ap.nil_r _) (Ap.app (Ap.nil_r _) (Ap.app (Ap.nil_r _) (Ap.app (Ap.nil_r _) (Ap.app (Ap.nil_r _) (Ap.app (Ap.nil_r _) (Ap.app (Ap.nil_r _) (Ap.app (Ap.nil_r _) (Ap.app (Ap.nil_r _) (Ap.nil_r _))))))))))))
   refine then_normal (l1 _ _ _ ⟨[(47, (.bool true))], fit_mk (fun _ _ => rfl) (by kernel_rfl) (vs_cons (by kernel_rfl) vs_nil), ?_⟩)
   exact ⟨K3, true, R9, d, K4, r01, rfl, t01, J5, B9, E1, n0, q01, k01, hp⟩
 ·
  rintro _ g2 R02 ⟨q3, m5, g3, z0, c2, c3, rfl, a7, Z2, a8, a9, n6, U9, T0, E3⟩
  replace hp := C2 m5 g3 z0 E3
  refine then_normal (Z02 _ _ _ _ ?_)
  refine cond_b m5 (by kernel_rfl) (fun T1 => ?_) (fun T1 => ?_)
  ·
   replace hp := hp.1 T1
   refine seq_ (fun _ j01 => ?_)
   refine reg_ ?_
   refine sq (o_pv (.bool false) rfl (by kernel_rfl) ?_)
   refine nil_ ?_
   refine then_normal (j01 _ _ _ _ ?_)
   refine wp_ret ?_
   refine then_ret ?_
   refine end_ret hQ (.bool false) (by kernel_rfl) ?_
   exact ⟨g3, z0, false, hp, q3, c2, c3, step_of a7 f3 a8 a9, rfl, n6, U9, T0⟩
  ·
   replace hp := hp.2 T1
   refine wp_skip ?_
   refine then_normal (p02 _ _ _ _ ?_)
   refine seq_ (fun _ g01 => ?_)
   refine reg_ ?_
   refine sq (o_pv (.pointer (some ⟨z8, 0, none⟩)) rfl (by kernel_rfl) ?_)
   refine sq (o_call 32 #[(.pointer (some ⟨z8, 0, none⟩))] rfl (x_call Tryz.call32 (by kernel_rfl)) (simfs_FS_List_w (X := q3) (f_ := g3) Z2 (MO.re n6 (Wr.self _ _ (Sub.refl _))) hp) ?_)
   rintro _ n7 ⟨P9, z2, v5, hp, e0, k7, v7, y4, q4, rfl, T2, N0, E4⟩
   have T3 := MO.re T2 (Wr.trans T2.wr n6.wr a7.size)
   have d01 := Ap.grow T2.wr (Ap.symm T0) (MO.old U9) (Nat.le_refl _)
   replace hp := hp (Sl.len N0)
   replace hp := hp E4
   refine sq (o_pv (.tuple #[(.slice v7 z2.length y4), (.int .i64 v5)]) rfl (by kernel_rfl) ?_)
   refine sq (o_pv (.slice v7 z2.length y4) rfl (by kernel_rfl) ?_)
   refine sq (o_pv (.int .i64 v5) rfl (by kernel_rfl) ?_)
   refine sq (o_pv (.slice v7 z2.length y4) rfl (by kernel_rfl) ?_)
   refine sq (o_pv (.int .i64 v5) rfl (by kernel_rfl) ?_)
   refine nil_ ?_
   refine then_normal (g01 _ _ _ _ ?_)
   refine seq_ (fun _ l01 => ?_)
   refine seq_ (fun _ m01 => ?_)
   refine reg_ ?_
   refine sq (o_pv (.pointer (some ⟨z7, 0, none⟩)) rfl (by kernel_rfl) ?_)
   refine sq (o_pv (.pointer (some ⟨z7, 0, none⟩)) rfl (by kernel_rfl) ?_)
   have n01 := (MO.step U9 q4 (Ap.symm T0))
   obtain ⟨u1, u2, y0, z9, u3, u4, u5, u6, T4, q5, k8, q6, t0, s5, t1, s6, q7, s7, E5⟩ := o_rectolaw5_Disk_open n01
   have k9 := Ap.subr (Ap.symm d01) E5
   replace hp := hp (Sl.len q5)
   replace hp := hp (Sl.len k8)
   replace hp := hp (Sl.len q6)
   replace hp := hp t0
   replace hp := hp s5
   replace hp := hp t1
   replace hp := hp s6
   replace hp := hp (Sl.len q7)
   replace hp := hp s7
   refine sq (o_pv (.pointer (some ⟨z7, 6, none⟩)) rfl (by kernel_rfl) ?_)
   refine sq (o_pv (.bool z0.off) rfl (x_load1 (by kernel_rfl) Tryz.isAgg4 (T4.2.1.cell' 6 rfl)) ?_)
   refine nil_ ?_
   refine then_normal (m01 _ _ _ _ ?_)
   refine cond_b z0.off (by kernel_rfl) (fun T5 => ?_) (fun T5 => ?_)
   ·
    replace hp := hp.1 T5
    refine seq_ (fun _ o01 => ?_)
    refine ground_ ?_
    refine join_ 18302628885633695760 (fun lq J6 => lq = [(4, (.bool (decide ((v5 = (13 : Int)) ∧ ((z2.length : Int) = (0 : Int))))))] ∧ n7 = J6) (fun d02 N1 => ?_) ?_
    ·
     refine reg_ ?_
     refine sq (o_pv (.int .i64 v5) rfl (by kernel_rfl) ?_)
     by_cases e1 : v5 = (13 : Int)
     ·
      refine sq (o_pv (.bool true) rfl (x_dt (p := v5 = (13 : Int)) (by kernel_rfl) e1) ?_)
      refine sq (o_pv (.bool true) rfl (by kernel_rfl) ?_)
      refine sq (o_pv (.slice v7 z2.length y4) (by kernel_rfl) (by kernel_rfl) ?_)
      refine sq (o_pv (.int .i64 (z2.length : Int)) (by kernel_rfl) (by kernel_rfl) ?_)
      refine sq (o_pv (.bool (decide ((z2.length : Int) = (0 : Int)))) (by kernel_rfl) (by kernel_rfl) ?_)
      refine sq (o_pv (.bool (decide ((z2.length : Int) = (0 : Int)))) rfl (by kernel_rfl) ?_)
      refine sq (o_pv (.bool (decide ((z2.length : Int) = (0 : Int)))) rfl (by kernel_rfl) ?_)
      refine nil_ ?_
      refine then_normal (N1 _ _ _ ⟨[(4, (.bool (decide ((v5 = (13 : Int)) ∧ ((z2.length : Int) = (0 : Int))))))], fit_mk (fun _ _ => rfl) (by kernel_rfl) (vs_cons (Eq.trans (b := (.bool (decide ((z2.length : Int) = (0 : Int))))) (by kernel_rfl) (dec_d ((and_iff_right e1).trans Iff.rfl)).symm) vs_nil), rfl, rfl⟩)
     ·
      refine sq (o_pv (.bool false) rfl (x_df (p := v5 = (13 : Int)) (by kernel_rfl) e1) ?_)
      refine sq (o_pv (.bool false) rfl (by kernel_rfl) ?_)
      refine sq (o_not (by kernel_rfl) ?_)
      refine sq (o_not (by kernel_rfl) ?_)
      refine sq (o_not (by kernel_rfl) ?_)
      refine sq (o_pv (.bool false) rfl (by kernel_rfl) ?_)
      refine sq (o_pv (.bool false) rfl (by kernel_rfl) ?_)
      refine nil_ ?_
      refine then_normal (N1 _ _ _ ⟨[(4, (.bool (decide ((v5 = (13 : Int)) ∧ ((z2.length : Int) = (0 : Int))))))], fit_mk (fun _ _ => rfl) (by kernel_rfl) (vs_cons (Eq.trans (b := (.bool false)) (by kernel_rfl) (dec_f (iff_false_intro (fun h => e1 h.1))).symm) vs_nil), rfl, rfl⟩)
    ·
     rintro _ J6 P02 ⟨rfl, hw⟩
     subst hw
     refine then_normal (o01 _ _ _ _ ?_)
     refine wp_ret ?_
     refine then_ret ?_
     have c01 := (Evo.thenW a7 (Step.evo q4) n6.wr)
     have E6 := (Sub.trans a8 (Step.up q4))
     have E7 := (News.step a9 q4)
     obtain ⟨a01, e01, E8⟩ := MO.pack (o_rectolaw5_Disk_mk T4 q5 rfl k8 rfl q6 rfl t0 s5 t1 s6 q7 rfl s7)
     have i01 := E8 _ (Ap.cons k9 (Ap.app (Ap.nil_r _) (Ap.app (Ap.nil_r _) (Ap.app (Ap.nil_r _) (Ap.app (Ap.nil_r _) (Ap.app (Ap.nil_r _) (Ap.app (Ap.nil_r _) (Ap.app (Ap.nil_r _) (Ap.app (Ap.nil_r _) (Ap.app (Ap.nil_r _) (Ap.app (Ap.nil_r _) (Ap.nil_r _))))))))))))
     refine end_ret hQ (.bool (decide ((v5 = (13 : Int)) ∧ ((z2.length : Int) = (0 : Int))))) (by kernel_rfl) ?_
     exact ⟨P9, z0, (decide ((v5 = (13 : Int)) ∧ ((z2.length : Int) = (0 : Int)))), hp, e0, k7, a01, step_of c01 f3 E6 E7, rfl, T3, e01, i01⟩
   ·
    replace hp := hp.2 T5
    refine wp_skip ?_
    refine then_normal (l01 _ _ _ _ ?_)
    refine seq_ (fun _ h01 => ?_)
    refine seq_ (fun _ b01 => ?_)
    have f01 := (Evo.thenW a7 (Step.evo q4) n6.wr)
    have J7 := (Old.step Z2 q4)
    have E9 := (Sub.trans a8 (Step.up q4))
    have F0 := (News.step a9 q4)
    obtain ⟨p01, F6, hp⟩ := hp
    refine ground_ ?_
    refine join_ 77371234008592193471643648 (fun lq r0 => ∃ (t7 : List Nat) (n8 : Bool) (j0 : S_simfs_FS) (n9 : List Nat), (lq = [(85, (.bool n8))]) ∧ (Evo (z4 ++ v6) w r0) ∧ (Old t7 r0) ∧ (Sub X t7) ∧ (News X w t7 r0) ∧ (Sl rStr t7 r0 v7 y4 z2) ∧ (Sl r_rectolaw5_one t7 r0 u1 u2 z0.kept) ∧ (Sl r_rectolaw5_one t7 r0 y0 z9 z0.now) ∧ (Sl r_rectolaw5_op t7 r0 u3 u4 z0.wait) ∧ (Sl rBool t7 r0 u5 u6 z0.keep) ∧ (OB (z4 ++ v6) w.heap.size t7 r0 z7 [(.slice u1 z0.kept.length u2), (.slice y0 z0.now.length z9), (.slice u3 z0.wait.length u4), (.int .i64 z0.quota), (.int .i64 z0.time), (.int .i64 z0.inode), (.bool z0.off), (.bool z0.armed), (.int .i64 z0.left), (.slice u5 z0.keep.length u6), (.int .i64 z0.ops_)] 31) ∧ (MO o_simfs_FS 78 (z4 ++ v6) w.heap.size t7 r0 n9 z8 j0) ∧ (Ap ([z7]) (n9)) ∧ (p01 n8 j0)) (fun l02 e2 => ?_) ?_
    ·
     have Z3 : Sub k7 e0 := (MO.mem T3)
     refine reg_drawn (RB n7.heap.size k7) 22 (by kernel_rfl) (fun J8 e3 => ?_)
     have Z01 := Evo.of_drew e3
     have o0 : J8.heap.size = n7.heap.size := by rw [e3]
     clear e3
     have r1 := Step.of0 e0 Z01
     have l5 := RB.refl n7.heap.size k7 J8
     have e4 := (Evo.then0 f01 (Step.evo r1))
     have j4 := (Old.step J7 r1)
     have e5 := (Sub.trans E9 (Step.up r1))
     have e6 := (News.step F0 r1)
     have o3 := (MO.step0 T3 r1)
     have e7 := (Sl.step N0 r1)
     have g4 := (OB.step0 T4 r1)
     have q8 := (Sl.step q5 r1)
     have T6 := (Sl.step k8 r1)
     have q9 := (Sl.step q6 r1)
     have k0 := (Sl.step q7 r1)
     refine r_take 0 (.pointer (some ⟨z8, 0, none⟩)) (RB.pre _ _) rfl (by kernel_rfl) (fun _ _ _ h => hQ.panic _ _ _ _ _ h) (.inl ⟨rfl, fun wq hq => (by kernel_rfl)⟩) ?_
     refine r_take 2 (.pointer (some ⟨z7, 0, none⟩)) (RB.pre _ _) rfl (by kernel_rfl) (fun _ _ _ h => hQ.panic _ _ _ _ _ h) (.inl ⟨rfl, fun wq hq => (by kernel_rfl)⟩) ?_
     refine r_take 3 (.pointer (some ⟨z7, 0, none⟩)) (RB.pre _ _) rfl (by kernel_rfl) (fun _ _ _ h => hQ.panic _ _ _ _ _ h) (.inl ⟨rfl, fun wq hq => (by kernel_rfl)⟩) ?_
     refine r_take 4 (.pointer (some ⟨z7, 1, none⟩)) (RB.pre _ _) rfl (by kernel_rfl) (fun _ _ _ h => hQ.panic _ _ _ _ _ h) (.inl ⟨rfl, fun wq hq => (by kernel_rfl)⟩) ?_
     refine r_take 5 (.slice y0 z0.now.length z9) (RB.pre _ _) rfl (by kernel_rfl) (fun _ _ _ h => hQ.panic _ _ _ _ _ h) (.inl ⟨rfl, fun wq hq => (x_load1 (by kernel_rfl) Tryz.isAgg27 ((OB.step g4 (stepR (RB.trans l5 hq) o0 Z3) (Ap.symm k9)).2.1.cell' 1 rfl))⟩) ?_
     refine r_ready [1] (by kernel_rfl) rfl (all_cons ⟨_, _, _, _, _, _, rfl, ?_⟩ all_nil)
     refine o_call 34 #[(.pointer (some ⟨z8, 0, none⟩))] rfl (x_call Tryz.call34 (by kernel_rfl)) (simfs_FS_Used_w (X := e0) (f_ := P9) j4 (MO.re o3 (Wr.self _ _ (Sub.refl _))) hp) ?_
     rintro _ N02 ⟨e8, T7, hp, e9, i0, z6, rfl, i1, F7⟩
     have rm := RB.mono (F' := k7) (Step.evo z6) (Nat.le_trans (Nat.le_of_eq o0.symm) (RB.size l5)) (Wr.self _ _ (Sub.refl _))
     have N2 := RB.trans l5 rm
     refine ⟨fun _ => rm, ?_⟩
     have m02 : Wr k7 n7.heap.size i0 := Wr.trans i1.wr (Wr.self _ _ (Sub.refl _)) (Nat.le_trans (Nat.le_of_eq o0.symm) (RB.size l5))
     have T8 := MO.re i1 (Wr.trans i1.wr o3.wr e4.size)
     have T9 := Ap.grow i1.wr (Ap.symm k9) (OB.old g4) (Nat.le_refl _)
     replace hp := hp F7
     refine r_ready [6] (by kernel_rfl) rfl (all_cons ⟨_, _, _, _, _, _, rfl, ?_⟩ all_nil)
     have r9 := (Sl.step T6 z6)
     refine o_call 55 #[(.slice y0 z0.now.length z9)] rfl (x_call Tryz.call55 (by kernel_rfl)) (rectolaw5_used_w (X := []) (l := z0.now) (Old.nil _) (Sl.less r9 (Sub.nil _)) hp) ?_
     rintro _ M02 ⟨R1, hp, o4, rfl, F8⟩
     have rm := RB.mono (F' := k7) o4 (Nat.le_trans (Nat.le_of_eq o0.symm) (RB.size N2)) (fun _ h => by cases h)
     have F9 := RB.trans N2 rm
     refine ⟨fun _ => rm, ?_⟩
     have z5 := Step.of0 e9 o4
     replace hp := hp F8
     by_cases i2 : T7 = R1
     ·
      replace hp := hp.1 i2
      refine r_take 7 (.bool false) (RB.pre _ _) rfl (by kernel_rfl) (fun _ _ _ h => hQ.panic _ _ _ _ _ h) (.inl ⟨rfl, fun wq hq => (x_ndf (p := T7 = R1) (by kernel_rfl) i2)⟩) ?_
      refine r_take 8 (.bool false) (RB.pre _ _) rfl (by kernel_rfl) (fun _ _ _ h => hQ.panic _ _ _ _ _ h) (.inl ⟨rfl, fun wq hq => (by kernel_rfl)⟩) ?_
      refine r_take 9 (.int .i64 v5) (RB.pre _ _) rfl (by kernel_rfl) (fun _ _ _ h => hQ.panic _ _ _ _ _ h) (.inl ⟨(by kernel_rfl), fun wq hq => (by kernel_rfl)⟩) ?_
      by_cases i3 : v5 = (0 : Int)
      ·
       replace hp := hp.1 i3
       refine r_take 10 (.bool false) (RB.pre _ _) rfl (by kernel_rfl) (fun _ _ _ h => hQ.panic _ _ _ _ _ h) (.inl ⟨(by kernel_rfl), fun wq hq => (x_ndf (p := v5 = (0 : Int)) (by kernel_rfl) i3)⟩) ?_
       refine r_take 11 (.bool false) (RB.pre _ _) rfl (by kernel_rfl) (fun _ _ _ h => hQ.panic _ _ _ _ _ h) (.inl ⟨rfl, fun wq hq => (by kernel_rfl)⟩) ?_
       refine r_take 12 (.bool false) (RB.pre _ _) rfl (by kernel_rfl) (fun _ _ _ h => hQ.panic _ _ _ _ _ h) (.inl ⟨rfl, fun wq hq => (by kernel_rfl)⟩) ?_
       refine r_take 13 (.slice v7 z2.length y4) (RB.pre _ _) rfl (by kernel_rfl) (fun _ _ _ h => hQ.panic _ _ _ _ _ h) (.inl ⟨(by kernel_rfl), fun wq hq => (by kernel_rfl)⟩) ?_
       refine r_take 14 (.int .i64 (z2.length : Int)) (RB.pre _ _) rfl (by kernel_rfl) (fun _ _ _ h => hQ.panic _ _ _ _ _ h) (.inl ⟨(by kernel_rfl), fun wq hq => (by kernel_rfl)⟩) ?_
       refine r_take 15 (.pointer (some ⟨z7, 0, none⟩)) (RB.pre _ _) rfl (by kernel_rfl) (fun _ _ _ h => hQ.panic _ _ _ _ _ h) (.inl ⟨(by kernel_rfl), fun wq hq => (by kernel_rfl)⟩) ?_
       refine r_take 16 (.pointer (some ⟨z7, 0, none⟩)) (RB.pre _ _) rfl (by kernel_rfl) (fun _ _ _ h => hQ.panic _ _ _ _ _ h) (.inl ⟨(by kernel_rfl), fun wq hq => (by kernel_rfl)⟩) ?_
       refine r_take 17 (.pointer (some ⟨z7, 1, none⟩)) (RB.pre _ _) rfl (by kernel_rfl) (fun _ _ _ h => hQ.panic _ _ _ _ _ h) (.inl ⟨(by kernel_rfl), fun wq hq => (by kernel_rfl)⟩) ?_
       refine r_take 18 (.slice y0 z0.now.length z9) (RB.pre _ _) rfl (by kernel_rfl) (fun _ _ _ h => hQ.panic _ _ _ _ _ h) (.inl ⟨(by kernel_rfl), fun wq hq => (x_load1 (by kernel_rfl) Tryz.isAgg27 ((OB.step g4 (stepR (RB.trans F9 hq) o0 Z3) (Ap.symm k9)).2.1.cell' 1 rfl))⟩) ?_
       refine r_take 19 (.int .i64 (z0.now.length : Int)) (RB.pre _ _) rfl (by kernel_rfl) (fun _ _ _ h => hQ.panic _ _ _ _ _ h) (.inl ⟨(by kernel_rfl), fun wq hq => (by kernel_rfl)⟩) ?_
       refine r_take 20 (.bool (!decide ((z2.length : Int) = (z0.now.length : Int)))) (RB.pre _ _) rfl (by kernel_rfl) (fun _ _ _ h => hQ.panic _ _ _ _ _ h) (.inl ⟨(by kernel_rfl), fun wq hq => (by kernel_rfl)⟩) ?_
       refine r_take 21 (.bool (!decide ((z2.length : Int) = (z0.now.length : Int)))) (RB.pre _ _) rfl (by kernel_rfl) (fun _ _ _ h => hQ.panic _ _ _ _ _ h) (.inl ⟨rfl, fun wq hq => (by kernel_rfl)⟩) ?_
       refine r_done (by kernel_rfl) ?_
       have Y01 := (Evo.then0 (Evo.thenW e4 (Step.evo z6) o3.wr) o4)
       have J9 := (Old.step (Old.step j4 z6) z5)
       have O0 := (Sub.trans (Sub.trans e5 (Step.up z6)) (Step.up z5))
       have O1 := (News.step (News.step e6 z6) z5)
       have O2 := (Sl.step (Sl.step e7 z6) z5)
       have Z4 := (Sl.step (Sl.step q8 z6) z5)
       have R2 := (Sl.step r9 z5)
       have Z5 := (Sl.step (Sl.step q9 z6) z5)
       have Z6 := (Sl.step (Sl.step k0 z6) z5)
       have V01 := (OB.step0 (OB.step g4 z6 (Ap.symm k9)) z5)
       have U01 := (MO.step0 T8 z5)
       refine then_normal (e2 _ _ _ ⟨[(85, (.bool (!decide ((z2.length : Int) = (z0.now.length : Int)))))], fit_mk (fun _ _ => rfl) (by kernel_rfl) (vs_cons (by kernel_rfl) vs_nil), ?_⟩)
       exact ⟨e9, (!decide ((z2.length : Int) = (z0.now.length : Int))), e8, i0, rfl, Y01, J9, O0, O1, O2, Z4, R2, Z5, Z6, V01, U01, T9, hp⟩
      ·
       replace hp := hp.2 i3
       refine r_take 10 (.bool true) (RB.pre _ _) rfl (by kernel_rfl) (fun _ _ _ h => hQ.panic _ _ _ _ _ h) (.inl ⟨(by kernel_rfl), fun wq hq => (x_ndt (p := v5 = (0 : Int)) (by kernel_rfl) i3)⟩) ?_
       refine r_take 11 (.bool true) (RB.pre _ _) rfl (by kernel_rfl) (fun _ _ _ h => hQ.panic _ _ _ _ _ h) (.inl ⟨rfl, fun wq hq => (by kernel_rfl)⟩) ?_
       refine r_take 12 (.bool true) (RB.pre _ _) rfl (by kernel_rfl) (fun _ _ _ h => hQ.panic _ _ _ _ _ h) (.inl ⟨rfl, fun wq hq => (by kernel_rfl)⟩) ?_
       refine r_take 13 undef (RB.pre _ _) rfl (by kernel_rfl) (fun _ _ _ h => hQ.panic _ _ _ _ _ h) (.inr ⟨by kernel_rfl, rfl⟩) ?_
       refine r_take 14 undef (RB.pre _ _) rfl (by kernel_rfl) (fun _ _ _ h => hQ.panic _ _ _ _ _ h) (.inr ⟨by kernel_rfl, rfl⟩) ?_
       refine r_take 15 undef (RB.pre _ _) rfl (by kernel_rfl) (fun _ _ _ h => hQ.panic _ _ _ _ _ h) (.inr ⟨by kernel_rfl, rfl⟩) ?_
       refine r_take 16 undef (RB.pre _ _) rfl (by kernel_rfl) (fun _ _ _ h => hQ.panic _ _ _ _ _ h) (.inr ⟨by kernel_rfl, rfl⟩) ?_
       refine r_take 17 undef (RB.pre _ _) rfl (by kernel_rfl) (fun _ _ _ h => hQ.panic _ _ _ _ _ h) (.inr ⟨by kernel_rfl, rfl⟩) ?_
       refine r_take 18 undef (RB.pre _ _) rfl (by kernel_rfl) (fun _ _ _ h => hQ.panic _ _ _ _ _ h) (.inr ⟨by kernel_rfl, rfl⟩) ?_
       refine r_take 19 undef (RB.pre _ _) rfl (by kernel_rfl) (fun _ _ _ h => hQ.panic _ _ _ _ _ h) (.inr ⟨by kernel_rfl, rfl⟩) ?_
       refine r_take 20 undef (RB.pre _ _) rfl (by kernel_rfl) (fun _ _ _ h => hQ.panic _ _ _ _ _ h) (.inr ⟨by kernel_rfl, rfl⟩) ?_
       refine r_take 21 (.bool true) (RB.pre _ _) rfl (by kernel_rfl) (fun _ _ _ h => hQ.panic _ _ _ _ _ h) (.inl ⟨rfl, fun wq hq => (by kernel_rfl)⟩) ?_
       refine r_done (by kernel_rfl) ?_
       have T01 := (Evo.then0 (Evo.thenW e4 (Step.evo z6) o3.wr) o4)
       have I0 := (Old.step (Old.step j4 z6) z5)
       have O3 := (Sub.trans (Sub.trans e5 (Step.up z6)) (Step.up z5))
       have O4 := (News.step (News.step e6 z6) z5)
       have O5 := (Sl.step (Sl.step e7 z6) z5)
       have Z7 := (Sl.step (Sl.step q8 z6) z5)
       have R3 := (Sl.step r9 z5)
       have Z8 := (Sl.step (Sl.step q9 z6) z5)
       have Z9 := (Sl.step (Sl.step k0 z6) z5)
       have R01 := (OB.step0 (OB.step g4 z6 (Ap.symm k9)) z5)
       have P01 := (MO.step0 T8 z5)
       refine then_normal (e2 _ _ _ ⟨[(85, (.bool true))], fit_mk (fun _ _ => rfl) (by kernel_rfl) (vs_cons (by kernel_rfl) vs_nil), ?_⟩)
       exact ⟨e9, true, e8, i0, rfl, T01, I0, O3, O4, O5, Z7, R3, Z8, Z9, R01, P01, T9, hp⟩
     ·
      replace hp := hp.2 i2
      refine r_take 7 (.bool true) (RB.pre _ _) rfl (by kernel_rfl) (fun _ _ _ h => hQ.panic _ _ _ _ _ h) (.inl ⟨rfl, fun wq hq => (x_ndt (p := T7 = R1) (by kernel_rfl) i2)⟩) ?_
      refine r_take 8 (.bool true) (RB.pre _ _) rfl (by kernel_rfl) (fun _ _ _ h => hQ.panic _ _ _ _ _ h) (.inl ⟨rfl, fun wq hq => (by kernel_rfl)⟩) ?_
      refine r_take 9 undef (RB.pre _ _) rfl (by kernel_rfl) (fun _ _ _ h => hQ.panic _ _ _ _ _ h) (.inr ⟨by kernel_rfl, rfl⟩) ?_
      refine r_take 10 undef (RB.pre _ _) rfl (by kernel_rfl) (fun _ _ _ h => hQ.panic _ _ _ _ _ h) (.inr ⟨by kernel_rfl, rfl⟩) ?_
      refine r_take 11 (.bool true) (RB.pre _ _) rfl (by kernel_rfl) (fun _ _ _ h => hQ.panic _ _ _ _ _ h) (.inl ⟨rfl, fun wq hq => (by kernel_rfl)⟩) ?_
      refine r_take 12 (.bool true) (RB.pre _ _) rfl (by kernel_rfl) (fun _ _ _ h => hQ.panic _ _ _ _ _ h) (.inl ⟨rfl, fun wq hq => (by kernel_rfl)⟩) ?_
      refine r_take 13 undef (RB.pre _ _) rfl (by kernel_rfl) (fun _ _ _ h => hQ.panic _ _ _ _ _ h) (.inr ⟨by kernel_rfl, rfl⟩) ?_
      refine r_take 14 undef (RB.pre _ _) rfl (by kernel_rfl) (fun _ _ _ h => hQ.panic _ _ _ _ _ h) (.inr ⟨by kernel_rfl, rfl⟩) ?_
      refine r_take 15 undef (RB.pre _ _) rfl (by kernel_rfl) (fun _ _ _ h => hQ.panic _ _ _ _ _ h) (.inr ⟨by kernel_rfl, rfl⟩) ?_
      refine r_take 16 undef (RB.pre _ _) rfl (by kernel_rfl) (fun _ _ _ h => hQ.panic _ _ _ _ _ h) (.inr ⟨by kernel_rfl, rfl⟩) ?_
      refine r_take 17 undef (RB.pre _ _) rfl (by kernel_rfl) (fun _ _ _ h => hQ.panic _ _ _ _ _ h) (.inr ⟨by kernel_rfl, rfl⟩) ?_
      refine r_take 18 undef (RB.pre _ _) rfl (by kernel_rfl) (fun _ _ _ h => hQ.panic _ _ _ _ _ h) (.inr ⟨by kernel_rfl, rfl⟩) ?_
      refine r_take 19 undef (RB.pre _ _) rfl (by kernel_rfl) (fun _ _ _ h => hQ.panic _ _ _ _ _ h) (.inr ⟨by kernel_rfl, rfl⟩) ?_
      refine r_take 20 undef (RB.pre _ _) rfl (by kernel_rfl) (fun _ _ _ h => hQ.panic _ _ _ _ _ h) (.inr ⟨by kernel_rfl, rfl⟩) ?_
      refine r_take 21 (.bool true) (RB.pre _ _) rfl (by kernel_rfl) (fun _ _ _ h => hQ.panic _ _ _ _ _ h) (.inl ⟨rfl, fun wq hq => (by kernel_rfl)⟩) ?_
      refine r_done (by kernel_rfl) ?_
      have N01 := (Evo.then0 (Evo.thenW e4 (Step.evo z6) o3.wr) o4)
      have I1 := (Old.step (Old.step j4 z6) z5)
      have O6 := (Sub.trans (Sub.trans e5 (Step.up z6)) (Step.up z5))
      have O7 := (News.step (News.step e6 z6) z5)
      have O8 := (Sl.step (Sl.step e7 z6) z5)
      have Y0 := (Sl.step (Sl.step q8 z6) z5)
      have R4 := (Sl.step r9 z5)
      have Y1 := (Sl.step (Sl.step q9 z6) z5)
      have Y2 := (Sl.step (Sl.step k0 z6) z5)
      have M01 := (OB.step0 (OB.step g4 z6 (Ap.symm k9)) z5)
      have L01 := (MO.step0 T8 z5)
      refine then_normal (e2 _ _ _ ⟨[(85, (.bool true))], fit_mk (fun _ _ => rfl) (by kernel_rfl) (vs_cons (by kernel_rfl) vs_nil), ?_⟩)
      exact ⟨e9, true, e8, i0, rfl, N01, I1, O6, O7, O8, Y0, R4, Y1, Y2, M01, L01, T9, hp⟩
    ·
     rintro _ r0 L02 ⟨t7, n8, j0, n9, rfl, I2, I3, N3, N4, O9, d7, o5, d8, d9, I4, I5, I6, S0⟩
     replace hp := F6 n8 j0 S0
     refine then_normal (b01 _ _ _ _ ?_)
     refine cond_b n8 (by kernel_rfl) (fun R5 => ?_) (fun R5 => ?_)
     ·
      replace hp := hp.1 R5
      refine seq_ (fun _ K01 => ?_)
      refine reg_ ?_
      refine sq (o_pv (.bool false) rfl (by kernel_rfl) ?_)
      refine nil_ ?_
      refine then_normal (K01 _ _ _ _ ?_)
      refine wp_ret ?_
      refine then_ret ?_
      obtain ⟨J01, I01, S2⟩ := MO.pack (o_rectolaw5_Disk_mk I4 d7 rfl o5 rfl d8 rfl t0 s5 t1 s6 d9 rfl s7)
      have H01 := S2 _ (Ap.cons (Ap.symm I6) (Ap.app (Ap.nil_r _) (Ap.app (Ap.nil_r _) (Ap.app (Ap.nil_r _) (Ap.app (Ap.nil_r _) (Ap.app (Ap.nil_r _) (Ap.app (Ap.nil_r _) (Ap.app (Ap.nil_r _) (Ap.app (Ap.nil_r _) (Ap.app (Ap.nil_r _) (Ap.app (Ap.nil_r _) (Ap.nil_r _))))))))))))
      refine end_ret hQ (.bool false) (by kernel_rfl) ?_
      exact ⟨j0, z0, false, hp, t7, n9, J01, step_of I2 f3 N3 N4, rfl, I5, I01, H01⟩
     ·
      replace hp := hp.2 R5
      refine wp_skip ?_
      refine then_normal (h01 _ _ _ _ ?_)
      refine seq_ (fun _ G01 => ?_)
      refine seq_ (fun _ D01 => ?_)
      refine reg_ ?_
      refine sq (o_pv (.int .i64 (0 : Int)) rfl (by kernel_rfl) ?_)
      refine nil_ ?_
      refine then_normal (D01 _ _ _ _ ?_)
      refine wp_block ?_
      obtain ⟨S3, N5, I7, hp⟩ := hp
      refine loop_ 93536104789177786765035751922589657921712501563280 (fun kq lq t2 => ∃ (v1 : List Nat) (z1 : Int) (j1 : S_simfs_FS) (i4 : List Nat), (lq = [(7, (.int .i64 z1))]) ∧ (kq = N5 z1 j1) ∧ (Evo (z4 ++ v6) w t2) ∧ (Old v1 t2) ∧ (Sub X v1) ∧ (News X w v1 t2) ∧ (Sl rStr v1 t2 v7 y4 z2) ∧ (Sl r_rectolaw5_one v1 t2 u1 u2 z0.kept) ∧ (Sl r_rectolaw5_one v1 t2 y0 z9 z0.now) ∧ (Sl r_rectolaw5_op v1 t2 u3 u4 z0.wait) ∧ (Sl rBool v1 t2 u5 u6 z0.keep) ∧ (OB (z4 ++ v6) w.heap.size v1 t2 z7 [(.slice u1 z0.kept.length u2), (.slice y0 z0.now.length z9), (.slice u3 z0.wait.length u4), (.int .i64 z0.quota), (.int .i64 z0.time), (.int .i64 z0.inode), (.bool z0.off), (.bool z0.armed), (.int .i64 z0.left), (.slice u5 z0.keep.length u6), (.int .i64 z0.ops_)] 31) ∧ (MO o_simfs_FS 78 (z4 ++ v6) w.heap.size v1 t2 i4 z8 j1) ∧ (Ap ([z7]) (i4)) ∧ (inR .i64 z1) ∧ (S3 z1 j1)) (N5 (0 : Int) j0) [(7, (.int .i64 (0 : Int)))] (vs_cons (by kernel_rfl) vs_nil) ⟨t7, (0 : Int), j0, n9, rfl, rfl, I2, I3, N3, N4, O9, d7, o5, d8, d9, I4, I5, I6, (by decide : inR .i64 (0 : Int)), I7⟩ ?_
      rintro _ _ t2 n02 ⟨v1, z1, j1, i4, rfl, rfl, i5, L9, Y3, Y4, I8, j5, k1, j6, j7, l6, R6, i6, S4, I9⟩ O01 H0
      replace hp := hp z1 j1 I9 S4
      refine seq_ (fun _ S5 => ?_)
      refine seq_ (fun _ S6 => ?_)
      refine reg_ ?_
      refine sq (o_pv (.int .i64 z1) rfl (by kernel_rfl) ?_)
      refine sq (o_pv (.slice v7 z2.length y4) rfl (by kernel_rfl) ?_)
      refine sq (o_pv (.int .i64 (z2.length : Int)) rfl (by kernel_rfl) ?_)
      refine sq (o_pv (.bool (decide (z1 < (z2.length : Int)))) rfl (by kernel_rfl) ?_)
      refine nil_ ?_
      refine then_normal (S6 _ _ _ _ ?_)
      refine cond_d (z1 < (z2.length : Int)) (by kernel_rfl) (fun i7 => ?_) (fun i7 => ?_)
      ·
       replace hp := hp.1 i7
       refine wp_skip ?_
       refine then_normal (S5 _ _ _ _ ?_)
       refine seq_ (fun _ S7 => ?_)
       refine wp_block ?_
       refine seq_ (fun _ S8 => ?_)
       refine reg_ ?_
       refine sq (o_pv (.pointer (some ⟨z7, 0, none⟩)) rfl (by kernel_rfl) ?_)
       refine sq (o_pv (.pointer (some ⟨z7, 0, none⟩)) rfl (by kernel_rfl) ?_)
       refine sq (o_pv (.pointer (some ⟨z7, 1, none⟩)) rfl (by kernel_rfl) ?_)
       refine sq (o_pv (.slice y0 z0.now.length z9) rfl (x_load1 (by kernel_rfl) Tryz.isAgg27 (l6.2.1.cell' 1 rfl)) ?_)
       refine sq (o_pv (.int .i64 z1) rfl (by kernel_rfl) ?_)
       obtain ⟨N6, hp⟩ := hp
       obtain ⟨S9, A0, S01, H1, A01, W01, H2, H3⟩ := Sl.atI k1 z1 N6
       obtain ⟨rfl, i9, h0, h1, h2, o8⟩ := r_rectolaw5_one_open H2
       replace hp := hp i9
       replace hp := hp h0
       replace hp := hp h1
       replace hp := hp h2
       replace hp := hp o8
       refine sq (o_pv (.pointer (some ⟨S9, A0 + z1.toNat * 5, none⟩)) rfl (x_ixA (m := z0.now.length) (c := z9) (k := .i64) (i := z1) Tryz.underlying27 Tryz.sizeOf90 (by rw [← H1]; kernel_rfl) (by kernel_rfl) N6) ?_)
       refine sq (o_pv (.agg #[(.string ((lget z0.now z1).path)), (.string ((lget z0.now z1).data)), (.int .i64 ((lget z0.now z1).mode)), (.int .i64 ((lget z0.now z1).time)), (.int .i64 ((lget z0.now z1).inode))]) rfl (x_loadN [(.string ((lget z0.now z1).path)), (.string ((lget z0.now z1).data)), (.int .i64 ((lget z0.now z1).mode)), (.int .i64 ((lget z0.now z1).time)), (.int .i64 ((lget z0.now z1).inode))] (by kernel_rfl) Tryz.isAgg90 Tryz.sizeOf90 H3) ?_)
       refine sq (o_newX [(.string (ByteArray.mk #[])), (.string (ByteArray.mk #[])), (.int .i64 (0 : Int)), (.int .i64 (0 : Int)), (.int .i64 (0 : Int))] 90 (X := v1) (B := w.heap.size) i5.size rfl (by kernel_rfl) ?_)
       intro k4 o02 A1 t3 N7 N8
       have A2 := N8 _ (OB.old l6)
       have h3 := N8 _ (MO.old R6)
       have A3 := (OB.step0 l6 t3)
       have A4 := (MO.step0 R6 t3)
       have A5 := (Evo.then0 i5 (Step.evo t3))
       refine sq (o_stB (o := 0) (v := (.agg #[(.string ((lget z0.now z1).path)), (.string ((lget z0.now z1).data)), (.int .i64 ((lget z0.now z1).mode)), (.int .i64 ((lget z0.now z1).time)), (.int .i64 ((lget z0.now z1).inode))])) [(.string ((lget z0.now z1).path)), (.string ((lget z0.now z1).data)), (.int .i64 ((lget z0.now z1).mode)), (.int .i64 ((lget z0.now z1).time)), (.int .i64 ((lget z0.now z1).inode))] rfl N7 (by kernel_rfl) (by kernel_rfl) Tryz.sizeOf90 rfl rfl rfl ?_)
       intro c02 t4 N9
       refine nil_ ?_
       refine then_normal (S8 _ _ _ _ ?_)
       refine seq_ (fun _ A6 => ?_)
       refine reg_ ?_
       refine sq (o_pv (.pointer (some ⟨z8, 0, none⟩)) rfl (by kernel_rfl) ?_)
       refine sq (o_pv (.slice v7 z2.length y4) rfl (by kernel_rfl) ?_)
       refine sq (o_pv (.int .i64 z1) rfl (by kernel_rfl) ?_)
       obtain ⟨M0, hp⟩ := hp
       have Y5 := (Sl.step (Sl.step I8 t3) t4)
       obtain ⟨A7, A8, z02, H4, y02, v02, H5, H6⟩ := Sl.atI Y5 z1 M0
       obtain ⟨rfl, Y6⟩ := H5
       replace hp := hp Y6
       refine sq (o_pv (.pointer (some ⟨A7, A8 + z1.toNat * 1, none⟩)) rfl (x_ixA (m := z2.length) (c := y4) (k := .i64) (i := z1) Tryz.underlying72 Tryz.sizeOf9 (by rw [← H4]; kernel_rfl) (by kernel_rfl) M0) ?_)
       refine sq (o_pv (.string (lget z2 z1)) rfl (x_load1 (by kernel_rfl) Tryz.isAgg9 (H6 0 _ rfl)) ?_)
       have M1 := (Evo.thenW A5 (Step.evo t4) (Wr.of N7.2.2))
       have c0 := (Old.step (Old.step L9 t3) t4)
       have H7 := (Sub.trans (Sub.trans Y3 (Step.up t3)) (Step.up t4))
       have H8 := (News.step (News.step Y4 t3) t4)
       have h4 := (Sl.step (Sl.step j5 t3) t4)
       have Y7 := (Sl.step (Sl.step k1 t3) t4)
       have h5 := (Sl.step (Sl.step j6 t3) t4)
       have h6 := (Sl.step (Sl.step j7 t3) t4)
       have M2 := (OB.step A3 t4 A2)
       have h7 := (MO.step A4 t4 h3)
       refine sq (o_call 30 #[(.pointer (some ⟨z8, 0, none⟩)), (.string (lget z2 z1))] rfl (x_call Tryz.call30 (by kernel_rfl)) (simfs_FS_Read_w (X := A1) (f_ := j1) (p := lget z2 z1) c0 (MO.re h7 (Wr.self _ _ (Sub.refl _))) Y6 hp) ?_)
       rintro _ a02 ⟨H9, t9, s0, hp, A9, e02, k2, k3, t5, rfl, l7, Y8, G0⟩
       have h8 := MO.re l7 (Wr.trans l7.wr h7.wr M1.size)
       have M3 := Ap.grow l7.wr i6 (OB.old M2) (Nat.le_refl _)
       have W0 := Ap.grow l7.wr (Ap.symm h3) (OB.old N9) (Nat.le_refl _)
       replace hp := hp (Sl.len Y8)
       replace hp := hp G0
       refine sq (o_pv (.tuple #[(.slice k2 t9.length k3), (.int .i64 s0)]) rfl (by kernel_rfl) ?_)
       refine sq (o_pv (.slice k2 t9.length k3) rfl (by kernel_rfl) ?_)
       refine sq (o_pv (.int .i64 s0) rfl (by kernel_rfl) ?_)
       refine sq (o_pv (.slice k2 t9.length k3) rfl (by kernel_rfl) ?_)
       refine sq (o_pv (.int .i64 s0) rfl (by kernel_rfl) ?_)
       refine nil_ ?_
       refine then_normal (A6 _ _ _ _ ?_)
       refine seq_ (fun _ W1 => ?_)
       refine reg_ ?_
       refine sq (o_pv (.pointer (some ⟨z8, 0, none⟩)) rfl (by kernel_rfl) ?_)
       refine sq (o_pv (.slice v7 z2.length y4) rfl (by kernel_rfl) ?_)
       refine sq (o_pv (.int .i64 z1) rfl (by kernel_rfl) ?_)
       obtain ⟨M4, hp⟩ := hp
       have Y9 := (Sl.step Y5 t5)
       obtain ⟨W2, W3, u02, G1, t02, s02, G2, G3⟩ := Sl.atI Y9 z1 M4
       obtain ⟨rfl, V0⟩ := G2
       replace hp := hp V0
       refine sq (o_pv (.pointer (some ⟨W2, W3 + z1.toNat * 1, none⟩)) rfl (x_ixA (m := z2.length) (c := y4) (k := .i64) (i := z1) Tryz.underlying72 Tryz.sizeOf9 (by rw [← G1]; kernel_rfl) (by kernel_rfl) M4) ?_)
       refine sq (o_pv (.string (lget z2 z1)) rfl (x_load1 (by kernel_rfl) Tryz.isAgg9 (G3 0 _ rfl)) ?_)
       have M5 := (Evo.thenW M1 (Step.evo t5) h7.wr)
       have c1 := (Old.step c0 t5)
       have G4 := (Sub.trans H7 (Step.up t5))
       have G5 := (News.step H8 t5)
       have h9 := (Sl.step h4 t5)
       have V1 := (Sl.step Y7 t5)
       have b0 := (Sl.step h5 t5)
       have b1 := (Sl.step h6 t5)
       have M6 := (OB.step M2 t5 i6)
       have W4 := (OB.step N9 t5 (Ap.symm h3))
       refine sq (o_call 31 #[(.pointer (some ⟨z8, 0, none⟩)), (.string (lget z2 z1))] rfl (x_call Tryz.call31 (by kernel_rfl)) (simfs_FS_Stat_w (X := A9) (f_ := H9) (p := lget z2 z1) c1 (MO.re h8 (Wr.self _ _ (Sub.refl _))) V0 hp) ?_)
       rintro _ i02 ⟨o6, z3, s1, hp, W5, b2, v8, rfl, b3, b4, b5, o9, b6, G6⟩
       have M7 := MO.re b3 (Wr.trans b3.wr h8.wr M5.size)
       have M8 := Ap.grow b3.wr M3 (OB.old M6) (Nat.le_refl _)
       replace hp := hp b4
       replace hp := hp b5
       replace hp := hp o9
       replace hp := hp b6
       replace hp := hp G6
       refine sq (o_pv (.tuple #[(.agg #[(.int .i64 z3.Size), (.int .i64 z3.Time), (.int .i64 z3.Inode), (.int .i64 z3.Mode)]), (.int .i64 s1)]) rfl (by kernel_rfl) ?_)
       refine sq (o_pv (.agg #[(.int .i64 z3.Size), (.int .i64 z3.Time), (.int .i64 z3.Inode), (.int .i64 z3.Mode)]) rfl (by kernel_rfl) ?_)
       refine sq (o_pv (.int .i64 s1) rfl (by kernel_rfl) ?_)
       have M9 := (OB.step M6 v8 M3)
       have L0 := (OB.step W4 v8 W0)
       have L1 := (Evo.thenW M5 (Step.evo v8) h8.wr)
       refine sq (o_newX [(.int .i64 (0 : Int)), (.int .i64 (0 : Int)), (.int .i64 (0 : Int)), (.int .i64 (0 : Int))] 69 (X := W5) (B := w.heap.size) L1.size rfl (by kernel_rfl) ?_)
       intro l8 h02 r5 v2 L2 b7
       have W6 := b7 _ (OB.old M9)
       have W7 := b7 _ (OB.old L0)
       have W8 := b7 _ (MO.old M7)
       have W9 := (OB.step0 M9 v2)
       have z00 := (OB.step0 L0 v2)
       have y00 := (MO.step0 M7 v2)
       have v00 := (Evo.then0 L1 (Step.evo v2))
       refine sq (o_stB (o := 0) (v := (.agg #[(.int .i64 z3.Size), (.int .i64 z3.Time), (.int .i64 z3.Inode), (.int .i64 z3.Mode)])) [(.int .i64 z3.Size), (.int .i64 z3.Time), (.int .i64 z3.Inode), (.int .i64 z3.Mode)] rfl L2 (by kernel_rfl) (by kernel_rfl) Tryz.sizeOf69 rfl rfl rfl ?_)
       intro b8 v3 u00
       refine sq (o_pv (.int .i64 s1) rfl (by kernel_rfl) ?_)
       refine nil_ ?_
       refine then_normal (W1 _ _ _ _ ?_)
       refine seq_ (fun _ t00 => ?_)
       have s00 := (Evo.thenW v00 (Step.evo v3) (Wr.of L2.2.2))
       have K0 := (Old.step (Old.step (Old.step c1 v8) v2) v3)
       have G7 := (Sub.trans (Sub.trans (Sub.trans G4 (Step.up v8)) (Step.up v2)) (Step.up v3))
       have G8 := (News.step (News.step (News.step G5 v8) v2) v3)
       have G9 := (Sl.step (Sl.step (Sl.step Y9 v8) v2) v3)
       have b9 := (Sl.step (Sl.step (Sl.step h9 v8) v2) v3)
       have V2 := (Sl.step (Sl.step (Sl.step V1 v8) v2) v3)
       have f0 := (Sl.step (Sl.step (Sl.step b0 v8) v2) v3)
       have f1 := (Sl.step (Sl.step (Sl.step b1 v8) v2) v3)
       have r00 := (OB.step W9 v3 W6)
       have q00 := (OB.step z00 v3 W7)
       have D0 := (Sl.step (Sl.step (Sl.step Y8 v8) v2) v3)
       have k00 := (MO.step y00 v3 W8)
       obtain ⟨j00, D1, hp⟩ := hp
       refine ground_ ?_
       refine join_ 93536104789177620611536356179358000282097147707392 (fun lq t6 => ∃ (v4 : List Nat) (j8 : Bool), (lq = [(165, (.bool j8))]) ∧ (Evo (z4 ++ v6) w t6) ∧ (Old v4 t6) ∧ (Sub X v4) ∧ (News X w v4 t6) ∧ (Sl rStr v4 t6 v7 y4 z2) ∧ (MO o_simfs_FS 78 (z4 ++ v6) w.heap.size v4 t6 b2 z8 o6) ∧ (Sl r_rectolaw5_one v4 t6 u1 u2 z0.kept) ∧ (Sl r_rectolaw5_one v4 t6 y0 z9 z0.now) ∧ (Sl r_rectolaw5_op v4 t6 u3 u4 z0.wait) ∧ (Sl rBool v4 t6 u5 u6 z0.keep) ∧ (OB (z4 ++ v6) w.heap.size v4 t6 z7 [(.slice u1 z0.kept.length u2), (.slice y0 z0.now.length z9), (.slice u3 z0.wait.length u4), (.int .i64 z0.quota), (.int .i64 z0.time), (.int .i64 z0.inode), (.bool z0.off), (.bool z0.armed), (.int .i64 z0.left), (.slice u5 z0.keep.length u6), (.int .i64 z0.ops_)] 31) ∧ (j00 j8)) (fun r02 r2 => ?_) ?_
       ·
        refine reg_drawn (RB b8.heap.size []) 49 (by kernel_rfl) (fun L3 o7 => ?_)
        have g00 := Evo.of_drew o7
        have v9 : L3.heap.size = b8.heap.size := by rw [o7]
        clear o7
        have y9 := Step.of0 r5 g00
        have y8 := RB.refl b8.heap.size [] L3
        have q0 := (Evo.then0 s00 (Step.evo y9))
        have t8 := (Old.step K0 y9)
        have r3 := (Sub.trans G7 (Step.up y9))
        have r4 := (News.step G8 y9)
        have s8 := (Sl.step G9 y9)
        have y5 := (Sl.step b9 y9)
        have v0 := (Sl.step V2 y9)
        have y6 := (Sl.step f0 y9)
        have y7 := (Sl.step f1 y9)
        have q1 := (OB.step0 r00 y9)
        have u0 := (OB.step0 q00 y9)
        have D2 := (Sl.step D0 y9)
        have q2 := (MO.step0 k00 y9)
        have r6 := (OB.step0 u00 y9)
        refine r_take 0 (.slice v7 z2.length y4) (RB.pre _ _) rfl (by kernel_rfl) (fun _ _ _ h => hQ.panic _ _ _ _ _ h) (.inl ⟨rfl, fun wq hq => (by kernel_rfl)⟩) ?_
        refine r_take 1 (.int .i64 z1) (RB.pre _ _) rfl (by kernel_rfl) (fun _ _ _ h => hQ.panic _ _ _ _ _ h) (.inl ⟨rfl, fun wq hq => (by kernel_rfl)⟩) ?_
        obtain ⟨L4, hp⟩ := hp
        obtain ⟨d00, l00, q02, D3, k02, D4, D5, D6⟩ := Sl.atI s8 z1 L4
        obtain ⟨rfl, D7⟩ := D5
        replace hp := hp D7
        refine r_take 2 (.pointer (some ⟨d00, l00 + z1.toNat * 1, none⟩)) (RB.pre _ _) rfl (by kernel_rfl) (fun _ _ _ h => hQ.panic _ _ _ _ _ h) (.inl ⟨rfl, fun wq hq => (x_ixA (m := z2.length) (c := y4) (k := .i64) (i := z1) Tryz.underlying72 Tryz.sizeOf9 (by rw [← D3]; kernel_rfl) (by kernel_rfl) L4)⟩) ?_
        refine r_take 3 (.string (lget z2 z1)) (RB.pre _ _) rfl (by kernel_rfl) (fun _ _ _ h => hQ.panic _ _ _ _ _ h) (.inl ⟨rfl, fun wq hq => (x_load1 (by kernel_rfl) Tryz.isAgg9 ((CellsAt.rb D6 (RB.trans y8 hq) (Nat.lt_of_lt_of_eq D4 v9) (fun h => by cases h)) 0 _ rfl))⟩) ?_
        refine r_take 4 (.pointer (some ⟨k4, 0, none⟩)) (RB.pre _ _) rfl (by kernel_rfl) (fun _ _ _ h => hQ.panic _ _ _ _ _ h) (.inl ⟨rfl, fun wq hq => (by kernel_rfl)⟩) ?_
        refine r_take 5 (.string ((lget z0.now z1).path)) (RB.pre _ _) rfl (by kernel_rfl) (fun _ _ _ h => hQ.panic _ _ _ _ _ h) (.inl ⟨rfl, fun wq hq => (x_load1 (by kernel_rfl) Tryz.isAgg9 ((Blk.rb u0.2.1 (RB.trans y8 hq) (Nat.lt_of_lt_of_eq (Blk.lt u0.2.1) v9) (fun h => by cases h)).cell' 0 rfl))⟩) ?_
        by_cases l9 : (lget z2 z1 : ByteArray) = (lget z0.now z1).path
        ·
         replace hp := hp.1 l9
         refine r_take 6 (.bool false) (RB.pre _ _) rfl (by kernel_rfl) (fun _ _ _ h => hQ.panic _ _ _ _ _ h) (.inl ⟨rfl, fun wq hq => (x_ndf (p := (lget z2 z1 : ByteArray) = (lget z0.now z1).path) (x_strne (by kernel_rfl) (by kernel_rfl)) l9)⟩) ?_
         refine r_take 7 (.bool false) (RB.pre _ _) rfl (by kernel_rfl) (fun _ _ _ h => hQ.panic _ _ _ _ _ h) (.inl ⟨rfl, fun wq hq => (by kernel_rfl)⟩) ?_
         refine r_take 8 (.int .i64 s0) (RB.pre _ _) rfl (by kernel_rfl) (fun _ _ _ h => hQ.panic _ _ _ _ _ h) (.inl ⟨(by kernel_rfl), fun wq hq => (by kernel_rfl)⟩) ?_
         refine r_take 9 (.int .i64 s1) (RB.pre _ _) rfl (by kernel_rfl) (fun _ _ _ h => hQ.panic _ _ _ _ _ h) (.inl ⟨(by kernel_rfl), fun wq hq => (by kernel_rfl)⟩) ?_
         obtain ⟨m00, hp⟩ := hp
         refine r_take 10 (.int .i64 (s0 + s1)) (RB.pre _ _) rfl (by kernel_rfl) (fun _ _ _ h => hQ.panic _ _ _ _ _ h) (.inl ⟨(by kernel_rfl), fun wq hq => (x_add2 (k := .i64) (a := s0) (b := s1) (s0 + s1) (by kernel_rfl) (by kernel_rfl) (wrap_inR m00))⟩) ?_
         by_cases m0 : (s0 + s1) = (0 : Int)
         ·
          replace hp := hp.1 m0
          refine r_take 11 (.bool false) (RB.pre _ _) rfl (by kernel_rfl) (fun _ _ _ h => hQ.panic _ _ _ _ _ h) (.inl ⟨(by kernel_rfl), fun wq hq => (x_ndf (p := (s0 + s1) = (0 : Int)) (by kernel_rfl) m0)⟩) ?_
          refine r_take 12 (.bool false) (RB.pre _ _) rfl (by kernel_rfl) (fun _ _ _ h => hQ.panic _ _ _ _ _ h) (.inl ⟨rfl, fun wq hq => (by kernel_rfl)⟩) ?_
          refine r_take 13 (.bool false) (RB.pre _ _) rfl (by kernel_rfl) (fun _ _ _ h => hQ.panic _ _ _ _ _ h) (.inl ⟨rfl, fun wq hq => (by kernel_rfl)⟩) ?_
          refine r_take 14 (.slice k2 t9.length k3) (RB.pre _ _) rfl (by kernel_rfl) (fun _ _ _ h => hQ.panic _ _ _ _ _ h) (.inl ⟨(by kernel_rfl), fun wq hq => (by kernel_rfl)⟩) ?_
          refine r_take 15 (.string (strOfNums t9)) (RB.pre _ _) rfl (by kernel_rfl) (fun _ _ _ h => hQ.panic _ _ _ _ _ h) (.inl ⟨(by kernel_rfl), fun wq hq => (x_b2s_sl (a := k2) (len := t9.length) (c := k3) t9 Tryz.underlying32 Tryz.underlying5 Tryz.underlying9 (by kernel_rfl) rfl (Sl.step D2 (stepR (RB.trans y8 hq) v9 (Sub.nil _))))⟩) ?_
          refine r_take 16 (.pointer (some ⟨k4, 1, none⟩)) (RB.pre _ _) rfl (by kernel_rfl) (fun _ _ _ h => hQ.panic _ _ _ _ _ h) (.inl ⟨(by kernel_rfl), fun wq hq => (by kernel_rfl)⟩) ?_
          refine r_take 17 (.string ((lget z0.now z1).data)) (RB.pre _ _) rfl (by kernel_rfl) (fun _ _ _ h => hQ.panic _ _ _ _ _ h) (.inl ⟨(by kernel_rfl), fun wq hq => (x_load1 (by kernel_rfl) Tryz.isAgg9 ((Blk.rb u0.2.1 (RB.trans y8 hq) (Nat.lt_of_lt_of_eq (Blk.lt u0.2.1) v9) (fun h => by cases h)).cell' 1 rfl))⟩) ?_
          by_cases m1 : (strOfNums t9 : ByteArray) = (lget z0.now z1).data
          ·
           replace hp := hp.1 m1
           refine r_take 18 (.bool false) (RB.pre _ _) rfl (by kernel_rfl) (fun _ _ _ h => hQ.panic _ _ _ _ _ h) (.inl ⟨(by kernel_rfl), fun wq hq => (x_ndf (p := (strOfNums t9 : ByteArray) = (lget z0.now z1).data) (x_strne (by kernel_rfl) (by kernel_rfl)) m1)⟩) ?_
           refine r_take 19 (.bool false) (RB.pre _ _) rfl (by kernel_rfl) (fun _ _ _ h => hQ.panic _ _ _ _ _ h) (.inl ⟨rfl, fun wq hq => (by kernel_rfl)⟩) ?_
           refine r_take 20 (.bool false) (RB.pre _ _) rfl (by kernel_rfl) (fun _ _ _ h => hQ.panic _ _ _ _ _ h) (.inl ⟨rfl, fun wq hq => (by kernel_rfl)⟩) ?_
           refine r_take 21 (.pointer (some ⟨l8, 0, none⟩)) (RB.pre _ _) rfl (by kernel_rfl) (fun _ _ _ h => hQ.panic _ _ _ _ _ h) (.inl ⟨(by kernel_rfl), fun wq hq => (by kernel_rfl)⟩) ?_
           refine r_take 22 (.int .i64 z3.Size) (RB.pre _ _) rfl (by kernel_rfl) (fun _ _ _ h => hQ.panic _ _ _ _ _ h) (.inl ⟨(by kernel_rfl), fun wq hq => (x_load1 (by kernel_rfl) Tryz.isAgg3 ((Blk.rb r6.2.1 (RB.trans y8 hq) (Nat.lt_of_lt_of_eq (Blk.lt r6.2.1) v9) (fun h => by cases h)).cell' 0 rfl))⟩) ?_
           refine r_take 23 (.pointer (some ⟨k4, 1, none⟩)) (RB.pre _ _) rfl (by kernel_rfl) (fun _ _ _ h => hQ.panic _ _ _ _ _ h) (.inl ⟨(by kernel_rfl), fun wq hq => (by kernel_rfl)⟩) ?_
           refine r_take 24 (.string ((lget z0.now z1).data)) (RB.pre _ _) rfl (by kernel_rfl) (fun _ _ _ h => hQ.panic _ _ _ _ _ h) (.inl ⟨(by kernel_rfl), fun wq hq => (x_load1 (by kernel_rfl) Tryz.isAgg9 ((Blk.rb u0.2.1 (RB.trans y8 hq) (Nat.lt_of_lt_of_eq (Blk.lt u0.2.1) v9) (fun h => by cases h)).cell' 1 rfl))⟩) ?_
           refine r_take 25 (.int .i64 (((lget z0.now z1).data).size : Int)) (RB.pre _ _) rfl (by kernel_rfl) (fun _ _ _ h => hQ.panic _ _ _ _ _ h) (.inl ⟨(by kernel_rfl), fun wq hq => (by kernel_rfl)⟩) ?_
           by_cases m2 : z3.Size = (((lget z0.now z1).data).size : Int)
           ·
            replace hp := hp.1 m2
            refine r_take 26 (.bool false) (RB.pre _ _) rfl (by kernel_rfl) (fun _ _ _ h => hQ.panic _ _ _ _ _ h) (.inl ⟨(by kernel_rfl), fun wq hq => (x_ndf (p := z3.Size = (((lget z0.now z1).data).size : Int)) (by kernel_rfl) m2)⟩) ?_
            refine r_take 27 (.bool false) (RB.pre _ _) rfl (by kernel_rfl) (fun _ _ _ h => hQ.panic _ _ _ _ _ h) (.inl ⟨rfl, fun wq hq => (by kernel_rfl)⟩) ?_
            refine r_take 28 (.bool false) (RB.pre _ _) rfl (by kernel_rfl) (fun _ _ _ h => hQ.panic _ _ _ _ _ h) (.inl ⟨rfl, fun wq hq => (by kernel_rfl)⟩) ?_
            refine r_take 29 (.pointer (some ⟨l8, 1, none⟩)) (RB.pre _ _) rfl (by kernel_rfl) (fun _ _ _ h => hQ.panic _ _ _ _ _ h) (.inl ⟨(by kernel_rfl), fun wq hq => (by kernel_rfl)⟩) ?_
            refine r_take 30 (.int .i64 z3.Time) (RB.pre _ _) rfl (by kernel_rfl) (fun _ _ _ h => hQ.panic _ _ _ _ _ h) (.inl ⟨(by kernel_rfl), fun wq hq => (x_load1 (by kernel_rfl) Tryz.isAgg3 ((Blk.rb r6.2.1 (RB.trans y8 hq) (Nat.lt_of_lt_of_eq (Blk.lt r6.2.1) v9) (fun h => by cases h)).cell' 1 rfl))⟩) ?_
            refine r_take 31 (.pointer (some ⟨k4, 3, none⟩)) (RB.pre _ _) rfl (by kernel_rfl) (fun _ _ _ h => hQ.panic _ _ _ _ _ h) (.inl ⟨(by kernel_rfl), fun wq hq => (by kernel_rfl)⟩) ?_
            refine r_take 32 (.int .i64 ((lget z0.now z1).time)) (RB.pre _ _) rfl (by kernel_rfl) (fun _ _ _ h => hQ.panic _ _ _ _ _ h) (.inl ⟨(by kernel_rfl), fun wq hq => (x_load1 (by kernel_rfl) Tryz.isAgg3 ((Blk.rb u0.2.1 (RB.trans y8 hq) (Nat.lt_of_lt_of_eq (Blk.lt u0.2.1) v9) (fun h => by cases h)).cell' 3 rfl))⟩) ?_
            by_cases m3 : z3.Time = ((lget z0.now z1).time)
            ·
             replace hp := hp.1 m3
             refine r_take 33 (.bool false) (RB.pre _ _) rfl (by kernel_rfl) (fun _ _ _ h => hQ.panic _ _ _ _ _ h) (.inl ⟨(by kernel_rfl), fun wq hq => (x_ndf (p := z3.Time = ((lget z0.now z1).time)) (by kernel_rfl) m3)⟩) ?_
             refine r_take 34 (.bool false) (RB.pre _ _) rfl (by kernel_rfl) (fun _ _ _ h => hQ.panic _ _ _ _ _ h) (.inl ⟨rfl, fun wq hq => (by kernel_rfl)⟩) ?_
             refine r_take 35 (.bool false) (RB.pre _ _) rfl (by kernel_rfl) (fun _ _ _ h => hQ.panic _ _ _ _ _ h) (.inl ⟨rfl, fun wq hq => (by kernel_rfl)⟩) ?_
             refine r_take 36 (.pointer (some ⟨l8, 2, none⟩)) (RB.pre _ _) rfl (by kernel_rfl) (fun _ _ _ h => hQ.panic _ _ _ _ _ h) (.inl ⟨(by kernel_rfl), fun wq hq => (by kernel_rfl)⟩) ?_
             refine r_take 37 (.int .i64 z3.Inode) (RB.pre _ _) rfl (by kernel_rfl) (fun _ _ _ h => hQ.panic _ _ _ _ _ h) (.inl ⟨(by kernel_rfl), fun wq hq => (x_load1 (by kernel_rfl) Tryz.isAgg3 ((Blk.rb r6.2.1 (RB.trans y8 hq) (Nat.lt_of_lt_of_eq (Blk.lt r6.2.1) v9) (fun h => by cases h)).cell' 2 rfl))⟩) ?_
             refine r_take 38 (.pointer (some ⟨k4, 4, none⟩)) (RB.pre _ _) rfl (by kernel_rfl) (fun _ _ _ h => hQ.panic _ _ _ _ _ h) (.inl ⟨(by kernel_rfl), fun wq hq => (by kernel_rfl)⟩) ?_
             refine r_take 39 (.int .i64 ((lget z0.now z1).inode)) (RB.pre _ _) rfl (by kernel_rfl) (fun _ _ _ h => hQ.panic _ _ _ _ _ h) (.inl ⟨(by kernel_rfl), fun wq hq => (x_load1 (by kernel_rfl) Tryz.isAgg3 ((Blk.rb u0.2.1 (RB.trans y8 hq) (Nat.lt_of_lt_of_eq (Blk.lt u0.2.1) v9) (fun h => by cases h)).cell' 4 rfl))⟩) ?_
             by_cases m4 : z3.Inode = ((lget z0.now z1).inode)
             ·
              replace hp := hp.1 m4
              refine r_take 40 (.bool false) (RB.pre _ _) rfl (by kernel_rfl) (fun _ _ _ h => hQ.panic _ _ _ _ _ h) (.inl ⟨(by kernel_rfl), fun wq hq => (x_ndf (p := z3.Inode = ((lget z0.now z1).inode)) (by kernel_rfl) m4)⟩) ?_
              refine r_take 41 (.bool false) (RB.pre _ _) rfl (by kernel_rfl) (fun _ _ _ h => hQ.panic _ _ _ _ _ h) (.inl ⟨rfl, fun wq hq => (by kernel_rfl)⟩) ?_
              refine r_take 42 (.bool false) (RB.pre _ _) rfl (by kernel_rfl) (fun _ _ _ h => hQ.panic _ _ _ _ _ h) (.inl ⟨rfl, fun wq hq => (by kernel_rfl)⟩) ?_
              refine r_take 43 (.pointer (some ⟨l8, 3, none⟩)) (RB.pre _ _) rfl (by kernel_rfl) (fun _ _ _ h => hQ.panic _ _ _ _ _ h) (.inl ⟨(by kernel_rfl), fun wq hq => (by kernel_rfl)⟩) ?_
              refine r_take 44 (.int .i64 z3.Mode) (RB.pre _ _) rfl (by kernel_rfl) (fun _ _ _ h => hQ.panic _ _ _ _ _ h) (.inl ⟨(by kernel_rfl), fun wq hq => (x_load1 (by kernel_rfl) Tryz.isAgg3 ((Blk.rb r6.2.1 (RB.trans y8 hq) (Nat.lt_of_lt_of_eq (Blk.lt r6.2.1) v9) (fun h => by cases h)).cell' 3 rfl))⟩) ?_
              refine r_take 45 (.pointer (some ⟨k4, 2, none⟩)) (RB.pre _ _) rfl (by kernel_rfl) (fun _ _ _ h => hQ.panic _ _ _ _ _ h) (.inl ⟨(by kernel_rfl), fun wq hq => (by kernel_rfl)⟩) ?_
              refine r_take 46 (.int .i64 ((lget z0.now z1).mode)) (RB.pre _ _) rfl (by kernel_rfl) (fun _ _ _ h => hQ.panic _ _ _ _ _ h) (.inl ⟨(by kernel_rfl), fun wq hq => (x_load1 (by kernel_rfl) Tryz.isAgg3 ((Blk.rb u0.2.1 (RB.trans y8 hq) (Nat.lt_of_lt_of_eq (Blk.lt u0.2.1) v9) (fun h => by cases h)).cell' 2 rfl))⟩) ?_
              refine r_take 47 (.bool (!decide (z3.Mode = ((lget z0.now z1).mode)))) (RB.pre _ _) rfl (by kernel_rfl) (fun _ _ _ h => hQ.panic _ _ _ _ _ h) (.inl ⟨(by kernel_rfl), fun wq hq => (by kernel_rfl)⟩) ?_
              refine r_take 48 (.bool (!decide (z3.Mode = ((lget z0.now z1).mode)))) (RB.pre _ _) rfl (by kernel_rfl) (fun _ _ _ h => hQ.panic _ _ _ _ _ h) (.inl ⟨rfl, fun wq hq => (by kernel_rfl)⟩) ?_
              refine r_done (by kernel_rfl) ?_
              refine then_normal (r2 _ _ _ ⟨[(165, (.bool (!decide (z3.Mode = ((lget z0.now z1).mode)))))], fit_mk (fun _ _ => rfl) (by kernel_rfl) (vs_cons (by kernel_rfl) vs_nil), ?_⟩)
              exact ⟨r5, (!decide (z3.Mode = ((lget z0.now z1).mode))), rfl, q0, t8, r3, r4, s8, q2, y5, v0, y6, y7, q1, hp⟩
             ·
              replace hp := hp.2 m4
              refine r_take 40 (.bool true) (RB.pre _ _) rfl (by kernel_rfl) (fun _ _ _ h => hQ.panic _ _ _ _ _ h) (.inl ⟨(by kernel_rfl), fun wq hq => (x_ndt (p := z3.Inode = ((lget z0.now z1).inode)) (by kernel_rfl) m4)⟩) ?_
              refine r_take 41 (.bool true) (RB.pre _ _) rfl (by kernel_rfl) (fun _ _ _ h => hQ.panic _ _ _ _ _ h) (.inl ⟨rfl, fun wq hq => (by kernel_rfl)⟩) ?_
              refine r_take 42 (.bool true) (RB.pre _ _) rfl (by kernel_rfl) (fun _ _ _ h => hQ.panic _ _ _ _ _ h) (.inl ⟨rfl, fun wq hq => (by kernel_rfl)⟩) ?_
              refine r_take 43 undef (RB.pre _ _) rfl (by kernel_rfl) (fun _ _ _ h => hQ.panic _ _ _ _ _ h) (.inr ⟨by kernel_rfl, rfl⟩) ?_
              refine r_take 44 undef (RB.pre _ _) rfl (by kernel_rfl) (fun _ _ _ h => hQ.panic _ _ _ _ _ h) (.inr ⟨by kernel_rfl, rfl⟩) ?_
              refine r_take 45 undef (RB.pre _ _) rfl (by kernel_rfl) (fun _ _ _ h => hQ.panic _ _ _ _ _ h) (.inr ⟨by kernel_rfl, rfl⟩) ?_
              refine r_take 46 undef (RB.pre _ _) rfl (by kernel_rfl) (fun _ _ _ h => hQ.panic _ _ _ _ _ h) (.inr ⟨by kernel_rfl, rfl⟩) ?_
              refine r_take 47 undef (RB.pre _ _) rfl (by kernel_rfl) (fun _ _ _ h => hQ.panic _ _ _ _ _ h) (.inr ⟨by kernel_rfl, rfl⟩) ?_
              refine r_take 48 (.bool true) (RB.pre _ _) rfl (by kernel_rfl) (fun _ _ _ h => hQ.panic _ _ _ _ _ h) (.inl ⟨rfl, fun wq hq => (by kernel_rfl)⟩) ?_
              refine r_done (by kernel_rfl) ?_
              refine then_normal (r2 _ _ _ ⟨[(165, (.bool true))], fit_mk (fun _ _ => rfl) (by kernel_rfl) (vs_cons (by kernel_rfl) vs_nil), ?_⟩)
              exact ⟨r5, true, rfl, q0, t8, r3, r4, s8, q2, y5, v0, y6, y7, q1, hp⟩
            ·
             replace hp := hp.2 m3
             refine r_take 33 (.bool true) (RB.pre _ _) rfl (by kernel_rfl) (fun _ _ _ h => hQ.panic _ _ _ _ _ h) (.inl ⟨(by kernel_rfl), fun wq hq => (x_ndt (p := z3.Time = ((lget z0.now z1).time)) (by kernel_rfl) m3)⟩) ?_
             refine r_take 34 (.bool true) (RB.pre _ _) rfl (by kernel_rfl) (fun _ _ _ h => hQ.panic _ _ _ _ _ h) (.inl ⟨rfl, fun wq hq => (by kernel_rfl)⟩) ?_
             refine r_take 35 (.bool true) (RB.pre _ _) rfl (by kernel_rfl) (fun _ _ _ h => hQ.panic _ _ _ _ _ h) (.inl ⟨rfl, fun wq hq => (by kernel_rfl)⟩) ?_
             refine r_take 36 undef (RB.pre _ _) rfl (by kernel_rfl) (fun _ _ _ h => hQ.panic _ _ _ _ _ h) (.inr ⟨by kernel_rfl, rfl⟩) ?_
             refine r_take 37 undef (RB.pre _ _) rfl (by kernel_rfl) (fun _ _ _ h => hQ.panic _ _ _ _ _ h) (.inr ⟨by kernel_rfl, rfl⟩) ?_
             refine r_take 38 undef (RB.pre _ _) rfl (by kernel_rfl) (fun _ _ _ h => hQ.panic _ _ _ _ _ h) (.inr ⟨by kernel_rfl, rfl⟩) ?_
             refine r_take 39 undef (RB.pre _ _) rfl (by kernel_rfl) (fun _ _ _ h => hQ.panic _ _ _ _ _ h) (.inr ⟨by kernel_rfl, rfl⟩) ?_
             refine r_take 40 undef (RB.pre _ _) rfl (by kernel_rfl) (fun _ _ _ h => hQ.panic _ _ _ _ _ h) (.inr ⟨by kernel_rfl, rfl⟩) ?_
             refine r_take 41 (.bool true) (RB.pre _ _) rfl (by kernel_rfl) (fun _ _ _ h => hQ.panic _ _ _ _ _ h) (.inl ⟨rfl, fun wq hq => (by kernel_rfl)⟩) ?_
             refine r_take 42 (.bool true) (RB.pre _ _) rfl (by kernel_rfl) (fun _ _ _ h => hQ.panic _ _ _ _ _ h) (.inl ⟨rfl, fun wq hq => (by kernel_rfl)⟩) ?_
             refine r_take 43 undef (RB.pre _ _) rfl (by kernel_rfl) (fun _ _ _ h => hQ.panic _ _ _ _ _ h) (.inr ⟨by kernel_rfl, rfl⟩) ?_
             refine r_take 44 undef (RB.pre _ _) rfl (by kernel_rfl) (fun _ _ _ h => hQ.panic _ _ _ _ _ h) (.inr ⟨by kernel_rfl, rfl⟩) ?_
             refine r_take 45 undef (RB.pre _ _) rfl (by kernel_rfl) (fun _ _ _ h => hQ.panic _ _ _ _ _ h) (.inr ⟨by kernel_rfl, rfl⟩) ?_
             refine r_take 46 undef (RB.pre _ _) rfl (by kernel_rfl) (fun _ _ _ h => hQ.panic _ _ _ _ _ h) (.inr ⟨by kernel_rfl, rfl⟩) ?_
             refine r_take 47 undef (RB.pre _ _) rfl (by kernel_rfl) (fun _ _ _ h => hQ.panic _ _ _ _ _ h) (.inr ⟨by kernel_rfl, rfl⟩) ?_
             refine r_take 48 (.bool true) (RB.pre _ _) rfl (by kernel_rfl) (fun _ _ _ h => hQ.panic _ _ _ _ _ h) (.inl ⟨rfl, fun wq hq => (by kernel_rfl)⟩) ?_
             refine r_done (by kernel_rfl) ?_
             refine then_normal (r2 _ _ _ ⟨[(165, (.bool true))], fit_mk (fun _ _ => rfl) (by kernel_rfl) (vs_cons (by kernel_rfl) vs_nil), ?_⟩)
             exact ⟨r5, true, rfl, q0, t8, r3, r4, s8, q2, y5, v0, y6, y7, q1, hp⟩
           ·
            replace hp := hp.2 m2
            refine r_take 26 (.bool true) (RB.pre _ _) rfl (by kernel_rfl) (fun _ _ _ h => hQ.panic _ _ _ _ _ h) (.inl ⟨(by kernel_rfl), fun wq hq => (x_ndt (p := z3.Size = (((lget z0.now z1).data).size : Int)) (by kernel_rfl) m2)⟩) ?_
            refine r_take 27 (.bool true) (RB.pre _ _) rfl (by kernel_rfl) (fun _ _ _ h => hQ.panic _ _ _ _ _ h) (.inl ⟨rfl, fun wq hq => (by kernel_rfl)⟩) ?_
            refine r_take 28 (.bool true) (RB.pre _ _) rfl (by kernel_rfl) (fun _ _ _ h => hQ.panic _ _ _ _ _ h) (.inl ⟨rfl, fun wq hq => (by kernel_rfl)⟩) ?_
            refine r_take 29 undef (RB.pre _ _) rfl (by kernel_rfl) (fun _ _ _ h => hQ.panic _ _ _ _ _ h) (.inr ⟨by kernel_rfl, rfl⟩) ?_
            refine r_take 30 undef (RB.pre _ _) rfl (by kernel_rfl) (fun _ _ _ h => hQ.panic _ _ _ _ _ h) (.inr ⟨by kernel_rfl, rfl⟩) ?_
            refine r_take 31 undef (RB.pre _ _) rfl (by kernel_rfl) (fun _ _ _ h => hQ.panic _ _ _ _ _ h) (.inr ⟨by kernel_rfl, rfl⟩) ?_
            refine r_take 32 undef (RB.pre _ _) rfl (by kernel_rfl) (fun _ _ _ h => hQ.panic _ _ _ _ _ h) (.inr ⟨by kernel_rfl, rfl⟩) ?_
            refine r_take 33 undef (RB.pre _ _) rfl (by kernel_rfl) (fun _ _ _ h => hQ.panic _ _ _ _ _ h) (.inr ⟨by kernel_rfl, rfl⟩) ?_
            refine r_take 34 (.bool true) (RB.pre _ _) rfl (by kernel_rfl) (fun _ _ _ h => hQ.panic _ _ _ _ _ h) (.inl ⟨rfl, fun wq hq => (by kernel_rfl)⟩) ?_
            refine r_take 35 (.bool true) (RB.pre _ _) rfl (by kernel_rfl) (fun _ _ _ h => hQ.panic _ _ _ _ _ h) (.inl ⟨rfl, fun wq hq => (by kernel_rfl)⟩) ?_
            refine r_take 36 undef (RB.pre _ _) rfl (by kernel_rfl) (fun _ _ _ h => hQ.panic _ _ _ _ _ h) (.inr ⟨by kernel_rfl, rfl⟩) ?_
            refine r_take 37 undef (RB.pre _ _) rfl (by kernel_rfl) (fun _ _ _ h => hQ.panic _ _ _ _ _ h) (.inr ⟨by kernel_rfl, rfl⟩) ?_
            refine r_take 38 undef (RB.pre _ _) rfl (by kernel_rfl) (fun _ _ _ h => hQ.panic _ _ _ _ _ h) (.inr ⟨by kernel_rfl, rfl⟩) ?_
            refine r_take 39 undef (RB.pre _ _) rfl (by kernel_rfl) (fun _ _ _ h => hQ.panic _ _ _ _ _ h) (.inr ⟨by kernel_rfl, rfl⟩) ?_
            refine r_take 40 undef (RB.pre _ _) rfl (by kernel_rfl) (fun _ _ _ h => hQ.panic _ _ _ _ _ h) (.inr ⟨by kernel_rfl, rfl⟩) ?_
            refine r_take 41 (.bool true) (RB.pre _ _) rfl (by kernel_rfl) (fun _ _ _ h => hQ.panic _ _ _ _ _ h) (.inl ⟨rfl, fun wq hq => (by kernel_rfl)⟩) ?_
            refine r_take 42 (.bool true) (RB.pre _ _) rfl (by kernel_rfl) (fun _ _ _ h => hQ.panic _ _ _ _ _ h) (.inl ⟨rfl, fun wq hq => (by kernel_rfl)⟩) ?_
            refine r_take 43 undef (RB.pre _ _) rfl (by kernel_rfl) (fun _ _ _ h => hQ.panic _ _ _ _ _ h) (.inr ⟨by kernel_rfl, rfl⟩) ?_
            refine r_take 44 undef (RB.pre _ _) rfl (by kernel_rfl) (fun _ _ _ h => hQ.panic _ _ _ _ _ h) (.inr ⟨by kernel_rfl, rfl⟩) ?_
            refine r_take 45 undef (RB.pre _ _) rfl (by kernel_rfl) (fun _ _ _ h => hQ.panic _ _ _ _ _ h) (.inr ⟨by kernel_rfl, rfl⟩) ?_
            refine r_take 46 undef (RB.pre _ _) rfl (by kernel_rfl) (fun _ _ _ h => hQ.panic _ _ _ _ _ h) (.inr ⟨by kernel_rfl, rfl⟩) ?_
            refine r_take 47 undef (RB.pre _ _) rfl (by kernel_rfl) (fun _ _ _ h => hQ.panic _ _ _ _ _ h) (.inr ⟨by kernel_rfl, rfl⟩) ?_
            refine r_take 48 (.bool true) (RB.pre _ _) rfl (by kernel_rfl) (fun _ _ _ h => hQ.panic _ _ _ _ _ h) (.inl ⟨rfl, fun wq hq => (by kernel_rfl)⟩) ?_
            refine r_done (by kernel_rfl) ?_
            refine then_normal (r2 _ _ _ ⟨[(165, (.bool true))], fit_mk (fun _ _ => rfl) (by kernel_rfl) (vs_cons (by kernel_rfl) vs_nil), ?_⟩)
            exact ⟨r5, true, rfl, q0, t8, r3, r4, s8, q2, y5, v0, y6, y7, q1, hp⟩
          ·
           replace hp := hp.2 m1
           refine r_take 18 (.bool true) (RB.pre _ _) rfl (by kernel_rfl) (fun _ _ _ h => hQ.panic _ _ _ _ _ h) (.inl ⟨(by kernel_rfl), fun wq hq => (x_ndt (p := (strOfNums t9 : ByteArray) = (lget z0.now z1).data) (x_strne (by kernel_rfl) (by kernel_rfl)) m1)⟩) ?_
           refine r_take 19 (.bool true) (RB.pre _ _) rfl (by kernel_rfl) (fun _ _ _ h => hQ.panic _ _ _ _ _ h) (.inl ⟨rfl, fun wq hq => (by kernel_rfl)⟩) ?_
           refine r_take 20 (.bool true) (RB.pre _ _) rfl (by kernel_rfl) (fun _ _ _ h => hQ.panic _ _ _ _ _ h) (.inl ⟨rfl, fun wq hq => (by kernel_rfl)⟩) ?_
           refine r_take 21 undef (RB.pre _ _) rfl (by kernel_rfl) (fun _ _ _ h => hQ.panic _ _ _ _ _ h) (.inr ⟨by kernel_rfl, rfl⟩) ?_
           refine r_take 22 undef (RB.pre _ _) rfl (by kernel_rfl) (fun _ _ _ h => hQ.panic _ _ _ _ _ h) (.inr ⟨by kernel_rfl, rfl⟩) ?_
           refine r_take 23 undef (RB.pre _ _) rfl (by kernel_rfl) (fun _ _ _ h => hQ.panic _ _ _ _ _ h) (.inr ⟨by kernel_rfl, rfl⟩) ?_
           refine r_take 24 undef (RB.pre _ _) rfl (by kernel_rfl) (fun _ _ _ h => hQ.panic _ _ _ _ _ h) (.inr ⟨by kernel_rfl, rfl⟩) ?_
           refine r_take 25 undef (RB.pre _ _) rfl (by kernel_rfl) (fun _ _ _ h => hQ.panic _ _ _ _ _ h) (.inr ⟨by kernel_rfl, rfl⟩) ?_
           refine r_take 26 undef (RB.pre _ _) rfl (by kernel_rfl) (fun _ _ _ h => hQ.panic _ _ _ _ _ h) (.inr ⟨by kernel_rfl, rfl⟩) ?_
           refine r_take 27 (.bool true) (RB.pre _ _) rfl (by kernel_rfl) (fun _ _ _ h => hQ.panic _ _ _ _ _ h) (.inl ⟨rfl, fun wq hq => (by kernel_rfl)⟩) ?_
           refine r_take 28 (.bool true) (RB.pre _ _) rfl (by kernel_rfl) (fun _ _ _ h => hQ.panic _ _ _ _ _ h) (.inl ⟨rfl, fun wq hq => (by kernel_rfl)⟩) ?_
           refine r_take 29 undef (RB.pre _ _) rfl (by kernel_rfl) (fun _ _ _ h => hQ.panic _ _ _ _ _ h) (.inr ⟨by kernel_rfl, rfl⟩) ?_
           refine r_take 30 undef (RB.pre _ _) rfl (by kernel_rfl) (fun _ _ _ h => hQ.panic _ _ _ _ _ h) (.inr ⟨by kernel_rfl, rfl⟩) ?_
           refine r_take 31 undef (RB.pre _ _) rfl (by kernel_rfl) (fun _ _ _ h => hQ.panic _ _ _ _ _ h) (.inr ⟨by kernel_rfl, rfl⟩) ?_
           refine r_take 32 undef (RB.pre _ _) rfl (by kernel_rfl) (fun _ _ _ h => hQ.panic _ _ _ _ _ h) (.inr ⟨by kernel_rfl, rfl⟩) ?_
           refine r_take 33 undef (RB.pre _ _) rfl (by kernel_rfl) (fun _ _ _ h => hQ.panic _ _ _ _ _ h) (.inr ⟨by kernel_rfl, rfl⟩) ?_
           refine r_take 34 (.bool true) (RB.pre _ _) rfl (by kernel_rfl) (fun _ _ _ h => hQ.panic _ _ _ _ _ h) (.inl ⟨rfl, fun wq hq => (by kernel_rfl)⟩) ?_
           refine r_take 35 (.bool true) (RB.pre _ _) rfl (by kernel_rfl) (fun _ _ _ h => hQ.panic _ _ _ _ _ h) (.inl ⟨rfl, fun wq hq => (by kernel_rfl)⟩) ?_
           refine r_take 36 undef (RB.pre _ _) rfl (by kernel_rfl) (fun _ _ _ h => hQ.panic _ _ _ _ _ h) (.inr ⟨by kernel_rfl, rfl⟩) ?_
           refine r_take 37 undef (RB.pre _ _) rfl (by kernel_rfl) (fun _ _ _ h => hQ.panic _ _ _ _ _ h) (.inr ⟨by kernel_rfl, rfl⟩) ?_
           refine r_take 38 undef (RB.pre _ _) rfl (by kernel_rfl) (fun _ _ _ h => hQ.panic _ _ _ _ _ h) (.inr ⟨by kernel_rfl, rfl⟩) ?_
           refine r_take 39 undef (RB.pre _ _) rfl (by kernel_rfl) (fun _ _ _ h => hQ.panic _ _ _ _ _ h) (.inr ⟨by kernel_rfl, rfl⟩) ?_
           refine r_take 40 undef (RB.pre _ _) rfl (by kernel_rfl) (fun _ _ _ h => hQ.panic _ _ _ _ _ h) (.inr ⟨by kernel_rfl, rfl⟩) ?_
           refine r_take 41 (.bool true) (RB.pre _ _) rfl (by kernel_rfl) (fun _ _ _ h => hQ.panic _ _ _ _ _ h) (.inl ⟨rfl, fun wq hq => (by kernel_rfl)⟩) ?_
           refine r_take 42 (.bool true) (RB.pre _ _) rfl (by kernel_rfl) (fun _ _ _ h => hQ.panic _ _ _ _ _ h) (.inl ⟨rfl, fun wq hq => (by kernel_rfl)⟩) ?_
           refine r_take 43 undef (RB.pre _ _) rfl (by kernel_rfl) (fun _ _ _ h => hQ.panic _ _ _ _ _ h) (.inr ⟨by kernel_rfl, rfl⟩) ?_
           refine r_take 44 undef (RB.pre _ _) rfl (by kernel_rfl) (fun _ _ _ h => hQ.panic _ _ _ _ _ h) (.inr ⟨by kernel_rfl, rfl⟩) ?_
           refine r_take 45 undef (RB.pre _ _) rfl (by kernel_rfl) (fun _ _ _ h => hQ.panic _ _ _ _ _ h) (.inr ⟨by kernel_rfl, rfl⟩) ?_
           refine r_take 46 undef (RB.pre _ _) rfl (by kernel_rfl) (fun _ _ _ h => hQ.panic _ _ _ _ _ h) (.inr ⟨by kernel_rfl, rfl⟩) ?_
           refine r_take 47 undef (RB.pre _ _) rfl (by kernel_rfl) (fun _ _ _ h => hQ.panic _ _ _ _ _ h) (.inr ⟨by kernel_rfl, rfl⟩) ?_
           refine r_take 48 (.bool true) (RB.pre _ _) rfl (by kernel_rfl) (fun _ _ _ h => hQ.panic _ _ _ _ _ h) (.inl ⟨rfl, fun wq hq => (by kernel_rfl)⟩) ?_
           refine r_done (by kernel_rfl) ?_
           refine then_normal (r2 _ _ _ ⟨[(165, (.bool true))], fit_mk (fun _ _ => rfl) (by kernel_rfl) (vs_cons (by kernel_rfl) vs_nil), ?_⟩)
           exact ⟨r5, true, rfl, q0, t8, r3, r4, s8, q2, y5, v0, y6, y7, q1, hp⟩
         ·
          replace hp := hp.2 m0
          refine r_take 11 (.bool true) (RB.pre _ _) rfl (by kernel_rfl) (fun _ _ _ h => hQ.panic _ _ _ _ _ h) (.inl ⟨(by kernel_rfl), fun wq hq => (x_ndt (p := (s0 + s1) = (0 : Int)) (by kernel_rfl) m0)⟩) ?_
          refine r_take 12 (.bool true) (RB.pre _ _) rfl (by kernel_rfl) (fun _ _ _ h => hQ.panic _ _ _ _ _ h) (.inl ⟨rfl, fun wq hq => (by kernel_rfl)⟩) ?_
          refine r_take 13 (.bool true) (RB.pre _ _) rfl (by kernel_rfl) (fun _ _ _ h => hQ.panic _ _ _ _ _ h) (.inl ⟨rfl, fun wq hq => (by kernel_rfl)⟩) ?_
          refine r_take 14 undef (RB.pre _ _) rfl (by kernel_rfl) (fun _ _ _ h => hQ.panic _ _ _ _ _ h) (.inr ⟨by kernel_rfl, rfl⟩) ?_
          refine r_take 15 undef (RB.pre _ _) rfl (by kernel_rfl) (fun _ _ _ h => hQ.panic _ _ _ _ _ h) (.inr ⟨by kernel_rfl, rfl⟩) ?_
          refine r_take 16 undef (RB.pre _ _) rfl (by kernel_rfl) (fun _ _ _ h => hQ.panic _ _ _ _ _ h) (.inr ⟨by kernel_rfl, rfl⟩) ?_
          refine r_take 17 undef (RB.pre _ _) rfl (by kernel_rfl) (fun _ _ _ h => hQ.panic _ _ _ _ _ h) (.inr ⟨by kernel_rfl, rfl⟩) ?_
          refine r_take 18 undef (RB.pre _ _) rfl (by kernel_rfl) (fun _ _ _ h => hQ.panic _ _ _ _ _ h) (.inr ⟨by kernel_rfl, rfl⟩) ?_
          refine r_take 19 (.bool true) (RB.pre _ _) rfl (by kernel_rfl) (fun _ _ _ h => hQ.panic _ _ _ _ _ h) (.inl ⟨rfl, fun wq hq => (by kernel_rfl)⟩) ?_
          refine r_take 20 (.bool true) (RB.pre _ _) rfl (by kernel_rfl) (fun _ _ _ h => hQ.panic _ _ _ _ _ h) (.inl ⟨rfl, fun wq hq => (by kernel_rfl)⟩) ?_
          refine r_take 21 undef (RB.pre _ _) rfl (by kernel_rfl) (fun _ _ _ h => hQ.panic _ _ _ _ _ h) (.inr ⟨by kernel_rfl, rfl⟩) ?_
          refine r_take 22 undef (RB.pre _ _) rfl (by kernel_rfl) (fun _ _ _ h => hQ.panic _ _ _ _ _ h) (.inr ⟨by kernel_rfl, rfl⟩) ?_
          refine r_take 23 undef (RB.pre _ _) rfl (by kernel_rfl) (fun _ _ _ h => hQ.panic _ _ _ _ _ h) (.inr ⟨by kernel_rfl, rfl⟩) ?_
          refine r_take 24 undef (RB.pre _ _) rfl (by kernel_rfl) (fun _ _ _ h => hQ.panic _ _ _ _ _ h) (.inr ⟨by kernel_rfl, rfl⟩) ?_
          refine r_take 25 undef (RB.pre _ _) rfl (by kernel_rfl) (fun _ _ _ h => hQ.panic _ _ _ _ _ h) (.inr ⟨by kernel_rfl, rfl⟩) ?_
          refine r_take 26 undef (RB.pre _ _) rfl (by kernel_rfl) (fun _ _ _ h => hQ.panic _ _ _ _ _ h) (.inr ⟨by kernel_rfl, rfl⟩) ?_
          refine r_take 27 (.bool true) (RB.pre _ _) rfl (by kernel_rfl) (fun _ _ _ h => hQ.panic _ _ _ _ _ h) (.inl ⟨rfl, fun wq hq => (by kernel_rfl)⟩) ?_
          refine r_take 28 (.bool true) (RB.pre _ _) rfl (by kernel_rfl) (fun _ _ _ h => hQ.panic _ _ _ _ _ h) (.inl ⟨rfl, fun wq hq => (by kernel_rfl)⟩) ?_
          refine r_take 29 undef (RB.pre _ _) rfl (by kernel_rfl) (fun _ _ _ h => hQ.panic _ _ _ _ _ h) (.inr ⟨by kernel_rfl, rfl⟩) ?_
          refine r_take 30 undef (RB.pre _ _) rfl (by kernel_rfl) (fun _ _ _ h => hQ.panic _ _ _ _ _ h) (.inr ⟨by kernel_rfl, rfl⟩) ?_
          refine r_take 31 undef (RB.pre _ _) rfl (by kernel_rfl) (fun _ _ _ h => hQ.panic _ _ _ _ _ h) (.inr ⟨by kernel_rfl, rfl⟩) ?_
          refine r_take 32 undef (RB.pre _ _) rfl (by kernel_rfl) (fun _ _ _ h => hQ.panic _ _ _ _ _ h) (.inr ⟨by kernel_rfl, rfl⟩) ?_
          refine r_take 33 undef (RB.pre _ _) rfl (by kernel_rfl) (fun _ _ _ h => hQ.panic _ _ _ _ _ h) (.inr ⟨by kernel_rfl, rfl⟩) ?_
          refine r_take 34 (.bool true) (RB.pre _ _) rfl (by kernel_rfl) (fun _ _ _ h => hQ.panic _ _ _ _ _ h) (.inl ⟨rfl, fun wq hq => (by kernel_rfl)⟩) ?_
          refine r_take 35 (.bool true) (RB.pre _ _) rfl (by kernel_rfl) (fun _ _ _ h => hQ.panic _ _ _ _ _ h) (.inl ⟨rfl, fun wq hq => (by kernel_rfl)⟩) ?_
          refine r_take 36 undef (RB.pre _ _) rfl (by kernel_rfl) (fun _ _ _ h => hQ.panic _ _ _ _ _ h) (.inr ⟨by kernel_rfl, rfl⟩) ?_
          refine r_take 37 undef (RB.pre _ _) rfl (by kernel_rfl) (fun _ _ _ h => hQ.panic _ _ _ _ _ h) (.inr ⟨by kernel_rfl, rfl⟩) ?_
          refine r_take 38 undef (RB.pre _ _) rfl (by kernel_rfl) (fun _ _ _ h => hQ.panic _ _ _ _ _ h) (.inr ⟨by kernel_rfl, rfl⟩) ?_
          refine r_take 39 undef (RB.pre _ _) rfl (by kernel_rfl) (fun _ _ _ h => hQ.panic _ _ _ _ _ h) (.inr ⟨by kernel_rfl, rfl⟩) ?_
          refine r_take 40 undef (RB.pre _ _) rfl (by kernel_rfl) (fun _ _ _ h => hQ.panic _ _ _ _ _ h) (.inr ⟨by kernel_rfl, rfl⟩) ?_
          refine r_take 41 (.bool true) (RB.pre _ _) rfl (by kernel_rfl) (fun _ _ _ h => hQ.panic _ _ _ _ _ h) (.inl ⟨rfl, fun wq hq => (by kernel_rfl)⟩) ?_
          refine r_take 42 (.bool true) (RB.pre _ _) rfl (by kernel_rfl) (fun _ _ _ h => hQ.panic _ _ _ _ _ h) (.inl ⟨rfl, fun wq hq => (by kernel_rfl)⟩) ?_
          refine r_take 43 undef (RB.pre _ _) rfl (by kernel_rfl) (fun _ _ _ h => hQ.panic _ _ _ _ _ h) (.inr ⟨by kernel_rfl, rfl⟩) ?_
          refine r_take 44 undef (RB.pre _ _) rfl (by kernel_rfl) (fun _ _ _ h => hQ.panic _ _ _ _ _ h) (.inr ⟨by kernel_rfl, rfl⟩) ?_
          refine r_take 45 undef (RB.pre _ _) rfl (by kernel_rfl) (fun _ _ _ h => hQ.panic _ _ _ _ _ h) (.inr ⟨by kernel_rfl, rfl⟩) ?_
          refine r_take 46 undef (RB.pre _ _) rfl (by kernel_rfl) (fun _ _ _ h => hQ.panic _ _ _ _ _ h) (.inr ⟨by kernel_rfl, rfl⟩) ?_
          refine r_take 47 undef (RB.pre _ _) rfl (by kernel_rfl) (fun _ _ _ h => hQ.panic _ _ _ _ _ h) (.inr ⟨by kernel_rfl, rfl⟩) ?_
          refine r_take 48 (.bool true) (RB.pre _ _) rfl (by kernel_rfl) (fun _ _ _ h => hQ.panic _ _ _ _ _ h) (.inl ⟨rfl, fun wq hq => (by kernel_rfl)⟩) ?_
          refine r_done (by kernel_rfl) ?_
          refine then_normal (r2 _ _ _ ⟨[(165, (.bool true))], fit_mk (fun _ _ => rfl) (by kernel_rfl) (vs_cons (by kernel_rfl) vs_nil), ?_⟩)
          exact ⟨r5, true, rfl, q0, t8, r3, r4, s8, q2, y5, v0, y6, y7, q1, hp⟩
        ·
         replace hp := hp.2 l9
         refine r_take 6 (.bool true) (RB.pre _ _) rfl (by kernel_rfl) (fun _ _ _ h => hQ.panic _ _ _ _ _ h) (.inl ⟨rfl, fun wq hq => (x_ndt (p := (lget z2 z1 : ByteArray) = (lget z0.now z1).path) (x_strne (by kernel_rfl) (by kernel_rfl)) l9)⟩) ?_
         refine r_take 7 (.bool true) (RB.pre _ _) rfl (by kernel_rfl) (fun _ _ _ h => hQ.panic _ _ _ _ _ h) (.inl ⟨rfl, fun wq hq => (by kernel_rfl)⟩) ?_
         refine r_take 8 undef (RB.pre _ _) rfl (by kernel_rfl) (fun _ _ _ h => hQ.panic _ _ _ _ _ h) (.inr ⟨by kernel_rfl, rfl⟩) ?_
         refine r_take 9 undef (RB.pre _ _) rfl (by kernel_rfl) (fun _ _ _ h => hQ.panic _ _ _ _ _ h) (.inr ⟨by kernel_rfl, rfl⟩) ?_
         refine r_take 10 undef (RB.pre _ _) rfl (by kernel_rfl) (fun _ _ _ h => hQ.panic _ _ _ _ _ h) (.inr ⟨by kernel_rfl, rfl⟩) ?_
         refine r_take 11 undef (RB.pre _ _) rfl (by kernel_rfl) (fun _ _ _ h => hQ.panic _ _ _ _ _ h) (.inr ⟨by kernel_rfl, rfl⟩) ?_
         refine r_take 12 (.bool true) (RB.pre _ _) rfl (by kernel_rfl) (fun _ _ _ h => hQ.panic _ _ _ _ _ h) (.inl ⟨rfl, fun wq hq => (by kernel_rfl)⟩) ?_
         refine r_take 13 (.bool true) (RB.pre _ _) rfl (by kernel_rfl) (fun _ _ _ h => hQ.panic _ _ _ _ _ h) (.inl ⟨rfl, fun wq hq => (by kernel_rfl)⟩) ?_
         refine r_take 14 undef (RB.pre _ _) rfl (by kernel_rfl) (fun _ _ _ h => hQ.panic _ _ _ _ _ h) (.inr ⟨by kernel_rfl, rfl⟩) ?_
         refine r_take 15 undef (RB.pre _ _) rfl (by kernel_rfl) (fun _ _ _ h => hQ.panic _ _ _ _ _ h) (.inr ⟨by kernel_rfl, rfl⟩) ?_
         refine r_take 16 undef (RB.pre _ _) rfl (by kernel_rfl) (fun _ _ _ h => hQ.panic _ _ _ _ _ h) (.inr ⟨by kernel_rfl, rfl⟩) ?_
         refine r_take 17 undef (RB.pre _ _) rfl (by kernel_rfl) (fun _ _ _ h => hQ.panic _ _ _ _ _ h) (.inr ⟨by kernel_rfl, rfl⟩) ?_
         refine r_take 18 undef (RB.pre _ _) rfl (by kernel_rfl) (fun _ _ _ h => hQ.panic _ _ _ _ _ h) (.inr ⟨by kernel_rfl, rfl⟩) ?_
         refine r_take 19 (.bool true) (RB.pre _ _) rfl (by kernel_rfl) (fun _ _ _ h => hQ.panic _ _ _ _ _ h) (.inl ⟨rfl, fun wq hq => (by kernel_rfl)⟩) ?_
         refine r_take 20 (.bool true) (RB.pre _ _) rfl (by kernel_rfl) (fun _ _ _ h => hQ.panic _ _ _ _ _ h) (.inl ⟨rfl, fun wq hq => (by kernel_rfl)⟩) ?_
         refine r_take 21 undef (RB.pre _ _) rfl (by kernel_rfl) (fun _ _ _ h => hQ.panic _ _ _ _ _ h) (.inr ⟨by kernel_rfl, rfl⟩) ?_
         refine r_take 22 undef (RB.pre _ _) rfl (by kernel_rfl) (fun _ _ _ h => hQ.panic _ _ _ _ _ h) (.inr ⟨by kernel_rfl, rfl⟩) ?_
         refine r_take 23 undef (RB.pre _ _) rfl (by kernel_rfl) (fun _ _ _ h => hQ.panic _ _ _ _ _ h) (.inr ⟨by kernel_rfl, rfl⟩) ?_
         refine r_take 24 undef (RB.pre _ _) rfl (by kernel_rfl) (fun _ _ _ h => hQ.panic _ _ _ _ _ h) (.inr ⟨by kernel_rfl, rfl⟩) ?_
         refine r_take 25 undef (RB.pre _ _) rfl (by kernel_rfl) (fun _ _ _ h => hQ.panic _ _ _ _ _ h) (.inr ⟨by kernel_rfl, rfl⟩) ?_
         refine r_take 26 undef (RB.pre _ _) rfl (by kernel_rfl) (fun _ _ _ h => hQ.panic _ _ _ _ _ h) (.inr ⟨by kernel_rfl, rfl⟩) ?_
         refine r_take 27 (.bool true) (RB.pre _ _) rfl (by kernel_rfl) (fun _ _ _ h => hQ.panic _ _ _ _ _ h) (.inl ⟨rfl, fun wq hq => (by kernel_rfl)⟩) ?_
         refine r_take 28 (.bool true) (RB.pre _ _) rfl (by kernel_rfl) (fun _ _ _ h => hQ.panic _ _ _ _ _ h) (.inl ⟨rfl, fun wq hq => (by kernel_rfl)⟩) ?_
         refine r_take 29 undef (RB.pre _ _) rfl (by kernel_rfl) (fun _ _ _ h => hQ.panic _ _ _ _ _ h) (.inr ⟨by kernel_rfl, rfl⟩) ?_
         refine r_take 30 undef (RB.pre _ _) rfl (by kernel_rfl) (fun _ _ _ h => hQ.panic _ _ _ _ _ h) (.inr ⟨by kernel_rfl, rfl⟩) ?_
         refine r_take 31 undef (RB.pre _ _) rfl (by kernel_rfl) (fun _ _ _ h => hQ.panic _ _ _ _ _ h) (.inr ⟨by kernel_rfl, rfl⟩) ?_
         refine r_take 32 undef (RB.pre _ _) rfl (by kernel_rfl) (fun _ _ _ h => hQ.panic _ _ _ _ _ h) (.inr ⟨by kernel_rfl, rfl⟩) ?_
         refine r_take 33 undef (RB.pre _ _) rfl (by kernel_rfl) (fun _ _ _ h => hQ.panic _ _ _ _ _ h) (.inr ⟨by kernel_rfl, rfl⟩) ?_
         refine r_take 34 (.bool true) (RB.pre _ _) rfl (by kernel_rfl) (fun _ _ _ h => hQ.panic _ _ _ _ _ h) (.inl ⟨rfl, fun wq hq => (by kernel_rfl)⟩) ?_
         refine r_take 35 (.bool true) (RB.pre _ _) rfl (by kernel_rfl) (fun _ _ _ h => hQ.panic _ _ _ _ _ h) (.inl ⟨rfl, fun wq hq => (by kernel_rfl)⟩) ?_
         refine r_take 36 undef (RB.pre _ _) rfl (by kernel_rfl) (fun _ _ _ h => hQ.panic _ _ _ _ _ h) (.inr ⟨by kernel_rfl, rfl⟩) ?_
         refine r_take 37 undef (RB.pre _ _) rfl (by kernel_rfl) (fun _ _ _ h => hQ.panic _ _ _ _ _ h) (.inr ⟨by kernel_rfl, rfl⟩) ?_
         refine r_take 38 undef (RB.pre _ _) rfl (by kernel_rfl) (fun _ _ _ h => hQ.panic _ _ _ _ _ h) (.inr ⟨by kernel_rfl, rfl⟩) ?_
         refine r_take 39 undef (RB.pre _ _) rfl (by kernel_rfl) (fun _ _ _ h => hQ.panic _ _ _ _ _ h) (.inr ⟨by kernel_rfl, rfl⟩) ?_
         refine r_take 40 undef (RB.pre _ _) rfl (by kernel_rfl) (fun _ _ _ h => hQ.panic _ _ _ _ _ h) (.inr ⟨by kernel_rfl, rfl⟩) ?_
         refine r_take 41 (.bool true) (RB.pre _ _) rfl (by kernel_rfl) (fun _ _ _ h => hQ.panic _ _ _ _ _ h) (.inl ⟨rfl, fun wq hq => (by kernel_rfl)⟩) ?_
         refine r_take 42 (.bool true) (RB.pre _ _) rfl (by kernel_rfl) (fun _ _ _ h => hQ.panic _ _ _ _ _ h) (.inl ⟨rfl, fun wq hq => (by kernel_rfl)⟩) ?_
         refine r_take 43 undef (RB.pre _ _) rfl (by kernel_rfl) (fun _ _ _ h => hQ.panic _ _ _ _ _ h) (.inr ⟨by kernel_rfl, rfl⟩) ?_
         refine r_take 44 undef (RB.pre _ _) rfl (by kernel_rfl) (fun _ _ _ h => hQ.panic _ _ _ _ _ h) (.inr ⟨by kernel_rfl, rfl⟩) ?_
         refine r_take 45 undef (RB.pre _ _) rfl (by kernel_rfl) (fun _ _ _ h => hQ.panic _ _ _ _ _ h) (.inr ⟨by kernel_rfl, rfl⟩) ?_
         refine r_take 46 undef (RB.pre _ _) rfl (by kernel_rfl) (fun _ _ _ h => hQ.panic _ _ _ _ _ h) (.inr ⟨by kernel_rfl, rfl⟩) ?_
         refine r_take 47 undef (RB.pre _ _) rfl (by kernel_rfl) (fun _ _ _ h => hQ.panic _ _ _ _ _ h) (.inr ⟨by kernel_rfl, rfl⟩) ?_
         refine r_take 48 (.bool true) (RB.pre _ _) rfl (by kernel_rfl) (fun _ _ _ h => hQ.panic _ _ _ _ _ h) (.inl ⟨rfl, fun wq hq => (by kernel_rfl)⟩) ?_
         refine r_done (by kernel_rfl) ?_
         refine then_normal (r2 _ _ _ ⟨[(165, (.bool true))], fit_mk (fun _ _ => rfl) (by kernel_rfl) (vs_cons (by kernel_rfl) vs_nil), ?_⟩)
         exact ⟨r5, true, rfl, q0, t8, r3, r4, s8, q2, y5, v0, y6, y7, q1, hp⟩
       ·
        rintro _ t6 b02 ⟨v4, j8, rfl, L5, K1, V3, V4, D8, L6, j9, l0, g0, g1, L7, D9⟩
        replace hp := D1 j8 D9
        refine then_normal (t00 _ _ _ _ ?_)
        refine cond_b j8 (by kernel_rfl) (fun f2 => ?_) (fun f2 => ?_)
        ·
         replace hp := hp.1 f2
         refine seq_ (fun _ n00 => ?_)
         refine reg_ ?_
         refine sq (o_pv (.bool false) rfl (by kernel_rfl) ?_)
         refine nil_ ?_
         refine then_normal (n00 _ _ _ _ ?_)
         refine wp_ret ?_
         refine blk_ret ?_
         refine then_ret ?_
         refine then_ret ?_
         refine blk_ret ?_
         refine then_ret ?_
         obtain ⟨o00, c00, C0⟩ := MO.pack (o_rectolaw5_Disk_mk L7 j9 rfl l0 rfl g0 rfl t0 s5 t1 s6 g1 rfl s7)
         have a00 := C0 _ (Ap.cons (Ap.symm M8) (Ap.app (Ap.nil_r _) (Ap.app (Ap.nil_r _) (Ap.app (Ap.nil_r _) (Ap.app (Ap.nil_r _) (Ap.app (Ap.nil_r _) (Ap.app (Ap.nil_r _) (Ap.app (Ap.nil_r _) (Ap.app (Ap.nil_r _) (Ap.app (Ap.nil_r _) (Ap.app (Ap.nil_r _) (Ap.nil_r _))))))))))))
         refine end_ret hQ (.bool false) (by kernel_rfl) ?_
         exact ⟨o6, z0, false, hp, v4, b2, o00, step_of L5 f3 V3 V4, rfl, L6, c00, a00⟩
        ·
         replace hp := hp.2 f2
         refine wp_skip ?_
         refine blk_normal ?_
         refine then_normal (S7 _ _ _ _ ?_)
         refine reg_ ?_
         refine sq (o_pv (.int .i64 z1) rfl (by kernel_rfl) ?_)
         obtain ⟨L8, hp⟩ := hp
         refine sq (o_pv (.int .i64 (z1 + (1 : Int))) rfl (x_add2 (k := .i64) (a := z1) (b := (1 : Int)) (z1 + (1 : Int)) (by kernel_rfl) (by kernel_rfl) (wrap_inR L8)) ?_)
         refine sq (o_pv (.int .i64 (z1 + (1 : Int))) rfl (by kernel_rfl) ?_)
         refine nil_ ?_
         refine then_normal (H0 _ _ _ ⟨_, [(7, (.int .i64 (z1 + (1 : Int))))], hp.2, fit_mk (AgB.nest (AgB.look (AgB.mix _ _ _) (by kernel_rfl)) (by kernel_rfl) (by kernel_rfl)) (by kernel_rfl) (vs_cons (by kernel_rfl) vs_nil), ?_⟩)
         exact ⟨v4, (z1 + (1 : Int)), o6, b2, rfl, rfl, L5, K1, V3, V4, D8, j9, l0, g0, g1, L7, L6, M8, L8, hp.1⟩
      ·
       replace hp := hp.2 i7
       refine wp_exit ?_
       refine then_exit ?_
       refine then_exit ?_
       refine blk_exit ?_
       refine then_normal (G01 _ _ _ _ ?_)
       refine seq_ (fun _ e00 => ?_)
       refine reg_ ?_
       refine sq (o_pv (.bool true) rfl (by kernel_rfl) ?_)
       refine nil_ ?_
       refine then_normal (e00 _ _ _ _ ?_)
       refine wp_ret ?_
       obtain ⟨i00, h00, C1⟩ := MO.pack (o_rectolaw5_Disk_mk l6 j5 rfl k1 rfl j6 rfl t0 s5 t1 s6 j7 rfl s7)
       have b00 := C1 _ (Ap.cons (Ap.symm i6) (Ap.app (Ap.nil_r _) (Ap.app (Ap.nil_r _) (Ap.app (Ap.nil_r _) (Ap.app (Ap.nil_r _) (Ap.app (Ap.nil_r _) (Ap.app (Ap.nil_r _) (Ap.app (Ap.nil_r _) (Ap.app (Ap.nil_r _) (Ap.app (Ap.nil_r _) (Ap.app (Ap.nil_r _) (Ap.nil_r _))))))))))))
       refine end_ret hQ (.bool true) (by kernel_rfl) ?_
       exact ⟨j1, z0, true, hp, v1, i4, i00, step_of i5 f3 Y3 Y4, rfl, R6, h00, b00⟩
end Go.Proofs.YtaolmfepdmgohaaGreatDoor
