/- Walks of functions: what each asks and computes, as a plain predicate, and the contract from it. -/
import Derived.Test.YtkmenljohhngjaaDoorChecked
import Derived.Test.YtkmenljohhngjaaDoorDf4
import Derived.Test.YtkmenljohhngjaaDoorLib
import Derived.Test.YtkmenljohhngjaaDoorShelf
namespace Go.Proofs.YtkmenljohhngjaaDoor
open Go


def rectoref3_Words_p (w_ : S_rectoref3_Wrong) (Q : ByteArray → Prop) : Prop :=
  ((w_.Parts.length ≤ 9223372036854775807) → ((inR .i64 w_.Err) → (∃ (I71 : ByteArray → Int → Prop) (m72 : ByteArray → Int → Nat), (I71 (ByteArray.mk #[]) (0 : Int)) ∧ (∀ (s15 : ByteArray) (i17 : Int), (I71 s15 i17) → (s15.size ≤ maxLen) → (inR .i64 i17) → (((i17 < (w_.Parts.length : Int)) → ((inL w_.Parts i17) ∧ ((((lget w_.Parts i17).Word).size ≤ maxLen) → ((inR .i64 ((lget w_.Parts i17).At)) → (((s15 ++ ((lget w_.Parts i17).Word)).size ≤ maxLen) ∧ ((((s15 ++ ((lget w_.Parts i17).Word)) ++ (ByteArray.mk #[32])).size ≤ maxLen) ∧ ((inL w_.Parts i17) ∧ ((((lget w_.Parts i17).Word).size ≤ maxLen) → ((inR .i64 ((lget w_.Parts i17).At)) → (rectoref3_Decimal_p ((lget w_.Parts i17).At) (fun (r129 : ByteArray) => ((r129.size ≤ maxLen) → (((((s15 ++ ((lget w_.Parts i17).Word)) ++ (ByteArray.mk #[32])) ++ r129).size ≤ maxLen) ∧ ((((((s15 ++ ((lget w_.Parts i17).Word)) ++ (ByteArray.mk #[32])) ++ r129) ++ (ByteArray.mk #[58, 32])).size ≤ maxLen) ∧ ((inR .i64 (i17 + (1 : Int))) ∧ ((I71 ((((s15 ++ ((lget w_.Parts i17).Word)) ++ (ByteArray.mk #[32])) ++ r129) ++ (ByteArray.mk #[58, 32])) (i17 + (1 : Int))) ∧ m72 ((((s15 ++ ((lget w_.Parts i17).Word)) ++ (ByteArray.mk #[32])) ++ r129) ++ (ByteArray.mk #[58, 32])) (i17 + (1 : Int)) < m72 s15 i17)))))))))))))))) ∧ ((¬ (i17 < (w_.Parts.length : Int))) → (rectoref3_Word_p w_.Err (fun (r144 : ByteArray) => ((r144.size ≤ maxLen) → (((s15 ++ r144).size ≤ maxLen) ∧ Q (s15 ++ r144)))))))))))
set_option maxRecDepth 20000 in
set_option maxHeartbeats 4000000 in
theorem rectoref3_Words_w {X : List Nat} {w : World} {w_ : S_rectoref3_Wrong} {aw_Parts1 : Option Addr} {cw_Parts2 : Nat} {Q : ByteArray → Prop} (hX0 : Old X w) (hw_Parts3 : Sl r_rectoref3_Part X w aw_Parts1 cw_Parts2 w_.Parts) (rw_Err4 : inR .i64 w_.Err) (hp : rectoref3_Words_p w_ Q) :
    Calls Tryd.prog 82 #[(.agg #[(.slice aw_Parts1 w_.Parts.length cw_Parts2), (.int .i64 w_.Err)])] w (Ret fun v w' => ∃ (r0 : ByteArray), Q r0 ∧ Evo [] w w' ∧ v = (.string r0) ∧ r0.size ≤ maxLen) := by
  have hXo := hX0
  have E0 : Evo [] w w := RB.refl _ _ _
  have hS : Sub X X := Sub.refl _
  unfold rectoref3_Words_p at hp
  refine enter_ Tryd.func82 rfl 35 [(0, (.agg #[(.slice aw_Parts1 w_.Parts.length cw_Parts2), (.int .i64 w_.Err)]))] (by kernel_rfl) (fun Qe hQ => ?_)
  replace hp := hp (Sl.len hw_Parts3)
  replace hp := hp rw_Err4
  refine seq_ (fun _ K5 => ?_)
  refine reg_ ?_
  refine sq (o_newX [(.slice aw_Parts1 w_.Parts.length cw_Parts2), (.int .i64 w_.Err)] 28 (X := X) (B := w.heap.size) E0.size rfl (by kernel_rfl) ?_)
  intro b6 w7 X8 s9 k10 n11
  refine sq (o_pv (.string (ByteArray.mk #[])) rfl (by kernel_rfl) ?_)
  refine nil_ ?_
  refine then_normal (K5 _ _ _ _ ?_)
  refine seq_ (fun _ K12 => ?_)
  refine reg_ ?_
  refine sq (o_pv (.string (ByteArray.mk #[])) rfl (by kernel_rfl) ?_)
  refine nil_ ?_
  refine then_normal (K12 _ _ _ _ ?_)
  refine seq_ (fun _ K13 => ?_)
  refine seq_ (fun _ K14 => ?_)
  refine reg_ ?_
  refine sq (o_pv (.int .i64 (0 : Int)) rfl (by kernel_rfl) ?_)
  refine nil_ ?_
  refine then_normal (K14 _ _ _ _ ?_)
  refine wp_block ?_
  have hw_Parts81 := (Sl.step hw_Parts3 s9)
  have hXo82 := (Old.step hXo s9)
  have E83 := (Evo.then0 E0 (Step.evo s9))
  have hS84 := (Sub.trans hS (Step.up s9))
  obtain ⟨I71, m72, hI73, hp⟩ := hp
  refine loop_ 1073741816 (fun kq lq w75 => ∃ (X76 : List Nat) (s15 : ByteArray) (i17 : Int), (lq = [(3, (.string s15)), (4, (.int .i64 i17))]) ∧ (kq = m72 s15 i17) ∧ (Evo [] w w75) ∧ (Old X76 w75) ∧ (Sub X X76) ∧ (Sl r_rectoref3_Part X76 w75 aw_Parts1 cw_Parts2 w_.Parts) ∧ (OB ([]) w.heap.size X76 w75 b6 [(.slice aw_Parts1 w_.Parts.length cw_Parts2), (.int .i64 w_.Err)] 28) ∧ (s15.size ≤ maxLen) ∧ (inR .i64 i17) ∧ (I71 s15 i17)) (m72 (ByteArray.mk #[]) (0 : Int)) [(3, (.string (ByteArray.mk #[]))), (4, (.int .i64 (0 : Int)))] (vs_cons (by kernel_rfl) (vs_cons (by kernel_rfl) vs_nil)) ⟨X8, (ByteArray.mk #[]), (0 : Int), rfl, rfl, E83, hXo82, hS84, hw_Parts81, k10, (by decide : (ByteArray.mk #[]).size ≤ maxLen), (by decide : inR .i64 (0 : Int)), hI73⟩ ?_
  rintro _ _ w75 g78 ⟨X76, s15, i17, rfl, rfl, E85, hXo86, hS87, hw_Parts88, k89, zs16, ri18, hI74⟩ Kl79 hA80
  replace hp := hp s15 i17 hI74 zs16 ri18
  refine seq_ (fun _ K90 => ?_)
  refine seq_ (fun _ K91 => ?_)
  refine reg_ ?_
  refine sq (o_pv (.int .i64 i17) rfl (by kernel_rfl) ?_)
  refine sq (o_pv (.pointer (some ⟨b6, 0, none⟩)) rfl (by kernel_rfl) ?_)
  refine sq (o_pv (.slice aw_Parts1 w_.Parts.length cw_Parts2) rfl (x_load1 (by kernel_rfl) Tryd.isAgg26 (k89.2.1.cell' 0 rfl)) ?_)
  refine sq (o_pv (.int .i64 (w_.Parts.length : Int)) rfl (by kernel_rfl) ?_)
  refine sq (o_pv (.bool (decide (i17 < (w_.Parts.length : Int)))) rfl (by kernel_rfl) ?_)
  refine nil_ ?_
  refine then_normal (K91 _ _ _ _ ?_)
  refine cond_d (i17 < (w_.Parts.length : Int)) (by kernel_rfl) (fun h92 => ?_) (fun h92 => ?_)
  ·
    replace hp := hp.1 h92
    refine wp_skip ?_
    refine then_normal (K90 _ _ _ _ ?_)
    refine seq_ (fun _ K93 => ?_)
    refine wp_block ?_
    refine reg_drawn (RB w75.heap.size []) 18 (by kernel_rfl) (fun w94 hd95 => ?_)
    have e96 := Evo.of_drew hd95
    have z97 : w94.heap.size = w75.heap.size := by rw [hd95]
    clear hd95
    have s99 := Step.of0 X76 e96
    have er98 := RB.refl w75.heap.size [] w94
    have E100 := (Evo.then0 E85 (Step.evo s99))
    have hXo101 := (Old.step hXo86 s99)
    have hS102 := (Sub.trans hS87 (Step.up s99))
    have hw_Parts103 := (Sl.step hw_Parts88 s99)
    have k104 := (OB.step0 k89 s99)
    refine r_take 0 (.string s15) (RB.pre _ _) rfl (by kernel_rfl) (fun _ _ _ h => hQ.panic _ _ _ _ _ h) (.inl ⟨rfl, fun wq hq => (by kernel_rfl)⟩) ?_
    refine r_take 1 (.pointer (some ⟨b6, 0, none⟩)) (RB.pre _ _) rfl (by kernel_rfl) (fun _ _ _ h => hQ.panic _ _ _ _ _ h) (.inl ⟨rfl, fun wq hq => (by kernel_rfl)⟩) ?_
    refine r_take 2 (.slice aw_Parts1 w_.Parts.length cw_Parts2) (RB.pre _ _) rfl (by kernel_rfl) (fun _ _ _ h => hQ.panic _ _ _ _ _ h) (.inl ⟨rfl, fun wq hq => (x_load1 (by kernel_rfl) Tryd.isAgg26 ((Blk.rb k104.2.1 (RB.trans er98 hq) (Nat.lt_of_lt_of_eq (Blk.lt k104.2.1) z97) (fun h => by cases h)).cell' 0 rfl))⟩) ?_
    refine r_take 3 (.int .i64 i17) (RB.pre _ _) rfl (by kernel_rfl) (fun _ _ _ h => hQ.panic _ _ _ _ _ h) (.inl ⟨rfl, fun wq hq => (by kernel_rfl)⟩) ?_
    obtain ⟨h105, hp⟩ := hp
    obtain ⟨b106, o107, cs108, ha109, nx110, lt111, ok112, hc113⟩ := Sl.atI hw_Parts103 i17 h105
    obtain ⟨rfl, zeWord114, reAt115⟩ := r_rectoref3_Part_open ok112
    replace hp := hp zeWord114
    replace hp := hp reAt115
    refine r_take 4 (.pointer (some ⟨b106, o107 + i17.toNat * 2, none⟩)) (RB.pre _ _) rfl (by kernel_rfl) (fun _ _ _ h => hQ.panic _ _ _ _ _ h) (.inl ⟨rfl, fun wq hq => (x_ixA (m := w_.Parts.length) (c := cw_Parts2) (k := .i64) (i := i17) Tryd.underlying26 Tryd.sizeOf153 (by rw [← ha109]; kernel_rfl) (by kernel_rfl) h105)⟩) ?_
    refine r_take 5 (.pointer (some ⟨b106, o107 + i17.toNat * 2, none⟩)) (RB.pre _ _) rfl (by kernel_rfl) (fun _ _ _ h => hQ.panic _ _ _ _ _ h) (.inl ⟨rfl, fun wq hq => (by kernel_rfl)⟩) ?_
    refine r_take 6 (.string ((lget w_.Parts i17).Word)) (RB.pre _ _) rfl (by kernel_rfl) (fun _ _ _ h => hQ.panic _ _ _ _ _ h) (.inl ⟨rfl, fun wq hq => (x_load1 (by kernel_rfl) Tryd.isAgg9 ((CellsAt.rb hc113 (RB.trans er98 hq) (Nat.lt_of_lt_of_eq lt111 z97) (fun h => by cases h)) 0 _ rfl))⟩) ?_
    obtain ⟨h116, hp⟩ := hp
    refine r_take 7 (.string (s15 ++ ((lget w_.Parts i17).Word))) (RB.pre _ _) rfl (by kernel_rfl) (fun _ _ _ h => hQ.panic _ _ _ _ _ h) (.inl ⟨rfl, fun wq hq => (x_cat (by kernel_rfl) (by kernel_rfl) h116)⟩) ?_
    obtain ⟨h117, hp⟩ := hp
    refine r_take 8 (.string ((s15 ++ ((lget w_.Parts i17).Word)) ++ (ByteArray.mk #[32]))) (RB.pre _ _) rfl (by kernel_rfl) (fun _ _ _ h => hQ.panic _ _ _ _ _ h) (.inl ⟨rfl, fun wq hq => (x_cat (by kernel_rfl) (by kernel_rfl) h117)⟩) ?_
    refine r_take 9 (.pointer (some ⟨b6, 0, none⟩)) (RB.pre _ _) rfl (by kernel_rfl) (fun _ _ _ h => hQ.panic _ _ _ _ _ h) (.inl ⟨rfl, fun wq hq => (by kernel_rfl)⟩) ?_
    refine r_take 10 (.slice aw_Parts1 w_.Parts.length cw_Parts2) (RB.pre _ _) rfl (by kernel_rfl) (fun _ _ _ h => hQ.panic _ _ _ _ _ h) (.inl ⟨rfl, fun wq hq => (x_load1 (by kernel_rfl) Tryd.isAgg26 ((Blk.rb k104.2.1 (RB.trans er98 hq) (Nat.lt_of_lt_of_eq (Blk.lt k104.2.1) z97) (fun h => by cases h)).cell' 0 rfl))⟩) ?_
    refine r_take 11 (.int .i64 i17) (RB.pre _ _) rfl (by kernel_rfl) (fun _ _ _ h => hQ.panic _ _ _ _ _ h) (.inl ⟨rfl, fun wq hq => (by kernel_rfl)⟩) ?_
    obtain ⟨h118, hp⟩ := hp
    obtain ⟨b119, o120, cs121, ha122, nx123, lt124, ok125, hc126⟩ := Sl.atI hw_Parts103 i17 h118
    obtain ⟨rfl, zeWord127, reAt128⟩ := r_rectoref3_Part_open ok125
    replace hp := hp zeWord127
    replace hp := hp reAt128
    refine r_take 12 (.pointer (some ⟨b119, o120 + i17.toNat * 2, none⟩)) (RB.pre _ _) rfl (by kernel_rfl) (fun _ _ _ h => hQ.panic _ _ _ _ _ h) (.inl ⟨rfl, fun wq hq => (x_ixA (m := w_.Parts.length) (c := cw_Parts2) (k := .i64) (i := i17) Tryd.underlying26 Tryd.sizeOf153 (by rw [← ha122]; kernel_rfl) (by kernel_rfl) h118)⟩) ?_
    refine r_take 13 (.pointer (some ⟨b119, o120 + i17.toNat * 2 + 1, none⟩)) (RB.pre _ _) rfl (by kernel_rfl) (fun _ _ _ h => hQ.panic _ _ _ _ _ h) (.inl ⟨rfl, fun wq hq => (by kernel_rfl)⟩) ?_
    refine r_take 14 (.int .i64 ((lget w_.Parts i17).At)) (RB.pre _ _) rfl (by kernel_rfl) (fun _ _ _ h => hQ.panic _ _ _ _ _ h) (.inl ⟨rfl, fun wq hq => (x_load1 (by kernel_rfl) Tryd.isAgg3 ((CellsAt.rb hc126 (RB.trans er98 hq) (Nat.lt_of_lt_of_eq lt124 z97) (fun h => by cases h)) 1 _ rfl))⟩) ?_
    refine r_ready [15] (by kernel_rfl) rfl (all_cons ⟨_, _, _, _, _, _, rfl, ?_⟩ all_nil)
    refine o_call 60 #[(.int .i64 ((lget w_.Parts i17).At))] rfl (x_call Tryd.call60 (by kernel_rfl)) (rectoref3_Decimal_w (X := []) (n_ := (lget w_.Parts i17).At) (Old.nil _) reAt128 hp) ?_
    rintro _ w130 ⟨r129, hp, e131, rfl, zr133⟩
    have rm := RB.mono (F' := []) e131 (Nat.le_trans (Nat.le_of_eq z97.symm) (RB.size er98)) (fun _ h => by cases h)
    have er134 := RB.trans er98 rm
    refine ⟨fun _ => rm, ?_⟩
    have s132 := Step.of0 X76 e131
    replace hp := hp zr133
    obtain ⟨h135, hp⟩ := hp
    refine r_take 16 (.string (((s15 ++ ((lget w_.Parts i17).Word)) ++ (ByteArray.mk #[32])) ++ r129)) (RB.pre _ _) rfl (by kernel_rfl) (fun _ _ _ h => hQ.panic _ _ _ _ _ h) (.inl ⟨rfl, fun wq hq => (x_cat (by kernel_rfl) (by kernel_rfl) h135)⟩) ?_
    obtain ⟨h136, hp⟩ := hp
    refine r_take 17 (.string ((((s15 ++ ((lget w_.Parts i17).Word)) ++ (ByteArray.mk #[32])) ++ r129) ++ (ByteArray.mk #[58, 32]))) (RB.pre _ _) rfl (by kernel_rfl) (fun _ _ _ h => hQ.panic _ _ _ _ _ h) (.inl ⟨rfl, fun wq hq => (x_cat (by kernel_rfl) (by kernel_rfl) h136)⟩) ?_
    refine r_ready [18] (by kernel_rfl) rfl (all_cons ⟨_, _, _, _, _, _, rfl, ?_⟩ all_nil)
    refine o_pv (.string ((((s15 ++ ((lget w_.Parts i17).Word)) ++ (ByteArray.mk #[32])) ++ r129) ++ (ByteArray.mk #[58, 32]))) rfl (by kernel_rfl) ?_
    refine ⟨fun h => absurd h (by decide), ?_⟩
    refine r_done (by kernel_rfl) ?_
    refine blk_normal ?_
    refine then_normal (K93 _ _ _ _ ?_)
    refine reg_ ?_
    refine sq (o_pv (.int .i64 i17) rfl (by kernel_rfl) ?_)
    obtain ⟨h137, hp⟩ := hp
    refine sq (o_pv (.int .i64 (i17 + (1 : Int))) rfl (x_add2 (k := .i64) (a := i17) (b := (1 : Int)) (i17 + (1 : Int)) (by kernel_rfl) (by kernel_rfl) (wrap_inR h137)) ?_)
    refine sq (o_pv (.int .i64 (i17 + (1 : Int))) rfl (by kernel_rfl) ?_)
    refine nil_ ?_
    have E138 := (Evo.then0 E100 e131)
    have hXo139 := (Old.step hXo101 s132)
    have hS140 := (Sub.trans hS102 (Step.up s132))
    have hw_Parts141 := (Sl.step hw_Parts103 s132)
    have k142 := (OB.step0 k104 s132)
    refine then_normal (hA80 _ _ _ ⟨_, [(3, (.string ((((s15 ++ ((lget w_.Parts i17).Word)) ++ (ByteArray.mk #[32])) ++ r129) ++ (ByteArray.mk #[58, 32])))), (4, (.int .i64 (i17 + (1 : Int))))], hp.2, fit_mk (AgB.mix _ _ _) (by kernel_rfl) (vs_cons (by kernel_rfl) (vs_cons (by kernel_rfl) vs_nil)), ?_⟩)
    exact ⟨X76, ((((s15 ++ ((lget w_.Parts i17).Word)) ++ (ByteArray.mk #[32])) ++ r129) ++ (ByteArray.mk #[58, 32])), (i17 + (1 : Int)), rfl, rfl, E138, hXo139, hS140, hw_Parts141, k142, h136, h137, hp.1⟩
  ·
    replace hp := hp.2 h92
    refine wp_exit ?_
    refine then_exit ?_
    refine then_exit ?_
    refine blk_exit ?_
    refine then_normal (K13 _ _ _ _ ?_)
    refine seq_ (fun _ K143 => ?_)
    refine reg_ ?_
    refine sq (o_pv (.string s15) rfl (by kernel_rfl) ?_)
    refine sq (o_pv (.pointer (some ⟨b6, 1, none⟩)) rfl (by kernel_rfl) ?_)
    refine sq (o_pv (.int .i64 w_.Err) rfl (x_load1 (by kernel_rfl) Tryd.isAgg3 (k89.2.1.cell' 1 rfl)) ?_)
    refine sq (o_call 103 #[(.int .i64 w_.Err)] rfl (x_call Tryd.call103 (by kernel_rfl)) (rectoref3_Word_w (X := []) (e := w_.Err) (Old.nil _) rw_Err4 hp) ?_)
    rintro _ w145 ⟨r144, hp, e146, rfl, zr148⟩
    have s147 := Step.of0 X76 e146
    replace hp := hp zr148
    obtain ⟨h149, hp⟩ := hp
    refine sq (o_pv (.string (s15 ++ r144)) rfl (x_cat (by kernel_rfl) (by kernel_rfl) h149) ?_)
    refine sq (o_pv (.string (s15 ++ r144)) rfl (by kernel_rfl) ?_)
    refine nil_ ?_
    refine then_normal (K143 _ _ _ _ ?_)
    refine wp_ret ?_
    have E150 := (Evo.then0 E85 e146)
    refine end_ret hQ (.string (s15 ++ r144)) (by kernel_rfl) ?_
    exact ⟨(s15 ++ r144), hp, E150, rfl, h149⟩

def api_Fault_Unwrap_p (f_ : S_api_Fault) (Q : PErr → Prop) : Prop :=
  ((f_.Part.size ≤ maxLen) → ((inR .i64 f_.At) → Q f_.Err))
set_option maxRecDepth 20000 in
set_option maxHeartbeats 4000000 in
theorem api_Fault_Unwrap_w {X : List Nat} {w : World} {f_ : S_api_Fault} {bf_1 : Nat} {vf_Err5 : Value} {Q : PErr → Prop} (hX0 : Old X w) (kf_2 : RO X w bf_1 [(.string f_.Part), (.int .i64 f_.At), vf_Err5] 124) (zf_Part3 : f_.Part.size ≤ maxLen) (rf_At4 : inR .i64 f_.At) (hf_Err6 : (rErr 63 122 124).ok X w ([vf_Err5]) f_.Err) (hp : api_Fault_Unwrap_p f_ Q) :
    Calls Tryd.prog 178 #[(.pointer (some ⟨bf_1, 0, none⟩))] w (Ret fun v w' => ∃ (r0 : PErr), Q r0 ∧ Evo [] w w' ∧ ∃ (vq01 : Value), v = vq01 ∧ (rErr 63 122 124).ok X w' ([vq01]) r0) := by
  have hXo := hX0
  have E0 : Evo [] w w := RB.refl _ _ _
  have hS : Sub X X := Sub.refl _
  unfold api_Fault_Unwrap_p at hp
  refine enter_ Tryd.func178 rfl 7 [(0, (.pointer (some ⟨bf_1, 0, none⟩)))] (by kernel_rfl) (fun Qe hQ => ?_)
  replace hp := hp zf_Part3
  replace hp := hp rf_At4
  refine seq_ (fun _ K7 => ?_)
  refine reg_ ?_
  refine sq (o_pv .nilIface rfl (by kernel_rfl) ?_)
  refine nil_ ?_
  refine then_normal (K7 _ _ _ _ ?_)
  refine seq_ (fun _ K8 => ?_)
  refine reg_ ?_
  refine sq (o_pv (.pointer (some ⟨bf_1, 0, none⟩)) rfl (by kernel_rfl) ?_)
  refine sq (o_pv (.pointer (some ⟨bf_1, 0, none⟩)) rfl (by kernel_rfl) ?_)
  refine sq (o_pv (.pointer (some ⟨bf_1, 2, none⟩)) rfl (by kernel_rfl) ?_)
  refine sq (o_pv vf_Err5 rfl (x_load1 (by kernel_rfl) Tryd.isAgg43 (kf_2.2.cell' 2 rfl)) ?_)
  refine sq (o_pv vf_Err5 rfl (by kernel_rfl) ?_)
  refine nil_ ?_
  refine then_normal (K8 _ _ _ _ ?_)
  refine wp_ret ?_
  refine end_ret hQ vf_Err5 (by kernel_rfl) ?_
  exact ⟨f_.Err, hp, E0, vf_Err5, rfl, (Rep.less (rErr 63 122 124) hf_Err6 hS)⟩

def errors_is_p (err : PErr) (target : Int) (targetComparable : Bool) (Q : Bool → Prop) : Prop :=
  ((inR .i64 target) → (∃ (I230 : PErr → Prop) (m231 : PErr → Nat), (I230 err) ∧ (∀ (err116 : PErr), (I230 err116) → (((err116.isNil = true) → (∃ k265 : Prop, (k265 → Q false) ∧ (((targetComparable = true) → (k265)) ∧ ((¬ (targetComparable = true)) → (k265))))) ∧ ((¬ (err116.isNil = true)) → (((err116.isNo = true) → (∀ n285 : Int, err116 = PErr.no n285 → ((inR .i64 n285) → (∃ k290 : Bool → Prop, (∀ (s289 : Bool), k290 s289 → (((s289 = true) → Q true) ∧ ((s289 = false) → Q false))) ∧ (((targetComparable = true) → (k290 (decide (n285 = target)))) ∧ ((¬ (targetComparable = true)) → (k290 false))))))) ∧ ((¬ (err116.isNo = true)) → (∀ (part312 : ByteArray) (at313 n314 : Int), err116 = PErr.fault part312 at313 n314 → ((part312.size ≤ maxLen) → ((inR .i64 at313) → ((inR .i64 n314) → (∃ k322 : Prop, (k322 → (api_Fault_Unwrap_p (S_api_Fault.mk part312 at313 (PErr.no n314)) (fun (r342 : PErr) => (((r342.isNil = true) → Q false) ∧ ((r342.isNil = false) → ((I230 r342) ∧ m231 r342 < m231 err116)))))) ∧ (((targetComparable = true) → (k322)) ∧ ((¬ (targetComparable = true)) → (k322)))))))))))))))
set_option maxRecDepth 20000 in
set_option maxHeartbeats 4000000 in
theorem errors_is_w {X : List Nat} {w : World} {err : PErr} {target : Int} {targetComparable : Bool} {verr1 : Value} {Q : Bool → Prop} (hX0 : Old X w) (herr2 : (rErr 63 122 124).ok X w ([verr1]) err) (rtarget3 : inR .i64 target) (hp : errors_is_p err target targetComparable Q) :
    Calls Tryd.prog 105 #[verr1, (.iface 63 (.int .i64 target)), (.bool targetComparable)] w (Ret fun v w' => ∃ (r0 : Bool), Q r0 ∧ Evo [] w w' ∧ v = (.bool r0)) := by
  have hXo := hX0
  have E0 : Evo [] w w := RB.refl _ _ _
  have hS : Sub X X := Sub.refl _
  unfold errors_is_p at hp
  refine enter_ Tryd.func105 rfl 54 [(0, verr1), (1, (.iface 63 (.int .i64 target))), (2, (.bool targetComparable))] (by kernel_rfl) (fun Qe hQ => ?_)
  replace hp := hp rtarget3
  refine seq_ (fun _ K4 => ?_)
  refine reg_ ?_
  refine sq (o_pv (.bool false) rfl (by kernel_rfl) ?_)
  refine nil_ ?_
  refine then_normal (K4 _ _ _ _ ?_)
  refine wp_block ?_
  obtain ⟨I230, m231, hI232, hp⟩ := hp
  refine loop_ 18014398509479873 (fun kq lq w234 => ∃ (X235 : List Nat) (err116 : PErr) (v117 : Value), (lq = [(0, v117)]) ∧ (kq = m231 err116) ∧ (Evo [] w w234) ∧ (Old X235 w234) ∧ (Sub X X235) ∧ ((rErr 63 122 124).ok X235 w234 ([v117]) err116) ∧ (I230 err116)) (m231 err) [(0, verr1)] (vs_cons (by kernel_rfl) vs_nil) ⟨X, err, verr1, rfl, rfl, E0, hXo, hS, herr2, hI232⟩ ?_
  rintro _ _ w234 g237 ⟨X235, err116, v117, rfl, rfl, E240, hXo241, hS242, h118, hI233⟩ Kl238 hA239
  replace hp := hp err116 hI233
  refine wp_block ?_
  refine seq_ (fun _ K243 => ?_)
  refine seq_ (fun _ K244 => ?_)
  by_cases h261 : err116.isNil = true
  ·
    replace hp := hp.1 h261
    have hc263 := isNil_eq h261
    rw [hc263] at h118
    obtain rfl := rErr_inv_nil h118
    obtain ⟨k265, hk266, hp⟩ := hp
    refine ground_ ?_
    refine join_ 1032192 (fun lq w267 => ∃ (X268 : List Nat), (lq = [(19, (.bool false))]) ∧ (Evo [] w w267) ∧ (Old X268 w267) ∧ (Sub X X268) ∧ (k265)) (fun Kj269 hJ270 => ?_) ?_
    ·
      refine reg_ ?_
      by_cases h275 : targetComparable = true
      ·
        replace hp := hp.1 h275
        refine sq (o_pv (.bool true) rfl (x_bt (by kernel_rfl) h275) ?_)
        refine sq (o_pv (.bool true) rfl (by kernel_rfl) ?_)
        refine sq (o_pv .nilIface (by kernel_rfl) (by kernel_rfl) ?_)
        refine sq (o_pv (.iface 63 (.int .i64 target)) (by kernel_rfl) (by kernel_rfl) ?_)
        refine sq (o_pv (.bool false) (by kernel_rfl) (x_if_nil (t := 63) (v := (.int .i64 target)) Tryd.underlying43 (by kernel_rfl) (by kernel_rfl)) ?_)
        refine sq (o_pv (.bool false) rfl (by kernel_rfl) ?_)
        refine nil_ ?_
        refine then_normal (hJ270 _ _ _ ⟨[(19, (.bool false))], fit_mk (fun _ _ => rfl) (by kernel_rfl) (vs_cons (by kernel_rfl) vs_nil), ?_⟩)
        exact ⟨X235, rfl, E240, hXo241, hS242, hp⟩
      ·
        replace hp := hp.2 h275
        refine sq (o_pv (.bool false) rfl (x_bf (by kernel_rfl) h275) ?_)
        refine sq (o_pv (.bool false) rfl (by kernel_rfl) ?_)
        refine sq (o_not (by kernel_rfl) ?_)
        refine sq (o_not (by kernel_rfl) ?_)
        refine sq (o_not (by kernel_rfl) ?_)
        refine sq (o_pv (.bool false) rfl (by kernel_rfl) ?_)
        refine nil_ ?_
        refine then_normal (hJ270 _ _ _ ⟨[(19, (.bool false))], fit_mk (fun _ _ => rfl) (by kernel_rfl) (vs_cons (by kernel_rfl) vs_nil), ?_⟩)
        exact ⟨X235, rfl, E240, hXo241, hS242, hp⟩
    ·
      rintro _ w267 g276 ⟨X268, rfl, E272, hXo273, hS274, hv271⟩
      replace hp := hk266 hv271
      refine then_normal (K244 _ _ _ _ ?_)
      refine cond_f (by kernel_rfl) ?_
      refine wp_skip ?_
      refine then_normal (K243 _ _ _ _ ?_)
      refine seq_ (fun _ K277 => ?_)
      refine seq_ (fun _ K278 => ?_)
      refine reg_ ?_
      refine sq (o_pv .nilIface rfl (by kernel_rfl) ?_)
      refine sq (o_pv (.tuple #[.nilIface, (.bool false)]) rfl (x_tassertn (by kernel_rfl) (fun w => by kernel_rfl)) ?_)
      refine sq (o_pv (.tuple #[.nilIface, (.bool false)]) rfl (by kernel_rfl) ?_)
      refine sq (o_pv .nilIface rfl (by kernel_rfl) ?_)
      refine sq (o_pv (.bool false) rfl (by kernel_rfl) ?_)
      refine sq (o_pv .nilIface rfl (by kernel_rfl) ?_)
      refine sq (o_pv (.bool false) rfl (by kernel_rfl) ?_)
      refine nil_ ?_
      refine then_normal (K278 _ _ _ _ ?_)
      refine seq_ (fun _ K279 => ?_)
      refine reg_ ?_
      refine sq (o_pv (.bool false) rfl (by kernel_rfl) ?_)
      refine sq (o_pv (.bool false) rfl (by kernel_rfl) ?_)
      refine sq (o_not (by kernel_rfl) ?_)
      refine sq (o_not (by kernel_rfl) ?_)
      refine sq (o_not (by kernel_rfl) ?_)
      refine sq (o_pv (.bool false) rfl (by kernel_rfl) ?_)
      refine nil_ ?_
      refine then_normal (K279 _ _ _ _ ?_)
      refine cond_f (by kernel_rfl) ?_
      refine wp_skip ?_
      refine then_normal (K277 _ _ _ _ ?_)
      refine seq_ (fun _ K280 => ?_)
      refine reg_ ?_
      refine sq (o_pv .nilIface rfl (by kernel_rfl) ?_)
      refine nil_ ?_
      refine then_normal (K280 _ _ _ _ ?_)
      refine wp_block ?_
      refine seq_ (fun _ K281 => ?_)
      refine reg_ ?_
      refine sq (o_pv (.tuple #[.nilIface, (.bool false)]) rfl (x_tassertn (by kernel_rfl) (fun w => by kernel_rfl)) ?_)
      refine sq (o_pv (.bool false) rfl (by kernel_rfl) ?_)
      refine sq (o_pv .nilIface rfl (by kernel_rfl) ?_)
      refine nil_ ?_
      refine then_normal (K281 _ _ _ _ ?_)
      refine cond_f (by kernel_rfl) ?_
      refine seq_ (fun _ K282 => ?_)
      refine reg_ ?_
      refine sq (o_pv (.tuple #[.nilIface, (.bool false)]) rfl (x_tassertn (by kernel_rfl) (fun w => by kernel_rfl)) ?_)
      refine sq (o_pv (.bool false) rfl (by kernel_rfl) ?_)
      refine sq (o_pv .nilIface rfl (by kernel_rfl) ?_)
      refine nil_ ?_
      refine then_normal (K282 _ _ _ _ ?_)
      refine cond_f (by kernel_rfl) ?_
      refine seq_ (fun _ K283 => ?_)
      refine reg_ ?_
      refine sq (o_pv .nilIface rfl (by kernel_rfl) ?_)
      refine nil_ ?_
      refine then_normal (K283 _ _ _ _ ?_)
      refine seq_ (fun _ K284 => ?_)
      refine reg_ ?_
      refine sq (o_pv (.bool false) rfl (by kernel_rfl) ?_)
      refine nil_ ?_
      refine then_normal (K284 _ _ _ _ ?_)
      refine wp_ret ?_
      refine blk_ret ?_
      refine blk_ret ?_
      refine then_ret ?_
      refine blk_ret ?_
      refine end_ret hQ (.bool false) (by kernel_rfl) ?_
      exact ⟨false, hp, E272, rfl⟩
  ·
    replace hp := hp.2 h261
    by_cases h262 : err116.isNo = true
    ·
      replace hp := hp.1 h262
      obtain ⟨n285, hc286⟩ := isNo_eq h262
      replace hp := hp n285 hc286
      rw [hc286] at h118
      obtain ⟨rfl, r287⟩ := rErr_inv_no h118
      replace hp := hp r287
      obtain ⟨k290, hk291, hp⟩ := hp
      refine ground_ ?_
      refine join_ 1032192 (fun lq w292 => ∃ (X293 : List Nat) (s289 : Bool), (lq = [(19, (.bool s289))]) ∧ (Evo [] w w292) ∧ (Old X293 w292) ∧ (Sub X X293) ∧ (k290 s289)) (fun Kj294 hJ295 => ?_) ?_
      ·
        refine reg_ ?_
        by_cases h300 : targetComparable = true
        ·
          replace hp := hp.1 h300
          refine sq (o_pv (.bool true) rfl (x_bt (by kernel_rfl) h300) ?_)
          refine sq (o_pv (.bool true) rfl (by kernel_rfl) ?_)
          refine sq (o_pv (.iface 63 (.int .i64 n285)) (by kernel_rfl) (by kernel_rfl) ?_)
          refine sq (o_pv (.iface 63 (.int .i64 target)) (by kernel_rfl) (by kernel_rfl) ?_)
          refine sq (o_pv (.bool (decide (n285 = target))) (by kernel_rfl) (x_if_num (k := .i64) (a := n285) (b := target) (i := Tryd.t63) Tryd.underlying43 Tryd.underlying63 (by kernel_rfl) rfl (by kernel_rfl) (by kernel_rfl)) ?_)
          refine sq (o_pv (.bool (decide (n285 = target))) rfl (by kernel_rfl) ?_)
          refine nil_ ?_
          refine then_normal (hJ295 _ _ _ ⟨[(19, (.bool (decide (n285 = target))))], fit_mk (fun _ _ => rfl) (by kernel_rfl) (vs_cons (by kernel_rfl) vs_nil), ?_⟩)
          exact ⟨X235, (decide (n285 = target)), rfl, E240, hXo241, hS242, hp⟩
        ·
          replace hp := hp.2 h300
          refine sq (o_pv (.bool false) rfl (x_bf (by kernel_rfl) h300) ?_)
          refine sq (o_pv (.bool false) rfl (by kernel_rfl) ?_)
          refine sq (o_not (by kernel_rfl) ?_)
          refine sq (o_not (by kernel_rfl) ?_)
          refine sq (o_not (by kernel_rfl) ?_)
          refine sq (o_pv (.bool false) rfl (by kernel_rfl) ?_)
          refine nil_ ?_
          refine then_normal (hJ295 _ _ _ ⟨[(19, (.bool false))], fit_mk (fun _ _ => rfl) (by kernel_rfl) (vs_cons (by kernel_rfl) vs_nil), ?_⟩)
          exact ⟨X235, false, rfl, E240, hXo241, hS242, hp⟩
      ·
        rintro _ w292 g301 ⟨X293, s289, rfl, E297, hXo298, hS299, hv296⟩
        replace hp := hk291 s289 hv296
        refine then_normal (K244 _ _ _ _ ?_)
        refine cond_b s289 (by kernel_rfl) (fun h302 => ?_) (fun h302 => ?_)
        ·
          replace hp := hp.1 h302
          refine seq_ (fun _ K303 => ?_)
          refine reg_ ?_
          refine sq (o_pv (.bool true) rfl (by kernel_rfl) ?_)
          refine nil_ ?_
          refine then_normal (K303 _ _ _ _ ?_)
          refine wp_ret ?_
          refine then_ret ?_
          refine blk_ret ?_
          refine then_ret ?_
          refine blk_ret ?_
          refine end_ret hQ (.bool true) (by kernel_rfl) ?_
          exact ⟨true, hp, E297, rfl⟩
        ·
          replace hp := hp.2 h302
          refine wp_skip ?_
          refine then_normal (K243 _ _ _ _ ?_)
          refine seq_ (fun _ K304 => ?_)
          refine seq_ (fun _ K305 => ?_)
          refine reg_ ?_
          refine sq (o_pv (.iface 63 (.int .i64 n285)) rfl (by kernel_rfl) ?_)
          refine sq (o_pv (.tuple #[.nilIface, (.bool false)]) rfl (x_tassert (t := 63) (v := (.int .i64 n285)) (by kernel_rfl) (fun v xT w => run_typeAssert_lacksB Tryd.underlying207 (by kernel_rfl) (by kernel_rfl) v xT w)) ?_)
          refine sq (o_pv (.tuple #[.nilIface, (.bool false)]) rfl (by kernel_rfl) ?_)
          refine sq (o_pv .nilIface rfl (by kernel_rfl) ?_)
          refine sq (o_pv (.bool false) rfl (by kernel_rfl) ?_)
          refine sq (o_pv .nilIface rfl (by kernel_rfl) ?_)
          refine sq (o_pv (.bool false) rfl (by kernel_rfl) ?_)
          refine nil_ ?_
          refine then_normal (K305 _ _ _ _ ?_)
          refine seq_ (fun _ K306 => ?_)
          refine reg_ ?_
          refine sq (o_pv (.bool false) rfl (by kernel_rfl) ?_)
          refine sq (o_pv (.bool false) rfl (by kernel_rfl) ?_)
          refine sq (o_not (by kernel_rfl) ?_)
          refine sq (o_not (by kernel_rfl) ?_)
          refine sq (o_not (by kernel_rfl) ?_)
          refine sq (o_pv (.bool false) rfl (by kernel_rfl) ?_)
          refine nil_ ?_
          refine then_normal (K306 _ _ _ _ ?_)
          refine cond_f (by kernel_rfl) ?_
          refine wp_skip ?_
          refine then_normal (K304 _ _ _ _ ?_)
          refine seq_ (fun _ K307 => ?_)
          refine reg_ ?_
          refine sq (o_pv (.iface 63 (.int .i64 n285)) rfl (by kernel_rfl) ?_)
          refine nil_ ?_
          refine then_normal (K307 _ _ _ _ ?_)
          refine wp_block ?_
          refine seq_ (fun _ K308 => ?_)
          refine reg_ ?_
          refine sq (o_pv (.tuple #[.nilIface, (.bool false)]) rfl (x_tassert (t := 63) (v := (.int .i64 n285)) (by kernel_rfl) (fun v xT w => run_typeAssert_lacksB Tryd.underlying210 (by kernel_rfl) (by kernel_rfl) v xT w)) ?_)
          refine sq (o_pv (.bool false) rfl (by kernel_rfl) ?_)
          refine sq (o_pv .nilIface rfl (by kernel_rfl) ?_)
          refine nil_ ?_
          refine then_normal (K308 _ _ _ _ ?_)
          refine cond_f (by kernel_rfl) ?_
          refine seq_ (fun _ K309 => ?_)
          refine reg_ ?_
          refine sq (o_pv (.tuple #[.nilIface, (.bool false)]) rfl (x_tassert (t := 63) (v := (.int .i64 n285)) (by kernel_rfl) (fun v xT w => run_typeAssert_lacksB Tryd.underlying212 (by kernel_rfl) (by kernel_rfl) v xT w)) ?_)
          refine sq (o_pv (.bool false) rfl (by kernel_rfl) ?_)
          refine sq (o_pv .nilIface rfl (by kernel_rfl) ?_)
          refine nil_ ?_
          refine then_normal (K309 _ _ _ _ ?_)
          refine cond_f (by kernel_rfl) ?_
          refine seq_ (fun _ K310 => ?_)
          refine reg_ ?_
          refine sq (o_pv (.iface 63 (.int .i64 n285)) rfl (by kernel_rfl) ?_)
          refine nil_ ?_
          refine then_normal (K310 _ _ _ _ ?_)
          refine seq_ (fun _ K311 => ?_)
          refine reg_ ?_
          refine sq (o_pv (.bool false) rfl (by kernel_rfl) ?_)
          refine nil_ ?_
          refine then_normal (K311 _ _ _ _ ?_)
          refine wp_ret ?_
          refine blk_ret ?_
          refine blk_ret ?_
          refine then_ret ?_
          refine blk_ret ?_
          refine end_ret hQ (.bool false) (by kernel_rfl) ?_
          exact ⟨false, hp, E297, rfl⟩
    ·
      replace hp := hp.2 h262
      obtain ⟨part312, at313, n314, hc315⟩ := isFault_eq h261 h262
      replace hp := hp part312 at313 n314 hc315
      rw [hc315] at h118
      obtain ⟨b316, rfl, k317, z318, r319, r320⟩ := rErr_inv_fault h118
      replace hp := hp z318
      replace hp := hp r319
      replace hp := hp r320
      obtain ⟨k322, hk323, hp⟩ := hp
      refine ground_ ?_
      refine join_ 1032192 (fun lq w324 => ∃ (X325 : List Nat), (lq = [(19, (.bool false))]) ∧ (Evo [] w w324) ∧ (Old X325 w324) ∧ (Sub X X325) ∧ (RO X325 w324 b316 [(.string part312), (.int .i64 at313), (.iface 63 (.int .i64 n314))] 124) ∧ (k322)) (fun Kj326 hJ327 => ?_) ?_
      ·
        refine reg_ ?_
        by_cases h333 : targetComparable = true
        ·
          replace hp := hp.1 h333
          refine sq (o_pv (.bool true) rfl (x_bt (by kernel_rfl) h333) ?_)
          refine sq (o_pv (.bool true) rfl (by kernel_rfl) ?_)
          refine sq (o_pv (.iface 122 (.pointer (some ⟨b316, 0, none⟩))) (by kernel_rfl) (by kernel_rfl) ?_)
          refine sq (o_pv (.iface 63 (.int .i64 target)) (by kernel_rfl) (by kernel_rfl) ?_)
          refine sq (o_pv (.bool false) (by kernel_rfl) (x_if_ne (tx := 122) (vx := (.pointer (some ⟨b316, 0, none⟩))) (ty' := 63) (vy := (.int .i64 target)) Tryd.underlying43 (by kernel_rfl) (by kernel_rfl) rfl) ?_)
          refine sq (o_pv (.bool false) rfl (by kernel_rfl) ?_)
          refine nil_ ?_
          refine then_normal (hJ327 _ _ _ ⟨[(19, (.bool false))], fit_mk (fun _ _ => rfl) (by kernel_rfl) (vs_cons (by kernel_rfl) vs_nil), ?_⟩)
          exact ⟨X235, rfl, E240, hXo241, hS242, k317, hp⟩
        ·
          replace hp := hp.2 h333
          refine sq (o_pv (.bool false) rfl (x_bf (by kernel_rfl) h333) ?_)
          refine sq (o_pv (.bool false) rfl (by kernel_rfl) ?_)
          refine sq (o_not (by kernel_rfl) ?_)
          refine sq (o_not (by kernel_rfl) ?_)
          refine sq (o_not (by kernel_rfl) ?_)
          refine sq (o_pv (.bool false) rfl (by kernel_rfl) ?_)
          refine nil_ ?_
          refine then_normal (hJ327 _ _ _ ⟨[(19, (.bool false))], fit_mk (fun _ _ => rfl) (by kernel_rfl) (vs_cons (by kernel_rfl) vs_nil), ?_⟩)
          exact ⟨X235, rfl, E240, hXo241, hS242, k317, hp⟩
      ·
        rintro _ w324 g334 ⟨X325, rfl, E329, hXo330, hS331, k332, hv328⟩
        replace hp := hk323 hv328
        refine then_normal (K244 _ _ _ _ ?_)
        refine cond_f (by kernel_rfl) ?_
        refine wp_skip ?_
        refine then_normal (K243 _ _ _ _ ?_)
        refine seq_ (fun _ K335 => ?_)
        refine seq_ (fun _ K336 => ?_)
        refine reg_ ?_
        refine sq (o_pv (.iface 122 (.pointer (some ⟨b316, 0, none⟩))) rfl (by kernel_rfl) ?_)
        refine sq (o_pv (.tuple #[.nilIface, (.bool false)]) rfl (x_tassert (t := 122) (v := (.pointer (some ⟨b316, 0, none⟩))) (by kernel_rfl) (fun v xT w => run_typeAssert_lacksB Tryd.underlying207 (by kernel_rfl) (by kernel_rfl) v xT w)) ?_)
        refine sq (o_pv (.tuple #[.nilIface, (.bool false)]) rfl (by kernel_rfl) ?_)
        refine sq (o_pv .nilIface rfl (by kernel_rfl) ?_)
        refine sq (o_pv (.bool false) rfl (by kernel_rfl) ?_)
        refine sq (o_pv .nilIface rfl (by kernel_rfl) ?_)
        refine sq (o_pv (.bool false) rfl (by kernel_rfl) ?_)
        refine nil_ ?_
        refine then_normal (K336 _ _ _ _ ?_)
        refine seq_ (fun _ K337 => ?_)
        refine reg_ ?_
        refine sq (o_pv (.bool false) rfl (by kernel_rfl) ?_)
        refine sq (o_pv (.bool false) rfl (by kernel_rfl) ?_)
        refine sq (o_not (by kernel_rfl) ?_)
        refine sq (o_not (by kernel_rfl) ?_)
        refine sq (o_not (by kernel_rfl) ?_)
        refine sq (o_pv (.bool false) rfl (by kernel_rfl) ?_)
        refine nil_ ?_
        refine then_normal (K337 _ _ _ _ ?_)
        refine cond_f (by kernel_rfl) ?_
        refine wp_skip ?_
        refine then_normal (K335 _ _ _ _ ?_)
        refine seq_ (fun _ K338 => ?_)
        refine reg_ ?_
        refine sq (o_pv (.iface 122 (.pointer (some ⟨b316, 0, none⟩))) rfl (by kernel_rfl) ?_)
        refine nil_ ?_
        refine then_normal (K338 _ _ _ _ ?_)
        refine wp_block ?_
        refine seq_ (fun _ K339 => ?_)
        refine reg_ ?_
        refine sq (o_pv (.tuple #[(.iface 122 (.pointer (some ⟨b316, 0, none⟩))), (.bool true)]) rfl (x_tasserts (t := 122) (v := (.pointer (some ⟨b316, 0, none⟩))) (by kernel_rfl) (fun v xT w => run_typeAssert_hasB Tryd.underlying210 (by kernel_rfl) v xT w)) ?_)
        refine sq (o_pv (.bool true) rfl (by kernel_rfl) ?_)
        refine sq (o_pv (.iface 122 (.pointer (some ⟨b316, 0, none⟩))) rfl (by kernel_rfl) ?_)
        refine nil_ ?_
        refine then_normal (K339 _ _ _ _ ?_)
        refine cond_t (by kernel_rfl) ?_
        refine seq_ (fun _ K340 => ?_)
        refine reg_ ?_
        refine sq (o_pv (.iface 122 (.pointer (some ⟨b316, 0, none⟩))) rfl (by kernel_rfl) ?_)
        refine nil_ ?_
        refine then_normal (K340 _ _ _ _ ?_)
        refine seq_ (fun _ K341 => ?_)
        refine reg_ ?_
        refine sq (o_pv (.iface 122 (.pointer (some ⟨b316, 0, none⟩))) rfl (by kernel_rfl) ?_)
        refine sq (o_call 178 #[(.pointer (some ⟨b316, 0, none⟩))] rfl (x_invoke (t := 122) (v := (.pointer (some ⟨b316, 0, none⟩))) (r := (.pointer (some ⟨b316, 0, none⟩))) (by kernel_rfl) (fun _ => by kernel_rfl) Tryd.call178 (by kernel_rfl)) (api_Fault_Unwrap_w (X := X325) (f_ := (S_api_Fault.mk part312 at313 (PErr.no n314))) hXo330 k332 z318 r319 (rErr_no r320) hp) ?_)
        rintro vr346 w343 ⟨r342, hp, e344, _, rfl, hr347⟩
        have s345 := Step.of0 X325 e344
        refine sq (o_pv vr346 rfl (by kernel_rfl) ?_)
        refine nil_ ?_
        refine then_normal (K341 _ _ _ _ ?_)
        refine seq_ (fun _ K348 => ?_)
        refine reg_ ?_
        refine sq (o_pv vr346 rfl (by kernel_rfl) ?_)
        refine sq (o_pv (.bool r342.isNil) rfl (x_err_eq r342 hr347 Tryd.underlying43 (by kernel_rfl)) ?_)
        refine nil_ ?_
        refine then_normal (K348 _ _ _ _ ?_)
        refine cond_b r342.isNil (by kernel_rfl) (fun h349 => ?_) (fun h349 => ?_)
        ·
          replace hp := hp.1 h349
          refine seq_ (fun _ K350 => ?_)
          refine reg_ ?_
          refine sq (o_pv (.bool false) rfl (by kernel_rfl) ?_)
          refine nil_ ?_
          refine then_normal (K350 _ _ _ _ ?_)
          refine wp_ret ?_
          refine blk_ret ?_
          refine blk_ret ?_
          refine then_ret ?_
          refine blk_ret ?_
          have E351 := (Evo.then0 E329 e344)
          refine end_ret hQ (.bool false) (by kernel_rfl) ?_
          exact ⟨false, hp, E351, rfl⟩
        ·
          replace hp := hp.2 h349
          refine wp_skip ?_
          refine blk_normal ?_
          refine blk_normal ?_
          have E352 := (Evo.then0 E329 e344)
          have hXo353 := (Old.step hXo330 s345)
          have hS354 := (Sub.trans hS331 (Step.up s345))
          refine then_normal (hA239 _ _ _ ⟨_, [(0, vr346)], hp.2, fit_mk (AgB.nest (AgB.look (AgB.mix _ _ _) (by kernel_rfl)) (by kernel_rfl) (by kernel_rfl)) (by kernel_rfl) (vs_cons (by kernel_rfl) vs_nil), ?_⟩)
          exact ⟨X325, r342, vr346, rfl, rfl, E352, hXo353, hS354, hr347, hp.1⟩

def errors_Is_p (err : PErr) (target : Int) (Q : Bool → Prop) : Prop :=
  ((inR .i64 target) → (((err.isNil = true) → (((err.isNil = true) → Q false) ∧ ((¬ (err.isNil = true)) → (((err.isNo = true) → (∀ n18 : Int, err = PErr.no n18 → ((inR .i64 n18) → Q (decide (n18 = target))))) ∧ ((¬ (err.isNo = true)) → (∀ (part21 : ByteArray) (at22 n23 : Int), err = PErr.fault part21 at22 n23 → ((part21.size ≤ maxLen) → ((inR .i64 at22) → ((inR .i64 n23) → Q false))))))))) ∧ ((¬ (err.isNil = true)) → (errors_is_p err target true (fun (r32 : Bool) => Q r32)))))
set_option maxRecDepth 20000 in
set_option maxHeartbeats 4000000 in
theorem errors_Is_w {X : List Nat} {w : World} {err : PErr} {target : Int} {verr1 : Value} {Q : Bool → Prop} (hX0 : Old X w) (herr2 : (rErr 63 122 124).ok X w ([verr1]) err) (rtarget3 : inR .i64 target) (hp : errors_Is_p err target Q) :
    Calls Tryd.prog 83 #[verr1, (.iface 63 (.int .i64 target))] w (Ret fun v w' => ∃ (r0 : Bool), Q r0 ∧ Evo [] w w' ∧ v = (.bool r0)) := by
  have hXo := hX0
  have E0 : Evo [] w w := RB.refl _ _ _
  have hS : Sub X X := Sub.refl _
  unfold errors_Is_p at hp
  refine enter_ Tryd.func83 rfl 22 [(0, verr1), (1, (.iface 63 (.int .i64 target)))] (by kernel_rfl) (fun Qe hQ => ?_)
  replace hp := hp rtarget3
  refine seq_ (fun _ K4 => ?_)
  refine reg_ ?_
  refine sq (o_pv (.bool false) rfl (by kernel_rfl) ?_)
  refine nil_ ?_
  refine then_normal (K4 _ _ _ _ ?_)
  refine seq_ (fun _ K5 => ?_)
  refine seq_ (fun _ K6 => ?_)
  refine ground_ ?_
  refine join_ 4032 (fun lq w10 => lq = [(11, (.bool (decide (err.isNil = true))))] ∧ w = w10) (fun Kj8 hJ9 => ?_) ?_
  ·
    refine reg_ ?_
    refine sq (o_pv verr1 rfl (by kernel_rfl) ?_)
    by_cases h12 : err.isNil = true
    ·
      refine sq (o_pv (.bool true) rfl (x_bt (x_err_eq err herr2 Tryd.underlying43 (by kernel_rfl)) h12) ?_)
      refine sq (o_pv (.bool true) rfl (by kernel_rfl) ?_)
      refine sq (o_not (by kernel_rfl) ?_)
      refine sq (o_not (by kernel_rfl) ?_)
      refine sq (o_pv (.bool true) rfl (by kernel_rfl) ?_)
      refine nil_ ?_
      refine then_normal (hJ9 _ _ _ ⟨[(11, (.bool (decide (err.isNil = true))))], fit_mk (fun _ _ => rfl) (by kernel_rfl) (vs_cons (Eq.trans (b := (.bool true)) (by kernel_rfl) (dec_t (iff_true_intro h12)).symm) vs_nil), rfl, rfl⟩)
    ·
      refine sq (o_pv (.bool false) rfl (x_bf (x_err_eq err herr2 Tryd.underlying43 (by kernel_rfl)) h12) ?_)
      refine sq (o_pv (.bool false) rfl (by kernel_rfl) ?_)
      refine sq (o_pv (.iface 63 (.int .i64 target)) (by kernel_rfl) (by kernel_rfl) ?_)
      refine sq (o_pv (.bool false) (by kernel_rfl) (x_inil_eq (tp := 63) (v := (.int .i64 target)) Tryd.underlying43 (by kernel_rfl) (by kernel_rfl)) ?_)
      refine sq (o_pv (.bool false) rfl (by kernel_rfl) ?_)
      refine nil_ ?_
      refine then_normal (hJ9 _ _ _ ⟨[(11, (.bool (decide (err.isNil = true))))], fit_mk (fun _ _ => rfl) (by kernel_rfl) (vs_cons (Eq.trans (b := (.bool false)) (by kernel_rfl) (dec_f (iff_false_intro h12)).symm) vs_nil), rfl, rfl⟩)
  ·
    rintro _ w10 g11 ⟨rfl, hw⟩
    subst hw
    refine then_normal (K6 _ _ _ _ ?_)
    refine cond_d (err.isNil = true) (by kernel_rfl) (fun h13 => ?_) (fun h13 => ?_)
    ·
      replace hp := hp.1 h13
      refine seq_ (fun _ K14 => ?_)
      refine reg_ ?_
      refine sq (o_pv verr1 rfl (by kernel_rfl) ?_)
      refine sq (o_pv (.iface 63 (.int .i64 target)) rfl (by kernel_rfl) ?_)
      by_cases h15 : err.isNil = true
      ·
        replace hp := hp.1 h15
        have hc17 := isNil_eq h15
        rw [hc17] at herr2
        obtain rfl := rErr_inv_nil herr2
        refine sq (o_pv (.bool false) rfl (x_if_nil (t := 63) (v := (.int .i64 target)) Tryd.underlying43 (by kernel_rfl) (by kernel_rfl)) ?_)
        refine sq (o_pv (.bool false) rfl (by kernel_rfl) ?_)
        refine nil_ ?_
        refine then_normal (K14 _ _ _ _ ?_)
        refine wp_ret ?_
        refine then_ret ?_
        refine end_ret hQ (.bool false) (by kernel_rfl) ?_
        exact ⟨false, hp, E0, rfl⟩
      ·
        replace hp := hp.2 h15
        by_cases h16 : err.isNo = true
        ·
          replace hp := hp.1 h16
          obtain ⟨n18, hc19⟩ := isNo_eq h16
          replace hp := hp n18 hc19
          rw [hc19] at herr2
          obtain ⟨rfl, r20⟩ := rErr_inv_no herr2
          replace hp := hp r20
          refine sq (o_pv (.bool (decide (n18 = target))) rfl (x_if_num (k := .i64) (a := n18) (b := target) (i := Tryd.t63) Tryd.underlying43 Tryd.underlying63 (by kernel_rfl) rfl (by kernel_rfl) (by kernel_rfl)) ?_)
          refine sq (o_pv (.bool (decide (n18 = target))) rfl (by kernel_rfl) ?_)
          refine nil_ ?_
          refine then_normal (K14 _ _ _ _ ?_)
          refine wp_ret ?_
          refine then_ret ?_
          refine end_ret hQ (.bool (decide (n18 = target))) (by kernel_rfl) ?_
          exact ⟨(decide (n18 = target)), hp, E0, rfl⟩
        ·
          replace hp := hp.2 h16
          obtain ⟨part21, at22, n23, hc24⟩ := isFault_eq h15 h16
          replace hp := hp part21 at22 n23 hc24
          rw [hc24] at herr2
          obtain ⟨b25, rfl, k26, z27, r28, r29⟩ := rErr_inv_fault herr2
          replace hp := hp z27
          replace hp := hp r28
          replace hp := hp r29
          refine sq (o_pv (.bool false) rfl (x_if_ne (tx := 122) (vx := (.pointer (some ⟨b25, 0, none⟩))) (ty' := 63) (vy := (.int .i64 target)) Tryd.underlying43 (by kernel_rfl) (by kernel_rfl) rfl) ?_)
          refine sq (o_pv (.bool false) rfl (by kernel_rfl) ?_)
          refine nil_ ?_
          refine then_normal (K14 _ _ _ _ ?_)
          refine wp_ret ?_
          refine then_ret ?_
          refine end_ret hQ (.bool false) (by kernel_rfl) ?_
          exact ⟨false, hp, E0, rfl⟩
    ·
      replace hp := hp.2 h13
      refine wp_skip ?_
      refine then_normal (K5 _ _ _ _ ?_)
      refine seq_ (fun _ K30 => ?_)
      refine reg_ ?_
      refine sq (o_pv (.iface 63 (.int .i64 target)) rfl (by kernel_rfl) ?_)
      refine sq (o_pv (.iface 205 (.agg #[typeHandle Tryd.prog 63])) rfl (x_ext Tryd.func104 (by kernel_rfl) (by kernel_rfl) (by kernel_rfl) (show _ = some Extern.ReflectliteType.typeOf by kernel_rfl) #[(.iface 63 (.int .i64 target))] (by kernel_rfl) (by kernel_rfl)) ?_)
      refine sq (o_pv (.bool true) rfl (x_invext (t := 205) (v := (.agg #[typeHandle Tryd.prog 63])) (r := (.agg #[typeHandle Tryd.prog 63])) (by kernel_rfl) (fun _ => by kernel_rfl) Tryd.func184 (by kernel_rfl) (by kernel_rfl) (by kernel_rfl) (show _ = some (Extern.ReflectliteType.method fun t => do Extern.Rtype.noPackHeld "Comparable" t; pure (.bool (← typeInfo t).comparable)) by kernel_rfl) #[(.agg #[typeHandle Tryd.prog 63])] (by kernel_rfl) (by kernel_rfl)) ?_)
      refine sq (o_pv (.bool true) rfl (by kernel_rfl) ?_)
      refine nil_ ?_
      refine then_normal (K30 _ _ _ _ ?_)
      refine seq_ (fun _ K31 => ?_)
      refine reg_ ?_
      refine sq (o_pv verr1 rfl (by kernel_rfl) ?_)
      refine sq (o_pv (.iface 63 (.int .i64 target)) rfl (by kernel_rfl) ?_)
      refine sq (o_pv (.bool true) rfl (by kernel_rfl) ?_)
      refine sq (o_call 105 #[verr1, (.iface 63 (.int .i64 target)), (.bool true)] rfl (x_call Tryd.call105 (by kernel_rfl)) (errors_is_w (X := []) (err := err) (target := target) (targetComparable := true) (Old.nil _) (Rep.less (rErr 63 122 124) herr2 (Sub.nil _)) rtarget3 hp) ?_)
      rintro _ w33 ⟨r32, hp, e34, rfl⟩
      have s35 := Step.of0 X e34
      refine sq (o_pv (.bool r32) rfl (by kernel_rfl) ?_)
      refine nil_ ?_
      refine then_normal (K31 _ _ _ _ ?_)
      refine wp_ret ?_
      have E36 := (Evo.then0 E0 e34)
      refine end_ret hQ (.bool r32) (by kernel_rfl) ?_
      exact ⟨r32, hp, E36, rfl⟩

/-- strconv.Itoa of a number of one digit or two. -/
def strconv_Itoa_p (i : Int) (Q : ByteArray → Prop) : Prop := ∃ k : Nat, i = (k : Int) ∧ k < 100 ∧ Q ⟨(Lib.decDigits k).toArray⟩
theorem decDigits_small {k : Nat} (h : k < 100) : (Lib.decDigits k).length ≤ 2 := by
  rw [Lib.decDigits]
  split
  · simp
  · rw [Lib.decDigits, dif_pos (by omega)]; simp
theorem strconv_Itoa_w {X : List Nat} {w : World} {i : Int} {Q : ByteArray → Prop} (_hX0 : Old X w) (_hi : inR .i64 i) (hp : strconv_Itoa_p i Q) :
    Calls Tryd.prog 56 #[(.int .i64 i)] w (Ret fun v w' => ∃ r0 : ByteArray, Q r0 ∧ Evo [] w w' ∧ v = (.string r0) ∧ r0.size ≤ maxLen) := by
  obtain ⟨k, rfl, hk, hq⟩ := hp
  refine (Tryd.strconv_Itoa_small k hk w).mono ?_
  rintro e w' ⟨rfl, rfl⟩
  have hl := decDigits_small hk
  refine ⟨_, rfl, _, hq, RB.refl _ _ _, rfl, ?_⟩
  show (Lib.decDigits k).toArray.size ≤ _
  rw [List.size_toArray]
  exact Nat.le_trans hl (by decide)

def api_Fault_Error_p0 (R : S_api_Fault → (ByteArray → Prop) → Prop) (f_ : S_api_Fault) (Q : ByteArray → Prop) : Prop :=
  ((f_.Part.size ≤ maxLen) → ((inR .i64 f_.At) → (((f_.Err.isNil = true) → (((f_.Part ++ (ByteArray.mk #[32])).size ≤ maxLen) ∧ (strconv_Itoa_p f_.At (fun (r24 : ByteArray) => ((r24.size ≤ maxLen) → ((((f_.Part ++ (ByteArray.mk #[32])) ++ r24).size ≤ maxLen) ∧ Q ((f_.Part ++ (ByteArray.mk #[32])) ++ r24))))))) ∧ ((f_.Err.isNil = false) → (((f_.Part ++ (ByteArray.mk #[32])).size ≤ maxLen) ∧ (strconv_Itoa_p f_.At (fun (r45 : ByteArray) => ((r45.size ≤ maxLen) → ((((f_.Part ++ (ByteArray.mk #[32])) ++ r45).size ≤ maxLen) ∧ (((((f_.Part ++ (ByteArray.mk #[32])) ++ r45) ++ (ByteArray.mk #[58, 32])).size ≤ maxLen) ∧ (((f_.Err.isNil = true) → False) ∧ ((¬ (f_.Err.isNil = true)) → (((f_.Err.isNo = true) → (∀ n56 : Int, f_.Err = PErr.no n56 → ((inR .i64 n56) → (api_Errno_Error_p n56 (fun (r59 : ByteArray) => ((r59.size ≤ maxLen) → ((((((f_.Part ++ (ByteArray.mk #[32])) ++ r45) ++ (ByteArray.mk #[58, 32])) ++ r59).size ≤ maxLen) ∧ Q ((((f_.Part ++ (ByteArray.mk #[32])) ++ r45) ++ (ByteArray.mk #[58, 32])) ++ r59)))))))) ∧ ((¬ (f_.Err.isNo = true)) → (∀ (part67 : ByteArray) (at68 n69 : Int), f_.Err = PErr.fault part67 at68 n69 → ((part67.size ≤ maxLen) → ((inR .i64 at68) → ((inR .i64 n69) → (R (S_api_Fault.mk part67 at68 (PErr.no n69)) (fun (r77 : ByteArray) => ((r77.size ≤ maxLen) → ((((((f_.Part ++ (ByteArray.mk #[32])) ++ r45) ++ (ByteArray.mk #[58, 32])) ++ r77).size ≤ maxLen) ∧ Q ((((f_.Part ++ (ByteArray.mk #[32])) ++ r45) ++ (ByteArray.mk #[58, 32])) ++ r77)))))))))))))))))))))))
set_option maxRecDepth 20000 in
set_option maxHeartbeats 4000000 in
theorem api_Fault_Error_w0 {R : S_api_Fault → (ByteArray → Prop) → Prop} (hR : ∀ {X : List Nat} {w : World} {f_ : S_api_Fault} {bf_1 : Nat} {vf_Err5 : Value} {Q : ByteArray → Prop} (hX0 : Old X w) (kf_2 : RO X w bf_1 [(.string f_.Part), (.int .i64 f_.At), vf_Err5] 124) (zf_Part3 : f_.Part.size ≤ maxLen) (rf_At4 : inR .i64 f_.At) (hf_Err6 : (rErr 63 122 124).ok X w ([vf_Err5]) f_.Err) (_hp : R f_ Q), Calls Tryd.prog 177 #[(.pointer (some ⟨bf_1, 0, none⟩))] w (Ret fun v w' => ∃ (r0 : ByteArray), Q r0 ∧ Evo [] w w' ∧ v = (.string r0) ∧ r0.size ≤ maxLen)) {X : List Nat} {w : World} {f_ : S_api_Fault} {bf_1 : Nat} {vf_Err5 : Value} {Q : ByteArray → Prop} (hX0 : Old X w) (kf_2 : RO X w bf_1 [(.string f_.Part), (.int .i64 f_.At), vf_Err5] 124) (zf_Part3 : f_.Part.size ≤ maxLen) (rf_At4 : inR .i64 f_.At) (hf_Err6 : (rErr 63 122 124).ok X w ([vf_Err5]) f_.Err) (hp : api_Fault_Error_p0 R f_ Q) :
    Calls Tryd.prog 177 #[(.pointer (some ⟨bf_1, 0, none⟩))] w (Ret fun v w' => ∃ (r0 : ByteArray), Q r0 ∧ Evo [] w w' ∧ v = (.string r0) ∧ r0.size ≤ maxLen) := by
  have hXo := hX0
  have E0 : Evo [] w w := RB.refl _ _ _
  have hS : Sub X X := Sub.refl _
  unfold api_Fault_Error_p0 at hp
  refine enter_ Tryd.func177 rfl 37 [(0, (.pointer (some ⟨bf_1, 0, none⟩)))] (by kernel_rfl) (fun Qe hQ => ?_)
  replace hp := hp zf_Part3
  replace hp := hp rf_At4
  refine seq_ (fun _ K7 => ?_)
  refine reg_ ?_
  refine sq (o_pv (.string (ByteArray.mk #[])) rfl (by kernel_rfl) ?_)
  refine nil_ ?_
  refine then_normal (K7 _ _ _ _ ?_)
  refine seq_ (fun _ K8 => ?_)
  refine seq_ (fun _ K9 => ?_)
  refine reg_ ?_
  refine sq (o_pv (.pointer (some ⟨bf_1, 0, none⟩)) rfl (by kernel_rfl) ?_)
  refine sq (o_pv (.pointer (some ⟨bf_1, 0, none⟩)) rfl (by kernel_rfl) ?_)
  refine sq (o_pv (.pointer (some ⟨bf_1, 2, none⟩)) rfl (by kernel_rfl) ?_)
  refine sq (o_pv vf_Err5 rfl (x_load1 (by kernel_rfl) Tryd.isAgg43 (kf_2.2.cell' 2 rfl)) ?_)
  refine sq (o_pv (.bool f_.Err.isNil) rfl (x_err_eq f_.Err hf_Err6 Tryd.underlying43 (by kernel_rfl)) ?_)
  refine nil_ ?_
  refine then_normal (K9 _ _ _ _ ?_)
  refine cond_b f_.Err.isNil (by kernel_rfl) (fun h10 => ?_) (fun h10 => ?_)
  ·
    replace hp := hp.1 h10
    refine seq_ (fun _ K11 => ?_)
    refine reg_drawn (RB w.heap.size []) 11 (by kernel_rfl) (fun w12 hd13 => ?_)
    have e14 := Evo.of_drew hd13
    have z15 : w12.heap.size = w.heap.size := by rw [hd13]
    clear hd13
    have s17 := Step.of0 X e14
    have er16 := RB.refl w.heap.size [] w12
    have kf_18 := (RO.step kf_2 s17)
    have hf_Err19 := (Rep.step (rErr 63 122 124) hf_Err6 s17)
    have hXo20 := (Old.step hXo s17)
    have E21 := (Evo.then0 E0 (Step.evo s17))
    have hS22 := (Sub.trans hS (Step.up s17))
    refine r_take 0 (.pointer (some ⟨bf_1, 0, none⟩)) (RB.pre _ _) rfl (by kernel_rfl) (fun _ _ _ h => hQ.panic _ _ _ _ _ h) (.inl ⟨rfl, fun wq hq => (by kernel_rfl)⟩) ?_
    refine r_take 1 (.pointer (some ⟨bf_1, 0, none⟩)) (RB.pre _ _) rfl (by kernel_rfl) (fun _ _ _ h => hQ.panic _ _ _ _ _ h) (.inl ⟨rfl, fun wq hq => (by kernel_rfl)⟩) ?_
    refine r_take 2 (.pointer (some ⟨bf_1, 0, none⟩)) (RB.pre _ _) rfl (by kernel_rfl) (fun _ _ _ h => hQ.panic _ _ _ _ _ h) (.inl ⟨rfl, fun wq hq => (by kernel_rfl)⟩) ?_
    refine r_take 3 (.string f_.Part) (RB.pre _ _) rfl (by kernel_rfl) (fun _ _ _ h => hQ.panic _ _ _ _ _ h) (.inl ⟨rfl, fun wq hq => (x_load1 (by kernel_rfl) Tryd.isAgg9 ((Blk.rb kf_18.2 (RB.trans er16 hq) (Nat.lt_of_lt_of_eq (Blk.lt kf_18.2) z15) (fun h => by cases h)).cell' 0 rfl))⟩) ?_
    obtain ⟨h23, hp⟩ := hp
    refine r_take 4 (.string (f_.Part ++ (ByteArray.mk #[32]))) (RB.pre _ _) rfl (by kernel_rfl) (fun _ _ _ h => hQ.panic _ _ _ _ _ h) (.inl ⟨rfl, fun wq hq => (x_cat (by kernel_rfl) (by kernel_rfl) h23)⟩) ?_
    refine r_take 5 (.pointer (some ⟨bf_1, 0, none⟩)) (RB.pre _ _) rfl (by kernel_rfl) (fun _ _ _ h => hQ.panic _ _ _ _ _ h) (.inl ⟨rfl, fun wq hq => (by kernel_rfl)⟩) ?_
    refine r_take 6 (.pointer (some ⟨bf_1, 0, none⟩)) (RB.pre _ _) rfl (by kernel_rfl) (fun _ _ _ h => hQ.panic _ _ _ _ _ h) (.inl ⟨rfl, fun wq hq => (by kernel_rfl)⟩) ?_
    refine r_take 7 (.pointer (some ⟨bf_1, 1, none⟩)) (RB.pre _ _) rfl (by kernel_rfl) (fun _ _ _ h => hQ.panic _ _ _ _ _ h) (.inl ⟨rfl, fun wq hq => (by kernel_rfl)⟩) ?_
    refine r_take 8 (.int .i64 f_.At) (RB.pre _ _) rfl (by kernel_rfl) (fun _ _ _ h => hQ.panic _ _ _ _ _ h) (.inl ⟨rfl, fun wq hq => (x_load1 (by kernel_rfl) Tryd.isAgg3 ((Blk.rb kf_18.2 (RB.trans er16 hq) (Nat.lt_of_lt_of_eq (Blk.lt kf_18.2) z15) (fun h => by cases h)).cell' 1 rfl))⟩) ?_
    refine r_ready [9] (by kernel_rfl) rfl (all_cons ⟨_, _, _, _, _, _, rfl, ?_⟩ all_nil)
    refine o_call 56 #[(.int .i64 f_.At)] rfl (x_call Tryd.call56 (by kernel_rfl)) (strconv_Itoa_w (X := []) (i := f_.At) (Old.nil _) rf_At4 hp) ?_
    rintro _ w25 ⟨r24, hp, e26, rfl, zr28⟩
    have rm := RB.mono (F' := []) e26 (Nat.le_trans (Nat.le_of_eq z15.symm) (RB.size er16)) (fun _ h => by cases h)
    have er29 := RB.trans er16 rm
    refine ⟨fun _ => rm, ?_⟩
    have s27 := Step.of0 X e26
    replace hp := hp zr28
    obtain ⟨h30, hp⟩ := hp
    refine r_take 10 (.string ((f_.Part ++ (ByteArray.mk #[32])) ++ r24)) (RB.pre _ _) rfl (by kernel_rfl) (fun _ _ _ h => hQ.panic _ _ _ _ _ h) (.inl ⟨rfl, fun wq hq => (x_cat (by kernel_rfl) (by kernel_rfl) h30)⟩) ?_
    refine r_ready [11] (by kernel_rfl) rfl (all_cons ⟨_, _, _, _, _, _, rfl, ?_⟩ all_nil)
    refine o_pv (.string ((f_.Part ++ (ByteArray.mk #[32])) ++ r24)) rfl (by kernel_rfl) ?_
    refine ⟨fun h => absurd h (by decide), ?_⟩
    refine r_done (by kernel_rfl) ?_
    refine then_normal (K11 _ _ _ _ ?_)
    refine wp_ret ?_
    refine then_ret ?_
    have E31 := (Evo.then0 E21 e26)
    refine end_ret hQ (.string ((f_.Part ++ (ByteArray.mk #[32])) ++ r24)) (by kernel_rfl) ?_
    exact ⟨((f_.Part ++ (ByteArray.mk #[32])) ++ r24), hp, E31, rfl, h30⟩
  ·
    replace hp := hp.2 h10
    refine wp_skip ?_
    refine then_normal (K8 _ _ _ _ ?_)
    refine seq_ (fun _ K32 => ?_)
    refine reg_drawn (RB w.heap.size []) 18 (by kernel_rfl) (fun w33 hd34 => ?_)
    have e35 := Evo.of_drew hd34
    have z36 : w33.heap.size = w.heap.size := by rw [hd34]
    clear hd34
    have s38 := Step.of0 X e35
    have er37 := RB.refl w.heap.size [] w33
    have kf_39 := (RO.step kf_2 s38)
    have hf_Err40 := (Rep.step (rErr 63 122 124) hf_Err6 s38)
    have hXo41 := (Old.step hXo s38)
    have E42 := (Evo.then0 E0 (Step.evo s38))
    have hS43 := (Sub.trans hS (Step.up s38))
    refine r_take 0 (.pointer (some ⟨bf_1, 0, none⟩)) (RB.pre _ _) rfl (by kernel_rfl) (fun _ _ _ h => hQ.panic _ _ _ _ _ h) (.inl ⟨rfl, fun wq hq => (by kernel_rfl)⟩) ?_
    refine r_take 1 (.pointer (some ⟨bf_1, 0, none⟩)) (RB.pre _ _) rfl (by kernel_rfl) (fun _ _ _ h => hQ.panic _ _ _ _ _ h) (.inl ⟨rfl, fun wq hq => (by kernel_rfl)⟩) ?_
    refine r_take 2 (.pointer (some ⟨bf_1, 0, none⟩)) (RB.pre _ _) rfl (by kernel_rfl) (fun _ _ _ h => hQ.panic _ _ _ _ _ h) (.inl ⟨rfl, fun wq hq => (by kernel_rfl)⟩) ?_
    refine r_take 3 (.string f_.Part) (RB.pre _ _) rfl (by kernel_rfl) (fun _ _ _ h => hQ.panic _ _ _ _ _ h) (.inl ⟨rfl, fun wq hq => (x_load1 (by kernel_rfl) Tryd.isAgg9 ((Blk.rb kf_39.2 (RB.trans er37 hq) (Nat.lt_of_lt_of_eq (Blk.lt kf_39.2) z36) (fun h => by cases h)).cell' 0 rfl))⟩) ?_
    obtain ⟨h44, hp⟩ := hp
    refine r_take 4 (.string (f_.Part ++ (ByteArray.mk #[32]))) (RB.pre _ _) rfl (by kernel_rfl) (fun _ _ _ h => hQ.panic _ _ _ _ _ h) (.inl ⟨rfl, fun wq hq => (x_cat (by kernel_rfl) (by kernel_rfl) h44)⟩) ?_
    refine r_take 5 (.pointer (some ⟨bf_1, 0, none⟩)) (RB.pre _ _) rfl (by kernel_rfl) (fun _ _ _ h => hQ.panic _ _ _ _ _ h) (.inl ⟨rfl, fun wq hq => (by kernel_rfl)⟩) ?_
    refine r_take 6 (.pointer (some ⟨bf_1, 0, none⟩)) (RB.pre _ _) rfl (by kernel_rfl) (fun _ _ _ h => hQ.panic _ _ _ _ _ h) (.inl ⟨rfl, fun wq hq => (by kernel_rfl)⟩) ?_
    refine r_take 7 (.pointer (some ⟨bf_1, 1, none⟩)) (RB.pre _ _) rfl (by kernel_rfl) (fun _ _ _ h => hQ.panic _ _ _ _ _ h) (.inl ⟨rfl, fun wq hq => (by kernel_rfl)⟩) ?_
    refine r_take 8 (.int .i64 f_.At) (RB.pre _ _) rfl (by kernel_rfl) (fun _ _ _ h => hQ.panic _ _ _ _ _ h) (.inl ⟨rfl, fun wq hq => (x_load1 (by kernel_rfl) Tryd.isAgg3 ((Blk.rb kf_39.2 (RB.trans er37 hq) (Nat.lt_of_lt_of_eq (Blk.lt kf_39.2) z36) (fun h => by cases h)).cell' 1 rfl))⟩) ?_
    refine r_take 12 (.pointer (some ⟨bf_1, 0, none⟩)) (RB.pre _ _) rfl (by kernel_rfl) (fun _ _ _ h => hQ.panic _ _ _ _ _ h) (.inl ⟨rfl, fun wq hq => (by kernel_rfl)⟩) ?_
    refine r_take 13 (.pointer (some ⟨bf_1, 0, none⟩)) (RB.pre _ _) rfl (by kernel_rfl) (fun _ _ _ h => hQ.panic _ _ _ _ _ h) (.inl ⟨rfl, fun wq hq => (by kernel_rfl)⟩) ?_
    refine r_take 14 (.pointer (some ⟨bf_1, 2, none⟩)) (RB.pre _ _) rfl (by kernel_rfl) (fun _ _ _ h => hQ.panic _ _ _ _ _ h) (.inl ⟨rfl, fun wq hq => (by kernel_rfl)⟩) ?_
    refine r_take 15 vf_Err5 (RB.pre _ _) rfl (by kernel_rfl) (fun _ _ _ h => hQ.panic _ _ _ _ _ h) (.inl ⟨rfl, fun wq hq => (x_load1 (by kernel_rfl) Tryd.isAgg43 ((Blk.rb kf_39.2 (RB.trans er37 hq) (Nat.lt_of_lt_of_eq (Blk.lt kf_39.2) z36) (fun h => by cases h)).cell' 2 rfl))⟩) ?_
    refine r_ready [9] (by kernel_rfl) rfl (all_cons ⟨_, _, _, _, _, _, rfl, ?_⟩ all_nil)
    refine o_call 56 #[(.int .i64 f_.At)] rfl (x_call Tryd.call56 (by kernel_rfl)) (strconv_Itoa_w (X := []) (i := f_.At) (Old.nil _) rf_At4 hp) ?_
    rintro _ w46 ⟨r45, hp, e47, rfl, zr49⟩
    have rm := RB.mono (F' := []) e47 (Nat.le_trans (Nat.le_of_eq z36.symm) (RB.size er37)) (fun _ h => by cases h)
    have er50 := RB.trans er37 rm
    refine ⟨fun _ => rm, ?_⟩
    have s48 := Step.of0 X e47
    replace hp := hp zr49
    obtain ⟨h51, hp⟩ := hp
    refine r_take 10 (.string ((f_.Part ++ (ByteArray.mk #[32])) ++ r45)) (RB.pre _ _) rfl (by kernel_rfl) (fun _ _ _ h => hQ.panic _ _ _ _ _ h) (.inl ⟨rfl, fun wq hq => (x_cat (by kernel_rfl) (by kernel_rfl) h51)⟩) ?_
    obtain ⟨h52, hp⟩ := hp
    refine r_take 11 (.string (((f_.Part ++ (ByteArray.mk #[32])) ++ r45) ++ (ByteArray.mk #[58, 32]))) (RB.pre _ _) rfl (by kernel_rfl) (fun _ _ _ h => hQ.panic _ _ _ _ _ h) (.inl ⟨rfl, fun wq hq => (x_cat (by kernel_rfl) (by kernel_rfl) h52)⟩) ?_
    refine r_ready [16] (by kernel_rfl) rfl (all_cons ⟨_, _, _, _, _, _, rfl, ?_⟩ all_nil)
    by_cases h53 : f_.Err.isNil = true
    ·
      replace hp := hp.1 h53
      have hc55 := isNil_eq h53
      rw [hc55] at hf_Err40
      obtain rfl := rErr_inv_nil hf_Err40
      exact hp.elim
    ·
      replace hp := hp.2 h53
      by_cases h54 : f_.Err.isNo = true
      ·
        replace hp := hp.1 h54
        obtain ⟨n56, hc57⟩ := isNo_eq h54
        replace hp := hp n56 hc57
        rw [hc57] at hf_Err40
        obtain ⟨rfl, r58⟩ := rErr_inv_no hf_Err40
        replace hp := hp r58
        refine o_call 175 #[(.int .i64 n56)] rfl (x_invoke (t := 63) (v := (.int .i64 n56)) (r := (.int .i64 n56)) (by kernel_rfl) (fun _ => by kernel_rfl) Tryd.call175 (by kernel_rfl)) (api_Errno_Error_w (X := []) (e := n56) (Old.nil _) r58 hp) ?_
        rintro _ w60 ⟨r59, hp, e61, rfl, zr63⟩
        have rm := RB.mono (F' := []) e61 (Nat.le_trans (Nat.le_of_eq z36.symm) (RB.size er50)) (fun _ h => by cases h)
        have er64 := RB.trans er50 rm
        refine ⟨fun _ => rm, ?_⟩
        have s62 := Step.of0 X e61
        replace hp := hp zr63
        obtain ⟨h65, hp⟩ := hp
        refine r_take 17 (.string ((((f_.Part ++ (ByteArray.mk #[32])) ++ r45) ++ (ByteArray.mk #[58, 32])) ++ r59)) (RB.pre _ _) rfl (by kernel_rfl) (fun _ _ _ h => hQ.panic _ _ _ _ _ h) (.inl ⟨rfl, fun wq hq => (x_cat (by kernel_rfl) (by kernel_rfl) h65)⟩) ?_
        refine r_ready [18] (by kernel_rfl) rfl (all_cons ⟨_, _, _, _, _, _, rfl, ?_⟩ all_nil)
        refine o_pv (.string ((((f_.Part ++ (ByteArray.mk #[32])) ++ r45) ++ (ByteArray.mk #[58, 32])) ++ r59)) rfl (by kernel_rfl) ?_
        refine ⟨fun h => absurd h (by decide), ?_⟩
        refine r_done (by kernel_rfl) ?_
        refine then_normal (K32 _ _ _ _ ?_)
        refine wp_ret ?_
        have E66 := (Evo.then0 (Evo.then0 E42 e47) e61)
        refine end_ret hQ (.string ((((f_.Part ++ (ByteArray.mk #[32])) ++ r45) ++ (ByteArray.mk #[58, 32])) ++ r59)) (by kernel_rfl) ?_
        exact ⟨((((f_.Part ++ (ByteArray.mk #[32])) ++ r45) ++ (ByteArray.mk #[58, 32])) ++ r59), hp, E66, rfl, h65⟩
      ·
        replace hp := hp.2 h54
        obtain ⟨part67, at68, n69, hc70⟩ := isFault_eq h53 h54
        replace hp := hp part67 at68 n69 hc70
        rw [hc70] at hf_Err40
        obtain ⟨b71, rfl, k72, z73, r74, r75⟩ := rErr_inv_fault hf_Err40
        replace hp := hp z73
        replace hp := hp r74
        replace hp := hp r75
        have k76 := (RO.step k72 s48)
        refine o_call 177 #[(.pointer (some ⟨b71, 0, none⟩))] rfl (x_invoke (t := 122) (v := (.pointer (some ⟨b71, 0, none⟩))) (r := (.pointer (some ⟨b71, 0, none⟩))) (by kernel_rfl) (fun _ => by kernel_rfl) Tryd.call177 (by kernel_rfl)) (hR (X := []) (f_ := (S_api_Fault.mk part67 at68 (PErr.no n69))) (Old.nil _) ⟨(fun hm => by cases hm), k76.2⟩ z73 r74 (rErr_no r75) hp) ?_
        rintro _ w78 ⟨r77, hp, e79, rfl, zr81⟩
        have rm := RB.mono (F' := []) e79 (Nat.le_trans (Nat.le_of_eq z36.symm) (RB.size er50)) (fun _ h => by cases h)
        have er82 := RB.trans er50 rm
        refine ⟨fun _ => rm, ?_⟩
        have s80 := Step.of0 X e79
        replace hp := hp zr81
        obtain ⟨h83, hp⟩ := hp
        refine r_take 17 (.string ((((f_.Part ++ (ByteArray.mk #[32])) ++ r45) ++ (ByteArray.mk #[58, 32])) ++ r77)) (RB.pre _ _) rfl (by kernel_rfl) (fun _ _ _ h => hQ.panic _ _ _ _ _ h) (.inl ⟨rfl, fun wq hq => (x_cat (by kernel_rfl) (by kernel_rfl) h83)⟩) ?_
        refine r_ready [18] (by kernel_rfl) rfl (all_cons ⟨_, _, _, _, _, _, rfl, ?_⟩ all_nil)
        refine o_pv (.string ((((f_.Part ++ (ByteArray.mk #[32])) ++ r45) ++ (ByteArray.mk #[58, 32])) ++ r77)) rfl (by kernel_rfl) ?_
        refine ⟨fun h => absurd h (by decide), ?_⟩
        refine r_done (by kernel_rfl) ?_
        refine then_normal (K32 _ _ _ _ ?_)
        refine wp_ret ?_
        have E84 := (Evo.then0 (Evo.then0 E42 e47) e79)
        refine end_ret hQ (.string ((((f_.Part ++ (ByteArray.mk #[32])) ++ r45) ++ (ByteArray.mk #[58, 32])) ++ r77)) (by kernel_rfl) ?_
        exact ⟨((((f_.Part ++ (ByteArray.mk #[32])) ++ r45) ++ (ByteArray.mk #[58, 32])) ++ r77), hp, E84, rfl, h83⟩
def api_Fault_Error_pk : Nat → S_api_Fault → (ByteArray → Prop) → Prop
  | 0 => fun _ _ => False
  | k + 1 => api_Fault_Error_p0 (api_Fault_Error_pk k)
theorem api_Fault_Error_wk : ∀ (k : Nat) {X : List Nat} {w : World} {f_ : S_api_Fault} {bf_1 : Nat} {vf_Err5 : Value} {Q : ByteArray → Prop} (hX0 : Old X w) (kf_2 : RO X w bf_1 [(.string f_.Part), (.int .i64 f_.At), vf_Err5] 124) (zf_Part3 : f_.Part.size ≤ maxLen) (rf_At4 : inR .i64 f_.At) (hf_Err6 : (rErr 63 122 124).ok X w ([vf_Err5]) f_.Err) (_hp : api_Fault_Error_pk k f_ Q), Calls Tryd.prog 177 #[(.pointer (some ⟨bf_1, 0, none⟩))] w (Ret fun v w' => ∃ (r0 : ByteArray), Q r0 ∧ Evo [] w w' ∧ v = (.string r0) ∧ r0.size ≤ maxLen) := by
  intro k
  induction k with
  | zero => intro _ _ _ _ _ _ _ _ _ _ _ hp; exact hp.elim
  | succ k ih => intro X w f_ bf_1 vf_Err5 Q hX0 kf_2 zf_Part3 rf_At4 hf_Err6 hp; exact api_Fault_Error_w0 (R := api_Fault_Error_pk k) (fun hX0 kf_2 zf_Part3 rf_At4 hf_Err6 hp => ih hX0 kf_2 zf_Part3 rf_At4 hf_Err6 hp) hX0 kf_2 zf_Part3 rf_At4 hf_Err6 hp
def api_Fault_Error_p (f_ : S_api_Fault) (Q : ByteArray → Prop) : Prop := ∃ k, api_Fault_Error_pk k f_ Q
theorem api_Fault_Error_w {X : List Nat} {w : World} {f_ : S_api_Fault} {bf_1 : Nat} {vf_Err5 : Value} {Q : ByteArray → Prop} (hX0 : Old X w) (kf_2 : RO X w bf_1 [(.string f_.Part), (.int .i64 f_.At), vf_Err5] 124) (zf_Part3 : f_.Part.size ≤ maxLen) (rf_At4 : inR .i64 f_.At) (hf_Err6 : (rErr 63 122 124).ok X w ([vf_Err5]) f_.Err) (hp : api_Fault_Error_p f_ Q) :
    Calls Tryd.prog 177 #[(.pointer (some ⟨bf_1, 0, none⟩))] w (Ret fun v w' => ∃ (r0 : ByteArray), Q r0 ∧ Evo [] w w' ∧ v = (.string r0) ∧ r0.size ≤ maxLen) := by
  obtain ⟨k, hp⟩ := hp
  exact api_Fault_Error_wk k hX0 kf_2 zf_Part3 rf_At4 hf_Err6 hp

def errors_as_p (err : PErr) (target : S_cellFault) (targetVal : Unit) (targetType : Unit) (Q : S_cellFault → Bool → Prop) : Prop :=
  (∃ (I62 : Prop) (m63 : Nat), (I62) ∧ ((I62) → (((err.isNil = true) → False) ∧ ((¬ (err.isNil = true)) → (((err.isNo = true) → (∀ n92 : Int, err = PErr.no n92 → ((inR .i64 n92) → Q target false))) ∧ ((¬ (err.isNo = true)) → (∀ (part103 : ByteArray) (at104 n105 : Int), err = PErr.fault part103 at104 n105 → ((part103.size ≤ maxLen) → ((inR .i64 at104) → ((inR .i64 n105) → Q (S_cellFault.mk (some (S_api_Fault.mk part103 at104 (PErr.no n105)))) true))))))))))
set_option maxRecDepth 20000 in
set_option maxHeartbeats 4000000 in
theorem errors_as_w {X : List Nat} {w : World} {err : PErr} {target : S_cellFault} {targetVal : Unit} {targetType : Unit} {verr1 : Value} {btarget3 : Nat} {Ftarget4 : List Nat} {btargetVal6 : Nat} {Q : S_cellFault → Bool → Prop} (hX0 : Old X w) (herr2 : (rErr 63 122 124).ok X w ([verr1]) err) (mtarget5 : MO o_cellFault 122 Ftarget4 w.heap.size X w Ftarget4 btarget3 target) (ktargetVal7 : RO X w btargetVal6 [(.pointer (some ⟨btarget3, 0, none⟩))] 151) (hp : errors_as_p err target targetVal targetType Q) :
    Calls Tryd.prog 109 #[verr1, (.iface 151 (.pointer (some ⟨btarget3, 0, none⟩))), (.agg #[(typeHandle Tryd.prog 151), (.pointer (some ⟨btargetVal6, 0, none⟩)), (.int .u64 (150 : Int))]), (.iface 205 (.agg #[typeHandle Tryd.prog 122]))] w (Ret fun v w' => ∃ (m0 : S_cellFault) (r0 : Bool), Q m0 r0 ∧ ∃ (X' : List Nat) (Fm0 : List Nat), Step X w Ftarget4 X' w' ∧ v = (.bool r0) ∧ MO o_cellFault 122 Ftarget4 w.heap.size X' w' Fm0 btarget3 m0) := by
  have hXo := hX0
  have E0 : Evo Ftarget4 w w := RB.refl _ _ _
  have hS : Sub X X := Sub.refl _
  have hN : News X w X w := News.refl _ _
  have hF0 : Sub Ftarget4 X := MO.mem mtarget5
  unfold errors_as_p at hp
  refine enter_ Tryd.func109 rfl 62 [(0, verr1), (1, (.iface 151 (.pointer (some ⟨btarget3, 0, none⟩)))), (2, (.agg #[(typeHandle Tryd.prog 151), (.pointer (some ⟨btargetVal6, 0, none⟩)), (.int .u64 (150 : Int))])), (3, (.iface 205 (.agg #[typeHandle Tryd.prog 122])))] (by kernel_rfl) (fun Qe hQ => ?_)
  refine seq_ (fun _ K8 => ?_)
  refine reg_ ?_
  refine sq (o_newX [(typeHandle Tryd.prog 151), (.pointer (some ⟨btargetVal6, 0, none⟩)), (.int .u64 (150 : Int))] 185 (X := X) (B := w.heap.size) E0.size rfl (by kernel_rfl) ?_)
  intro b9 w10 X11 s12 k13 n14
  have p15 := n14 _ (MO.old mtarget5)
  refine sq (o_pv (.bool false) rfl (by kernel_rfl) ?_)
  refine nil_ ?_
  refine then_normal (K8 _ _ _ _ ?_)
  refine wp_block ?_
  have herr72 := (Rep.step (rErr 63 122 124) herr2 s12)
  have ktargetVal73 := (RO.step ktargetVal7 s12)
  have mtarget74 := (MO.step0 mtarget5 s12)
  have hXo75 := (Old.step hXo s12)
  have E76 := (Evo.then0 E0 (Step.evo s12))
  have hS77 := (Sub.trans hS (Step.up s12))
  have hN78 := (News.step hN s12)
  obtain ⟨I62, m63, hI64, hp⟩ := hp
  refine loop_ 4611686018427379457 (fun kq lq w66 => ∃ (X67 : List Nat), (lq = [(0, verr1)]) ∧ (kq = m63) ∧ (Evo Ftarget4 w w66) ∧ (Old X67 w66) ∧ (Sub X X67) ∧ (News X w X67 w66) ∧ ((rErr 63 122 124).ok X67 w66 ([verr1]) err) ∧ (MO o_cellFault 122 Ftarget4 w.heap.size X67 w66 Ftarget4 btarget3 target) ∧ (OB ([]) w.heap.size X67 w66 b9 [(typeHandle Tryd.prog 151), (.pointer (some ⟨btargetVal6, 0, none⟩)), (.int .u64 (150 : Int))] 185) ∧ (RO X67 w66 btargetVal6 [(.pointer (some ⟨btarget3, 0, none⟩))] 151) ∧ (I62)) (m63) [(0, verr1)] (vs_cons (by kernel_rfl) vs_nil) ⟨X11, rfl, rfl, E76, hXo75, hS77, hN78, herr72, mtarget74, k13, ktargetVal73, hI64⟩ ?_
  rintro _ _ w66 g69 ⟨X67, rfl, rfl, E79, hXo80, hS81, hN82, herr83, mtarget84, k85, ktargetVal86, hI65⟩ Kl70 hA71
  replace hp := hp hI65
  refine wp_block ?_
  refine seq_ (fun _ K87 => ?_)
  refine seq_ (fun _ K88 => ?_)
  refine reg_ ?_
  refine sq (o_pv verr1 rfl (by kernel_rfl) ?_)
  by_cases h89 : err.isNil = true
  ·
    replace hp := hp.1 h89
    have hc91 := isNil_eq h89
    rw [hc91] at herr83
    obtain rfl := rErr_inv_nil herr83
    exact hp.elim
  ·
    replace hp := hp.2 h89
    by_cases h90 : err.isNo = true
    ·
      replace hp := hp.1 h90
      obtain ⟨n92, hc93⟩ := isNo_eq h90
      replace hp := hp n92 hc93
      rw [hc93] at herr83
      obtain ⟨rfl, r94⟩ := rErr_inv_no herr83
      replace hp := hp r94
      refine sq (o_pv (.iface 205 (.agg #[typeHandle Tryd.prog 63])) rfl (x_ext Tryd.func104 (by kernel_rfl) (by kernel_rfl) (by kernel_rfl) (show _ = some Extern.ReflectliteType.typeOf by kernel_rfl) #[(.iface 63 (.int .i64 n92))] (by kernel_rfl) (by kernel_rfl)) ?_)
      refine sq (o_pv (.iface 205 (.agg #[typeHandle Tryd.prog 122])) rfl (by kernel_rfl) ?_)
      refine sq (o_pv (.bool false) rfl (x_invext (t := 205) (v := (.agg #[typeHandle Tryd.prog 63])) (r := (.agg #[typeHandle Tryd.prog 63])) (by kernel_rfl) (fun _ => by kernel_rfl) Tryd.func183 (by kernel_rfl) (by kernel_rfl) (by kernel_rfl) (show _ = some (Extern.ReflectliteType.relation "AssignableTo" Extern.ReflectliteType.assignableTo) by kernel_rfl) #[(.agg #[typeHandle Tryd.prog 63]), (.iface 205 (.agg #[typeHandle Tryd.prog 122]))] (by kernel_rfl) (by kernel_rfl)) ?_)
      refine nil_ ?_
      refine then_normal (K88 _ _ _ _ ?_)
      refine cond_f (by kernel_rfl) ?_
      refine wp_skip ?_
      refine then_normal (K87 _ _ _ _ ?_)
      refine seq_ (fun _ K95 => ?_)
      refine seq_ (fun _ K96 => ?_)
      refine reg_ ?_
      refine sq (o_pv (.iface 63 (.int .i64 n92)) rfl (by kernel_rfl) ?_)
      refine sq (o_pv (.tuple #[.nilIface, (.bool false)]) rfl (x_tassert (t := 63) (v := (.int .i64 n92)) (by kernel_rfl) (fun v xT w => run_typeAssert_lacksB Tryd.underlying217 (by kernel_rfl) (by kernel_rfl) v xT w)) ?_)
      refine sq (o_pv (.tuple #[.nilIface, (.bool false)]) rfl (by kernel_rfl) ?_)
      refine sq (o_pv .nilIface rfl (by kernel_rfl) ?_)
      refine sq (o_pv (.bool false) rfl (by kernel_rfl) ?_)
      refine sq (o_pv .nilIface rfl (by kernel_rfl) ?_)
      refine sq (o_pv (.bool false) rfl (by kernel_rfl) ?_)
      refine nil_ ?_
      refine then_normal (K96 _ _ _ _ ?_)
      refine seq_ (fun _ K97 => ?_)
      refine reg_ ?_
      refine sq (o_pv (.bool false) rfl (by kernel_rfl) ?_)
      refine sq (o_pv (.bool false) rfl (by kernel_rfl) ?_)
      refine sq (o_not (by kernel_rfl) ?_)
      refine sq (o_not (by kernel_rfl) ?_)
      refine sq (o_not (by kernel_rfl) ?_)
      refine sq (o_pv (.bool false) rfl (by kernel_rfl) ?_)
      refine nil_ ?_
      refine then_normal (K97 _ _ _ _ ?_)
      refine cond_f (by kernel_rfl) ?_
      refine wp_skip ?_
      refine then_normal (K95 _ _ _ _ ?_)
      refine seq_ (fun _ K98 => ?_)
      refine reg_ ?_
      refine sq (o_pv (.iface 63 (.int .i64 n92)) rfl (by kernel_rfl) ?_)
      refine nil_ ?_
      refine then_normal (K98 _ _ _ _ ?_)
      refine wp_block ?_
      refine seq_ (fun _ K99 => ?_)
      refine reg_ ?_
      refine sq (o_pv (.tuple #[.nilIface, (.bool false)]) rfl (x_tassert (t := 63) (v := (.int .i64 n92)) (by kernel_rfl) (fun v xT w => run_typeAssert_lacksB Tryd.underlying210 (by kernel_rfl) (by kernel_rfl) v xT w)) ?_)
      refine sq (o_pv (.bool false) rfl (by kernel_rfl) ?_)
      refine sq (o_pv .nilIface rfl (by kernel_rfl) ?_)
      refine nil_ ?_
      refine then_normal (K99 _ _ _ _ ?_)
      refine cond_f (by kernel_rfl) ?_
      refine seq_ (fun _ K100 => ?_)
      refine reg_ ?_
      refine sq (o_pv (.tuple #[.nilIface, (.bool false)]) rfl (x_tassert (t := 63) (v := (.int .i64 n92)) (by kernel_rfl) (fun v xT w => run_typeAssert_lacksB Tryd.underlying212 (by kernel_rfl) (by kernel_rfl) v xT w)) ?_)
      refine sq (o_pv (.bool false) rfl (by kernel_rfl) ?_)
      refine sq (o_pv .nilIface rfl (by kernel_rfl) ?_)
      refine nil_ ?_
      refine then_normal (K100 _ _ _ _ ?_)
      refine cond_f (by kernel_rfl) ?_
      refine seq_ (fun _ K101 => ?_)
      refine reg_ ?_
      refine sq (o_pv (.iface 63 (.int .i64 n92)) rfl (by kernel_rfl) ?_)
      refine nil_ ?_
      refine then_normal (K101 _ _ _ _ ?_)
      refine seq_ (fun _ K102 => ?_)
      refine reg_ ?_
      refine sq (o_pv (.bool false) rfl (by kernel_rfl) ?_)
      refine nil_ ?_
      refine then_normal (K102 _ _ _ _ ?_)
      refine wp_ret ?_
      refine blk_ret ?_
      refine blk_ret ?_
      refine then_ret ?_
      refine blk_ret ?_
      refine end_ret hQ (.bool false) (by kernel_rfl) ?_
      exact ⟨target, false, hp, X67, Ftarget4, step_of E79 hF0 hS81 hN82, rfl, mtarget84⟩
    ·
      replace hp := hp.2 h90
      obtain ⟨part103, at104, n105, hc106⟩ := isFault_eq h89 h90
      replace hp := hp part103 at104 n105 hc106
      rw [hc106] at herr83
      obtain ⟨b107, rfl, k108, z109, r110, r111⟩ := rErr_inv_fault herr83
      replace hp := hp z109
      replace hp := hp r110
      replace hp := hp r111
      refine sq (o_pv (.iface 205 (.agg #[typeHandle Tryd.prog 122])) rfl (x_ext Tryd.func104 (by kernel_rfl) (by kernel_rfl) (by kernel_rfl) (show _ = some Extern.ReflectliteType.typeOf by kernel_rfl) #[(.iface 122 (.pointer (some ⟨b107, 0, none⟩)))] (by kernel_rfl) (by kernel_rfl)) ?_)
      refine sq (o_pv (.iface 205 (.agg #[typeHandle Tryd.prog 122])) rfl (by kernel_rfl) ?_)
      refine sq (o_pv (.bool true) rfl (x_invext (t := 205) (v := (.agg #[typeHandle Tryd.prog 122])) (r := (.agg #[typeHandle Tryd.prog 122])) (by kernel_rfl) (fun _ => by kernel_rfl) Tryd.func183 (by kernel_rfl) (by kernel_rfl) (by kernel_rfl) (show _ = some (Extern.ReflectliteType.relation "AssignableTo" Extern.ReflectliteType.assignableTo) by kernel_rfl) #[(.agg #[typeHandle Tryd.prog 122]), (.iface 205 (.agg #[typeHandle Tryd.prog 122]))] (by kernel_rfl) (by kernel_rfl)) ?_)
      refine nil_ ?_
      refine then_normal (K88 _ _ _ _ ?_)
      refine cond_t (by kernel_rfl) ?_
      refine seq_ (fun _ K112 => ?_)
      refine reg_ ?_
      refine sq (o_pv (.agg #[(typeHandle Tryd.prog 151), (.pointer (some ⟨btargetVal6, 0, none⟩)), (.int .u64 (150 : Int))]) rfl (x_loadN [(typeHandle Tryd.prog 151), (.pointer (some ⟨btargetVal6, 0, none⟩)), (.int .u64 (150 : Int))] (by kernel_rfl) Tryd.isAgg185 Tryd.sizeOf185 (k85.2.1.cells' 0 rfl)) ?_)
      refine sq (o_pv (.agg #[(typeHandle Tryd.prog 122), (.pointer (some ⟨btarget3, 0, none⟩)), (.int .u64 (406 : Int))]) rfl (x_ext Tryd.func122 (by kernel_rfl) (by kernel_rfl) (by kernel_rfl) (show _ = some (Extern.ReflectliteValue.method (Extern.ReflectliteValue.valueError "reflectlite.Value.Elem" 0) Extern.ReflectliteValue.elem) by kernel_rfl) #[(.agg #[(typeHandle Tryd.prog 151), (.pointer (some ⟨btargetVal6, 0, none⟩)), (.int .u64 (150 : Int))])] (by kernel_rfl) (run_velem (H' := (typeHandle Tryd.prog 122)) Tryd.underlying151 (fun w => by kernel_rfl) (ktargetVal86.2.cell' 0 rfl) (fun w => by kernel_rfl) (fun w => by kernel_rfl))) ?_)
      refine sq (o_pv (.iface 122 (.pointer (some ⟨b107, 0, none⟩))) rfl (by kernel_rfl) ?_)
      refine sq (o_valof (X := X67) (B := w.heap.size) (t := 122) (v := (.pointer (some ⟨b107, 0, none⟩))) (H := (typeHandle Tryd.prog 122)) (k := 150) E79.size rfl (x_ext Tryd.func106 (by kernel_rfl) (by kernel_rfl) (by kernel_rfl) (show _ = some (fun args => Extern.ReflectliteValue.unpack (args.getD 0 (.tuple #[]))) by kernel_rfl) #[(.iface 122 (.pointer (some ⟨b107, 0, none⟩)))] (by kernel_rfl) (by kernel_rfl)) ?_)
      intro b113 w114 X115 s116 k117 n118
      have p119 := n118 _ (MO.old mtarget84)
      have p120 := n118 _ (OB.old k85)
      have mtarget121 := (MO.step0 mtarget84 s116)
      obtain ⟨vov122, k124, hov123, sb125⟩ := o_cellFault_open mtarget121
      have p126 := Ap.subr (Ap.symm p15) sb125
      have p127 := Ap.subr (Ap.symm p119) sb125
      have k128 := (OB.step0 k85 s116)
      refine sq (o_vset (X := X115) (t := 122) (H := (typeHandle Tryd.prog 122)) rfl k124 (k117.2.1.cell' 0 rfl) Tryd.underlying122 Tryd.sizeOf122 (fun w => by kernel_rfl) (fun w => by kernel_rfl) (fun w => by kernel_rfl) (x_extr Tryd.func123 (by kernel_rfl) (by kernel_rfl) (by kernel_rfl) (show _ = some Extern.ReflectliteValue.set by kernel_rfl) #[(.agg #[(typeHandle Tryd.prog 122), (.pointer (some ⟨btarget3, 0, none⟩)), (.int .u64 (406 : Int))]), (.agg #[(typeHandle Tryd.prog 122), (.pointer (some ⟨b113, 0, none⟩)), (.int .u64 (150 : Int))])] (by kernel_rfl)) ?_)
      intro w129 s130 k131
      refine nil_ ?_
      refine then_normal (K112 _ _ _ _ ?_)
      refine seq_ (fun _ K132 => ?_)
      refine reg_ ?_
      refine sq (o_pv (.bool true) rfl (by kernel_rfl) ?_)
      refine nil_ ?_
      refine then_normal (K132 _ _ _ _ ?_)
      refine wp_ret ?_
      refine then_ret ?_
      refine blk_ret ?_
      refine then_ret ?_
      refine blk_ret ?_
      have E133 := (Evo.thenW (Evo.then0 E79 (Step.evo s116)) (Step.evo s130) k124.2.2)
      have hXo134 := (Old.step (Old.step hXo80 s116) s130)
      have hS135 := (Sub.trans (Sub.trans hS81 (Step.up s116)) (Step.up s130))
      have hN136 := (News.step (News.step hN82 s116) s130)
      have k137 := (OB.step k128 s130 p126)
      have ktargetVal138 := (RO.step (RO.step ktargetVal86 s116) s130)
      have k139 := (RO.step (RO.step k108 s116) s130)
      have k140 := (OB.step k117 s130 p127)
      have hov141 := (Rep.step (rPtrO r_api_Fault 124) hov123 s130)
      obtain ⟨F142, m143, hs144⟩ := MO.pack (o_cellFault_mk k131 (rPtrO_some k139.1 k139.2 (r_api_Fault_mk z109 r110 (rErr_no r111))))
      have p145 := hs144 _ (Ap.cons p126 (Ap.nil_r _))
      have p146 := hs144 _ (Ap.cons p127 (Ap.nil_r _))
      refine end_ret hQ (.bool true) (by kernel_rfl) ?_
      exact ⟨(S_cellFault.mk (some (S_api_Fault.mk part103 at104 (PErr.no n105)))), true, hp, X115, F142, step_of E133 hF0 hS135 hN136, rfl, m143⟩

def errors_As_p (err : PErr) (target : S_cellFault) (Q : S_cellFault → Bool → Prop) : Prop :=
  (((err.isNil = true) → Q target false) ∧ ((err.isNil = false) → (errors_as_p err target () () (fun (target67 : S_cellFault) (r68 : Bool) => Q target67 r68))))
set_option maxRecDepth 20000 in
set_option maxHeartbeats 4000000 in
theorem errors_As_w {X : List Nat} {w : World} {err : PErr} {target : S_cellFault} {verr1 : Value} {btarget3 : Nat} {Ftarget4 : List Nat} {Q : S_cellFault → Bool → Prop} (hX0 : Old X w) (herr2 : (rErr 63 122 124).ok X w ([verr1]) err) (mtarget5 : MO o_cellFault 122 Ftarget4 w.heap.size X w Ftarget4 btarget3 target) (gv0 : GV X w 0 [(.iface 205 (.agg #[typeHandle Tryd.prog 43]))]) (hp : errors_As_p err target Q) :
    Calls Tryd.prog 84 #[verr1, (.iface 151 (.pointer (some ⟨btarget3, 0, none⟩)))] w (Ret fun v w' => ∃ (m0 : S_cellFault) (r0 : Bool), Q m0 r0 ∧ ∃ (X' : List Nat) (Fm0 : List Nat), Step X w Ftarget4 X' w' ∧ v = (.bool r0) ∧ MO o_cellFault 122 Ftarget4 w.heap.size X' w' Fm0 btarget3 m0) := by
  have hXo := hX0
  have E0 : Evo Ftarget4 w w := RB.refl _ _ _
  have hS : Sub X X := Sub.refl _
  have hN : News X w X w := News.refl _ _
  have hF0 : Sub Ftarget4 X := MO.mem mtarget5
  unfold errors_As_p at hp
  refine enter_ Tryd.func84 rfl 42 [(0, verr1), (1, (.iface 151 (.pointer (some ⟨btarget3, 0, none⟩))))] (by kernel_rfl) (fun Qe hQ => ?_)
  refine seq_ (fun _ K6 => ?_)
  refine reg_ ?_
  refine sq (o_pv (.bool false) rfl (by kernel_rfl) ?_)
  refine nil_ ?_
  refine then_normal (K6 _ _ _ _ ?_)
  refine seq_ (fun _ K7 => ?_)
  refine seq_ (fun _ K8 => ?_)
  refine reg_ ?_
  refine sq (o_pv verr1 rfl (by kernel_rfl) ?_)
  refine sq (o_pv (.bool err.isNil) rfl (x_err_eq err herr2 Tryd.underlying43 (by kernel_rfl)) ?_)
  refine nil_ ?_
  refine then_normal (K8 _ _ _ _ ?_)
  refine cond_b err.isNil (by kernel_rfl) (fun h9 => ?_) (fun h9 => ?_)
  ·
    replace hp := hp.1 h9
    refine seq_ (fun _ K10 => ?_)
    refine reg_ ?_
    refine sq (o_pv (.bool false) rfl (by kernel_rfl) ?_)
    refine nil_ ?_
    refine then_normal (K10 _ _ _ _ ?_)
    refine wp_ret ?_
    refine then_ret ?_
    refine end_ret hQ (.bool false) (by kernel_rfl) ?_
    exact ⟨target, false, hp, X, Ftarget4, step_of E0 hF0 hS hN, rfl, mtarget5⟩
  ·
    replace hp := hp.2 h9
    refine wp_skip ?_
    refine then_normal (K7 _ _ _ _ ?_)
    refine seq_ (fun _ K11 => ?_)
    refine seq_ (fun _ K12 => ?_)
    refine reg_ ?_
    refine sq (o_pv (.iface 151 (.pointer (some ⟨btarget3, 0, none⟩))) rfl (by kernel_rfl) ?_)
    refine sq (o_pv (.bool false) rfl (x_inil_eq (tp := 151) (v := (.pointer (some ⟨btarget3, 0, none⟩))) Tryd.underlying20 (by kernel_rfl) (by kernel_rfl)) ?_)
    refine nil_ ?_
    refine then_normal (K12 _ _ _ _ ?_)
    refine cond_f (by kernel_rfl) ?_
    refine wp_skip ?_
    refine then_normal (K11 _ _ _ _ ?_)
    refine seq_ (fun _ K13 => ?_)
    refine reg_ ?_
    refine sq (o_pv (.iface 151 (.pointer (some ⟨btarget3, 0, none⟩))) rfl (by kernel_rfl) ?_)
    refine sq (o_valof (X := X) (B := w.heap.size) (t := 151) (v := (.pointer (some ⟨btarget3, 0, none⟩))) (H := (typeHandle Tryd.prog 151)) (k := 150) E0.size rfl (x_ext Tryd.func106 (by kernel_rfl) (by kernel_rfl) (by kernel_rfl) (show _ = some (fun args => Extern.ReflectliteValue.unpack (args.getD 0 (.tuple #[]))) by kernel_rfl) #[(.iface 151 (.pointer (some ⟨btarget3, 0, none⟩)))] (by kernel_rfl) (by kernel_rfl)) ?_)
    intro b14 w15 X16 s17 k18 n19
    have p20 := n19 _ (MO.old mtarget5)
    have mtarget27 := (MO.step0 mtarget5 s17)
    have E28 := (Evo.then0 E0 (Step.evo s17))
    refine sq (o_newX [(.pointer none), (.pointer none), (.int .u64 (0 : Int))] 185 (X := X16) (B := w.heap.size) E28.size rfl (by kernel_rfl) ?_)
    intro b21 w22 X23 s24 k25 n26
    have p29 := n26 _ (MO.old mtarget27)
    have p30 := n26 _ (OB.old k18)
    have mtarget31 := (MO.step0 mtarget27 s24)
    have k32 := (OB.step0 k18 s24)
    have E33 := (Evo.then0 E28 (Step.evo s24))
    refine sq (o_stB (o := 0) (v := (.agg #[(typeHandle Tryd.prog 151), (.pointer (some ⟨b14, 0, none⟩)), (.int .u64 (150 : Int))])) [(typeHandle Tryd.prog 151), (.pointer (some ⟨b14, 0, none⟩)), (.int .u64 (150 : Int))] rfl k25 (by kernel_rfl) (by kernel_rfl) Tryd.sizeOf185 rfl rfl rfl ?_)
    intro w34 s35 k36
    refine nil_ ?_
    refine then_normal (K13 _ _ _ _ ?_)
    refine seq_ (fun _ K37 => ?_)
    refine reg_ ?_
    refine sq (o_pv (.agg #[(typeHandle Tryd.prog 151), (.pointer (some ⟨b14, 0, none⟩)), (.int .u64 (150 : Int))]) rfl (x_loadN [(typeHandle Tryd.prog 151), (.pointer (some ⟨b14, 0, none⟩)), (.int .u64 (150 : Int))] (by kernel_rfl) Tryd.isAgg185 Tryd.sizeOf185 (k36.2.1.cells' 0 rfl)) ?_)
    refine sq (o_pv (.iface 205 (.agg #[typeHandle Tryd.prog 151])) rfl (x_ext Tryd.func107 (by kernel_rfl) (by kernel_rfl) (by kernel_rfl) (show _ = some (Extern.ReflectliteValue.methodAny (Extern.ReflectliteValue.valueError "reflectlite.Value.Type" 0) fun t _ _ _ => Extern.ReflectliteType.toType t) by kernel_rfl) #[(.agg #[(typeHandle Tryd.prog 151), (.pointer (some ⟨b14, 0, none⟩)), (.int .u64 (150 : Int))])] (by kernel_rfl) (by kernel_rfl)) ?_)
    refine sq (o_pv (.iface 205 (.agg #[typeHandle Tryd.prog 151])) rfl (by kernel_rfl) ?_)
    refine nil_ ?_
    refine then_normal (K37 _ _ _ _ ?_)
    refine seq_ (fun _ K38 => ?_)
    refine seq_ (fun _ K39 => ?_)
    refine reg_ ?_
    refine sq (o_pv (.iface 205 (.agg #[typeHandle Tryd.prog 151])) rfl (by kernel_rfl) ?_)
    refine sq (o_pv (.int .u8 (22 : Int)) rfl (x_invext (t := 205) (v := (.agg #[typeHandle Tryd.prog 151])) (r := (typeHandle Tryd.prog 151)) (by kernel_rfl) (fun _ => by kernel_rfl) Tryd.func171 (by kernel_rfl) (by kernel_rfl) (by kernel_rfl) (show _ = some (Extern.ReflectliteType.abiMethod fun t => do pure (.int .u8 (← Extern.Rtype.kind t))) by kernel_rfl) #[(typeHandle Tryd.prog 151)] (by kernel_rfl) (by kernel_rfl)) ?_)
    refine sq (o_pv (.bool false) rfl (x_ndf (p := (22 : Int) = (22 : Int)) (by kernel_rfl) (by decide)) ?_)
    refine sq (o_pv (.bool false) rfl (by kernel_rfl) ?_)
    refine sq (o_pv (.agg #[(typeHandle Tryd.prog 151), (.pointer (some ⟨b14, 0, none⟩)), (.int .u64 (150 : Int))]) (by kernel_rfl) (x_loadN [(typeHandle Tryd.prog 151), (.pointer (some ⟨b14, 0, none⟩)), (.int .u64 (150 : Int))] (by kernel_rfl) Tryd.isAgg185 Tryd.sizeOf185 (k36.2.1.cells' 0 rfl)) ?_)
    have k41 := (OB.step k32 s35 p30)
    refine sq (o_pv (.bool false) (by kernel_rfl) (x_ext Tryd.func108 (by kernel_rfl) (by kernel_rfl) (by kernel_rfl) (show _ = some (Extern.ReflectliteValue.method (Extern.ReflectliteValue.valueError "reflectlite.Value.IsNil" 0) Extern.ReflectliteValue.isNil) by kernel_rfl) #[(.agg #[(typeHandle Tryd.prog 151), (.pointer (some ⟨b14, 0, none⟩)), (.int .u64 (150 : Int))])] (by kernel_rfl) (run_visnil Tryd.underlying151 (fun w => by kernel_rfl) (k41.2.1.cell' 0 rfl))) ?_)
    refine sq (o_pv (.bool false) rfl (by kernel_rfl) ?_)
    refine nil_ ?_
    refine then_normal (K39 _ _ _ _ ?_)
    refine cond_f (by kernel_rfl) ?_
    refine wp_skip ?_
    refine then_normal (K38 _ _ _ _ ?_)
    refine seq_ (fun _ K42 => ?_)
    refine reg_ ?_
    refine sq (o_pv (.iface 205 (.agg #[typeHandle Tryd.prog 151])) rfl (by kernel_rfl) ?_)
    refine sq (o_pv (.iface 205 (.agg #[typeHandle Tryd.prog 122])) rfl (x_invext (t := 205) (v := (.agg #[typeHandle Tryd.prog 151])) (r := (.agg #[typeHandle Tryd.prog 151])) (by kernel_rfl) (fun _ => by kernel_rfl) Tryd.func185 (by kernel_rfl) (by kernel_rfl) (by kernel_rfl) (show _ = some (Extern.ReflectliteType.method Extern.ReflectliteType.elem) by kernel_rfl) #[(.agg #[typeHandle Tryd.prog 151])] (by kernel_rfl) (by kernel_rfl)) ?_)
    refine sq (o_pv (.iface 205 (.agg #[typeHandle Tryd.prog 122])) rfl (by kernel_rfl) ?_)
    refine nil_ ?_
    refine then_normal (K42 _ _ _ _ ?_)
    refine seq_ (fun _ K43 => ?_)
    refine seq_ (fun _ K44 => ?_)
    refine reg_ ?_
    refine sq (o_pv (.iface 205 (.agg #[typeHandle Tryd.prog 122])) rfl (by kernel_rfl) ?_)
    refine sq (o_pv (.int .u8 (22 : Int)) rfl (x_invext (t := 205) (v := (.agg #[typeHandle Tryd.prog 122])) (r := (typeHandle Tryd.prog 122)) (by kernel_rfl) (fun _ => by kernel_rfl) Tryd.func171 (by kernel_rfl) (by kernel_rfl) (by kernel_rfl) (show _ = some (Extern.ReflectliteType.abiMethod fun t => do pure (.int .u8 (← Extern.Rtype.kind t))) by kernel_rfl) #[(typeHandle Tryd.prog 122)] (by kernel_rfl) (by kernel_rfl)) ?_)
    refine sq (o_pv (.bool true) rfl (x_ndt (p := (22 : Int) = (20 : Int)) (by kernel_rfl) (by decide)) ?_)
    refine sq (o_pv (.bool true) rfl (by kernel_rfl) ?_)
    refine sq (o_pv (.iface 205 (.agg #[typeHandle Tryd.prog 122])) (by kernel_rfl) (by kernel_rfl) ?_)
    have gv46 := (GV.step (GV.step (GV.step gv0 s17) s24) s35)
    refine sq (o_pv (.iface 205 (.agg #[typeHandle Tryd.prog 43])) (by kernel_rfl) (x_load1 (by kernel_rfl) Tryd.isAgg179 (GV.cell gv46 0 rfl)) ?_)
    refine sq (o_pv (.bool true) (by kernel_rfl) (x_invext (t := 205) (v := (.agg #[typeHandle Tryd.prog 122])) (r := (.agg #[typeHandle Tryd.prog 122])) (by kernel_rfl) (fun _ => by kernel_rfl) Tryd.func186 (by kernel_rfl) (by kernel_rfl) (by kernel_rfl) (show _ = some (Extern.ReflectliteType.relation "Implements" Extern.ReflectliteType.implements_) by kernel_rfl) #[(.agg #[typeHandle Tryd.prog 122]), (.iface 205 (.agg #[typeHandle Tryd.prog 43]))] (by kernel_rfl) (by kernel_rfl)) ?_)
    refine sq (o_pv (.bool false) (by kernel_rfl) (by kernel_rfl) ?_)
    refine sq (o_pv (.bool false) rfl (by kernel_rfl) ?_)
    refine nil_ ?_
    refine then_normal (K44 _ _ _ _ ?_)
    refine cond_f (by kernel_rfl) ?_
    refine wp_skip ?_
    refine then_normal (K43 _ _ _ _ ?_)
    refine seq_ (fun _ K47 => ?_)
    refine reg_ ?_
    refine sq (o_pv verr1 rfl (by kernel_rfl) ?_)
    refine sq (o_pv (.iface 151 (.pointer (some ⟨btarget3, 0, none⟩))) rfl (by kernel_rfl) ?_)
    refine sq (o_pv (.agg #[(typeHandle Tryd.prog 151), (.pointer (some ⟨b14, 0, none⟩)), (.int .u64 (150 : Int))]) rfl (x_loadN [(typeHandle Tryd.prog 151), (.pointer (some ⟨b14, 0, none⟩)), (.int .u64 (150 : Int))] (by kernel_rfl) Tryd.isAgg185 Tryd.sizeOf185 (k36.2.1.cells' 0 rfl)) ?_)
    refine sq (o_pv (.iface 205 (.agg #[typeHandle Tryd.prog 122])) rfl (by kernel_rfl) ?_)
    have herr53 := (Rep.step (rErr 63 122 124) (Rep.step (rErr 63 122 124) (Rep.step (rErr 63 122 124) herr2 s17) s24) s35)
    have mtarget54 := (MO.step mtarget31 s35 p29)
    have hXo55 := (Old.step (Old.step (Old.step hXo s17) s24) s35)
    have E56 := (Evo.thenW E33 (Step.evo s35) (Wr.of k25.2.2))
    have hS57 := (Sub.trans (Sub.trans (Sub.trans hS (Step.up s17)) (Step.up s24)) (Step.up s35))
    have hN58 := (News.step (News.step (News.step hN s17) s24) s35)
    have ax52 := OB.apold k41 hX0
    obtain ⟨X48, u49, r50, hm51⟩ := OB.release k41
    have herr59 := (Rep.less (rErr 63 122 124) herr53 u49)
    have mtarget60 := (MO.less mtarget54 u49 (hm51 _ p20 (MO.mem mtarget54)))
    have gv61 := (GV.less gv46 u49)
    have hXo62 := (Old.less hXo55 u49)
    have E63 := E56
    have hS64 := (hm51 _ ax52 hS57)
    have hN65 := (News.less hN58 u49)
    have k66 := (OB.less k36 (hm51 _ (Ap.symm p30) (OB.mem k36)))
    refine sq (o_call 109 #[verr1, (.iface 151 (.pointer (some ⟨btarget3, 0, none⟩))), (.agg #[(typeHandle Tryd.prog 151), (.pointer (some ⟨b14, 0, none⟩)), (.int .u64 (150 : Int))]), (.iface 205 (.agg #[typeHandle Tryd.prog 122]))] rfl (x_call Tryd.call109 (by kernel_rfl)) (errors_as_w (X := X48) (err := err) (target := target) (targetVal := ()) (targetType := ()) hXo62 herr59 (MO.re mtarget60 (Wr.self _ _ (Sub.refl _))) r50 hp) ?_)
    rintro _ w69 ⟨target67, r68, hp, X70, F72, s71, rfl, m73⟩
    have m74 := MO.re m73 (Wr.trans m73.wr mtarget60.wr E63.size)
    have p75 := Ap.grow m73.wr (Ap.symm p29) (OB.old k66) (Nat.le_refl _)
    refine sq (o_pv (.bool r68) rfl (by kernel_rfl) ?_)
    refine nil_ ?_
    refine then_normal (K47 _ _ _ _ ?_)
    refine wp_ret ?_
    have herr76 := (Rep.step (rErr 63 122 124) herr59 s71)
    have gv77 := (GV.step gv61 s71)
    have hXo78 := (Old.step hXo62 s71)
    have E79 := (Evo.thenW E63 (Step.evo s71) mtarget60.wr)
    have hS80 := (Sub.trans hS64 (Step.up s71))
    have hN81 := (News.step hN65 s71)
    have k82 := (OB.step k66 s71 (Ap.symm p29))
    have r83 := (RO.step r50 s71)
    refine end_ret hQ (.bool r68) (by kernel_rfl) ?_
    exact ⟨target67, r68, hp, X70, F72, step_of E79 hF0 hS80 hN81, rfl, m74⟩

end Go.Proofs.YtkmenljohhngjaaDoor
