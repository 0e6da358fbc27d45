/- Walks of functions: what each asks and computes, as a plain predicate, and the contract from it. -/
import Derived.Test.YtcgfjmfbfildpaaRDoorChecked
import Derived.Test.YtcgfjmfbfildpaaRDoorPa2
namespace Go.Proofs.YtcgfjmfbfildpaaRDoor
open Go


def rectolaw1_PathFolders_p (p : ByteArray) (Q : Bool → Prop) : Prop :=
  ((p.size ≤ maxLen) → (rectolaw1_known_p  (fun (r5 : Bool) => ((((!r5) = true) → Q false) ∧ (((!r5) = false) → (path_Check_p p (fun (r14 : Int) => ((inR .i64 r14) → (((¬ (r14 = (0 : Int))) → Q true) ∧ ((r14 = (0 : Int)) → (path_Parts_p p (fun (r24 : (List ByteArray)) => ((r24.length ≤ 9223372036854775807) → (path_Parent_p p (fun (r33 : ByteArray) => ((r33.size ≤ maxLen) → (∃ (I130 : Int → ByteArray → Prop) (m131 : Int → ByteArray → Nat), (I130 (r24.length : Int) r33) ∧ ∀ (n_38 : Int) (d40 : ByteArray), (I130 n_38 d40) → (inR .i64 n_38) → (d40.size ≤ maxLen) → (((¬ ((d40 : ByteArray) = (ByteArray.mk #[]))) → ((inR .i64 (n_38 - (1 : Int))) ∧ (∃ k178 : Bool → Prop, (∀ (s177 : Bool), k178 s177 → (((s177 = true) → Q false) ∧ ((s177 = false) → (path_Parent_p d40 (fun (r226 : ByteArray) => ((r226.size ≤ maxLen) → ((I130 (n_38 - (1 : Int)) r226) ∧ m131 (n_38 - (1 : Int)) r226 < m131 n_38 d40))))))) ∧ ((((n_38 - (1 : Int)) < (1 : Int)) → (k178 true)) ∧ ((¬ ((n_38 - (1 : Int)) < (1 : Int))) → (path_Check_p d40 (fun (r189 : Int) => ((inR .i64 r189) → (((r189 = (0 : Int)) → (path_Under_p p d40 (fun (r195 : Bool) => (((r195 = true) → (path_Clash_p p d40 (fun (r202 : Bool) => (((r202 = true) → (path_Parts_p d40 (fun (r210 : (List ByteArray)) => ((r210.length ≤ 9223372036854775807) → (k178 (!decide ((r210.length : Int) = (n_38 - (1 : Int))))))))) ∧ ((r202 = false) → (k178 true)))))) ∧ ((r195 = false) → (k178 true)))))) ∧ ((¬ (r189 = (0 : Int))) → (k178 true))))))))))) ∧ (((d40 : ByteArray) = (ByteArray.mk #[])) → (∃ k245 : Bool → Prop, (∀ (s244 : Bool), k245 s244 → Q s244) ∧ (((n_38 = (1 : Int)) → (path_Under_p p (ByteArray.mk #[]) (fun (r256 : Bool) => (((r256 = true) → (path_Clash_p p p (fun (r263 : Bool) => (k245 (!r263))))) ∧ ((r256 = false) → (k245 false)))))) ∧ ((¬ (n_38 = (1 : Int))) → (k245 false)))))))))))))))))))))))
set_option maxRecDepth 20000 in
set_option maxHeartbeats 4000000 in
theorem rectolaw1_PathFolders_w {X : List Nat} {w : World} {p : ByteArray} {Q : Bool → Prop} (hX0 : Old X w) (zp1 : p.size ≤ maxLen) (hp : rectolaw1_PathFolders_p p Q) :
    Calls Tryd.prog 5 #[(.string p)] w (Ret fun v w' => ∃ (r0 : Bool), Q r0 ∧ Evo [] w w' ∧ v = (.bool r0)) := by
  have hXo := hX0
  have E0 : Evo [] w w := RB.refl _ _ _
  have hS : Sub X X := Sub.refl _
  unfold rectolaw1_PathFolders_p at hp
  refine enter_ Tryd.func5 rfl 59 [(0, (.string p))] (by kernel_rfl) (fun Qe hQ => ?_)
  replace hp := hp zp1
  refine seq_ (fun _ K2 => ?_)
  refine reg_ ?_
  refine sq (o_pv (.bool false) rfl (by kernel_rfl) ?_)
  refine nil_ ?_
  refine then_normal (K2 _ _ _ _ ?_)
  refine seq_ (fun _ K3 => ?_)
  refine seq_ (fun _ K4 => ?_)
  refine reg_ ?_
  refine sq (o_call 13 #[] rfl (x_call Tryd.call13 (by kernel_rfl)) (rectolaw1_known_w (X := [])  (Old.nil _) hp) ?_)
  rintro _ w6 ⟨r5, hp, e7, rfl⟩
  have s8 := Step.of0 X e7
  refine sq (o_pv (.bool (!r5)) rfl (by kernel_rfl) ?_)
  refine nil_ ?_
  refine then_normal (K4 _ _ _ _ ?_)
  refine cond_b (!r5) (by kernel_rfl) (fun h9 => ?_) (fun h9 => ?_)
  ·
    replace hp := hp.1 h9
    refine seq_ (fun _ K10 => ?_)
    refine reg_ ?_
    refine sq (o_pv (.bool false) rfl (by kernel_rfl) ?_)
    refine nil_ ?_
    refine then_normal (K10 _ _ _ _ ?_)
    refine wp_ret ?_
    refine then_ret ?_
    have E11 := (Evo.then0 E0 e7)
    refine end_ret hQ (.bool false) (by kernel_rfl) ?_
    exact ⟨false, hp, E11, rfl⟩
  ·
    replace hp := hp.2 h9
    refine wp_skip ?_
    refine then_normal (K3 _ _ _ _ ?_)
    refine seq_ (fun _ K12 => ?_)
    refine seq_ (fun _ K13 => ?_)
    refine reg_ ?_
    refine sq (o_pv (.string p) rfl (by kernel_rfl) ?_)
    refine sq (o_call 14 #[(.string p)] rfl (x_call Tryd.call14 (by kernel_rfl)) (path_Check_w (X := []) (p := p) (Old.nil _) zp1 hp) ?_)
    rintro _ w15 ⟨r14, hp, e16, rfl, rr18⟩
    have s17 := Step.of0 X e16
    replace hp := hp rr18
    refine sq (o_pv (.bool (!decide (r14 = (0 : Int)))) rfl (by kernel_rfl) ?_)
    refine nil_ ?_
    refine then_normal (K13 _ _ _ _ ?_)
    refine cond_nd (r14 = (0 : Int)) (by kernel_rfl) (fun h19 => ?_) (fun h19 => ?_)
    ·
      replace hp := hp.1 h19
      refine seq_ (fun _ K20 => ?_)
      refine reg_ ?_
      refine sq (o_pv (.bool true) rfl (by kernel_rfl) ?_)
      refine nil_ ?_
      refine then_normal (K20 _ _ _ _ ?_)
      refine wp_ret ?_
      refine then_ret ?_
      have E21 := (Evo.then0 (Evo.then0 E0 e7) e16)
      refine end_ret hQ (.bool true) (by kernel_rfl) ?_
      exact ⟨true, hp, E21, rfl⟩
    ·
      replace hp := hp.2 h19
      refine wp_skip ?_
      refine then_normal (K12 _ _ _ _ ?_)
      refine seq_ (fun _ K22 => ?_)
      refine reg_ ?_
      refine sq (o_pv (.string p) rfl (by kernel_rfl) ?_)
      have hXo23 := (Old.step (Old.step hXo s8) s17)
      refine sq (o_call 17 #[(.string p)] rfl (x_call Tryd.call17 (by kernel_rfl)) (path_Parts_w (X := X) (p := p) hXo23 zp1 hp) ?_)
      rintro _ w25 ⟨r24, hp, e26, ar28, cr29, rfl, hr30⟩
      have s27 := Step.of0 X e26
      replace hp := hp (Sl.len hr30)
      refine sq (o_pv (.int .i64 (r24.length : Int)) rfl (by kernel_rfl) ?_)
      refine sq (o_pv (.int .i64 (r24.length : Int)) rfl (by kernel_rfl) ?_)
      refine nil_ ?_
      refine then_normal (K22 _ _ _ _ ?_)
      refine seq_ (fun _ K31 => ?_)
      refine seq_ (fun _ K32 => ?_)
      refine reg_ ?_
      refine sq (o_pv (.string p) rfl (by kernel_rfl) ?_)
      refine sq (o_call 19 #[(.string p)] rfl (x_call Tryd.call19 (by kernel_rfl)) (path_Parent_w (X := []) (p := p) (Old.nil _) zp1 hp) ?_)
      rintro _ w34 ⟨r33, hp, e35, rfl, zr37⟩
      have s36 := Step.of0 X e35
      replace hp := hp zr37
      refine sq (o_pv (.string r33) rfl (by kernel_rfl) ?_)
      refine nil_ ?_
      refine then_normal (K32 _ _ _ _ ?_)
      refine wp_block ?_
      have hXo140 := (Old.step (Old.step hXo23 s27) s36)
      have E141 := (Evo.then0 (Evo.then0 (Evo.then0 (Evo.then0 E0 e7) e16) e26) e35)
      have hS142 := (Sub.trans (Sub.trans (Sub.trans (Sub.trans hS (Step.up s8)) (Step.up s17)) (Step.up s27)) (Step.up s36))
      have hr143 := (Sl.step hr30 s36)
      obtain ⟨I130, m131, hI132, hp⟩ := hp
      refine loop_ 140737488322588 (fun kq lq w134 => ∃ (X135 : List Nat) (n_38 : Int) (d40 : ByteArray), (lq = [(3, (.int .i64 n_38)), (4, (.string d40))]) ∧ (kq = m131 n_38 d40) ∧ (Evo [] w w134) ∧ (Old X135 w134) ∧ (Sub X X135) ∧ (inR .i64 n_38) ∧ (d40.size ≤ maxLen) ∧ (I130 n_38 d40)) (m131 (r24.length : Int) r33) [(3, (.int .i64 (r24.length : Int))), (4, (.string r33))] (vs_cons (by kernel_rfl) (vs_cons (by kernel_rfl) vs_nil)) ⟨X, (r24.length : Int), r33, rfl, rfl, E141, hXo140, hS142, (inR_len (Sl.len hr30)), zr37, hI132⟩ ?_
      rintro _ _ w134 g137 ⟨X135, n_38, d40, rfl, rfl, E144, hXo145, hS146, rn_39, zd41, hI133⟩ Kl138 hA139
      replace hp := hp n_38 d40 hI133 rn_39 zd41
      refine seq_ (fun _ K147 => ?_)
      refine seq_ (fun _ K148 => ?_)
      refine reg_ ?_
      refine sq (o_pv (.string d40) rfl (by kernel_rfl) ?_)
      refine sq (o_pv (.bool (!decide ((d40 : ByteArray) = (ByteArray.mk #[])))) rfl (x_strne (by kernel_rfl) (by kernel_rfl)) ?_)
      refine nil_ ?_
      refine then_normal (K148 _ _ _ _ ?_)
      refine cond_nd ((d40 : ByteArray) = (ByteArray.mk #[])) (by kernel_rfl) (fun h149 => ?_) (fun h149 => ?_)
      ·
        replace hp := hp.1 h149
        refine wp_skip ?_
        refine then_normal (K147 _ _ _ _ ?_)
        refine seq_ (fun _ K150 => ?_)
        refine wp_block ?_
        refine seq_ (fun _ K151 => ?_)
        refine reg_ ?_
        refine sq (o_pv (.int .i64 n_38) rfl (by kernel_rfl) ?_)
        obtain ⟨h152, hp⟩ := hp
        refine sq (o_pv (.int .i64 (n_38 - (1 : Int))) rfl (x_sub2 (k := .i64) (a := n_38) (b := (1 : Int)) (n_38 - (1 : Int)) (by kernel_rfl) (by kernel_rfl) (wrap_inR h152)) ?_)
        refine sq (o_pv (.int .i64 (n_38 - (1 : Int))) rfl (by kernel_rfl) ?_)
        refine nil_ ?_
        refine then_normal (K151 _ _ _ _ ?_)
        refine seq_ (fun _ K153 => ?_)
        obtain ⟨k178, hk179, hp⟩ := hp
        refine ground_ ?_
        refine join_ 140737486258176 (fun lq w180 => ∃ (X181 : List Nat) (s177 : Bool), (lq = [(46, (.bool s177))]) ∧ (Evo [] w w180) ∧ (Old X181 w180) ∧ (Sub X X181) ∧ (k178 s177)) (fun Kj182 hJ183 => ?_) ?_
        ·
          refine reg_ ?_
          refine sq (o_pv (.int .i64 (n_38 - (1 : Int))) rfl (by kernel_rfl) ?_)
          by_cases h188 : (n_38 - (1 : Int)) < (1 : Int)
          ·
            replace hp := hp.1 h188
            refine sq (o_pv (.bool true) rfl (x_dt (p := (n_38 - (1 : Int)) < (1 : Int)) (by kernel_rfl) h188) ?_)
            refine sq (o_pv (.bool true) rfl (by kernel_rfl) ?_)
            refine sq (o_not (by kernel_rfl) ?_)
            refine sq (o_not (by kernel_rfl) ?_)
            refine sq (o_not (by kernel_rfl) ?_)
            refine sq (o_pv (.bool true) rfl (by kernel_rfl) ?_)
            refine sq (o_pv (.bool true) rfl (by kernel_rfl) ?_)
            refine sq (o_not (by kernel_rfl) ?_)
            refine sq (o_not (by kernel_rfl) ?_)
            refine sq (o_not (by kernel_rfl) ?_)
            refine sq (o_not (by kernel_rfl) ?_)
            refine sq (o_pv (.bool true) rfl (by kernel_rfl) ?_)
            refine sq (o_pv (.bool true) rfl (by kernel_rfl) ?_)
            refine sq (o_not (by kernel_rfl) ?_)
            refine sq (o_not (by kernel_rfl) ?_)
            refine sq (o_not (by kernel_rfl) ?_)
            refine sq (o_not (by kernel_rfl) ?_)
            refine sq (o_pv (.bool true) rfl (by kernel_rfl) ?_)
            refine sq (o_pv (.bool true) rfl (by kernel_rfl) ?_)
            refine sq (o_not (by kernel_rfl) ?_)
            refine sq (o_not (by kernel_rfl) ?_)
            refine sq (o_not (by kernel_rfl) ?_)
            refine sq (o_not (by kernel_rfl) ?_)
            refine sq (o_not (by kernel_rfl) ?_)
            refine sq (o_pv (.bool true) rfl (by kernel_rfl) ?_)
            refine nil_ ?_
            refine then_normal (hJ183 _ _ _ ⟨[(46, (.bool true))], fit_mk (fun _ _ => rfl) (by kernel_rfl) (vs_cons (by kernel_rfl) vs_nil), ?_⟩)
            exact ⟨X135, true, rfl, E144, hXo145, hS146, hp⟩
          ·
            replace hp := hp.2 h188
            refine sq (o_pv (.bool false) rfl (x_df (p := (n_38 - (1 : Int)) < (1 : Int)) (by kernel_rfl) h188) ?_)
            refine sq (o_pv (.bool false) rfl (by kernel_rfl) ?_)
            refine sq (o_pv (.string d40) (by kernel_rfl) (by kernel_rfl) ?_)
            refine sq (o_call 14 #[(.string d40)] (by kernel_rfl) (x_call Tryd.call14 (by kernel_rfl)) (path_Check_w (X := []) (p := d40) (Old.nil _) zd41 hp) ?_)
            rintro _ w190 ⟨r189, hp, e191, rfl, rr193⟩
            have s192 := Step.of0 X135 e191
            replace hp := hp rr193
            by_cases h194 : r189 = (0 : Int)
            ·
              replace hp := hp.1 h194
              refine sq (o_pv (.bool false) (by kernel_rfl) (x_ndf (p := r189 = (0 : Int)) (by kernel_rfl) h194) ?_)
              refine sq (o_pv (.bool false) rfl (by kernel_rfl) ?_)
              refine sq (o_pv (.bool false) rfl (by kernel_rfl) ?_)
              refine sq (o_pv (.string p) (by kernel_rfl) (by kernel_rfl) ?_)
              refine sq (o_pv (.string d40) (by kernel_rfl) (by kernel_rfl) ?_)
              refine sq (o_call 22 #[(.string p), (.string d40)] (by kernel_rfl) (x_call Tryd.call22 (by kernel_rfl)) (path_Under_w (X := []) (p := p) (dir := d40) (Old.nil _) zp1 zd41 hp) ?_)
              rintro _ w196 ⟨r195, hp, e197, rfl⟩
              have s198 := Step.of0 X135 e197
              cases r195
              ·
                replace hp := hp.2 rfl
                refine sq (o_pv (.bool true) (by kernel_rfl) (by kernel_rfl) ?_)
                refine sq (o_pv (.bool true) rfl (by kernel_rfl) ?_)
                refine sq (o_pv (.bool true) rfl (by kernel_rfl) ?_)
                refine sq (o_not (by kernel_rfl) ?_)
                refine sq (o_not (by kernel_rfl) ?_)
                refine sq (o_not (by kernel_rfl) ?_)
                refine sq (o_not (by kernel_rfl) ?_)
                refine sq (o_pv (.bool true) rfl (by kernel_rfl) ?_)
                refine sq (o_pv (.bool true) rfl (by kernel_rfl) ?_)
                refine sq (o_not (by kernel_rfl) ?_)
                refine sq (o_not (by kernel_rfl) ?_)
                refine sq (o_not (by kernel_rfl) ?_)
                refine sq (o_not (by kernel_rfl) ?_)
                refine sq (o_not (by kernel_rfl) ?_)
                refine sq (o_pv (.bool true) rfl (by kernel_rfl) ?_)
                refine nil_ ?_
                have E199 := (Evo.then0 (Evo.then0 E144 e191) e197)
                have hXo200 := (Old.step (Old.step hXo145 s192) s198)
                have hS201 := (Sub.trans (Sub.trans hS146 (Step.up s192)) (Step.up s198))
                refine then_normal (hJ183 _ _ _ ⟨[(46, (.bool true))], fit_mk (fun _ _ => rfl) (by kernel_rfl) (vs_cons (by kernel_rfl) vs_nil), ?_⟩)
                exact ⟨X135, true, rfl, E199, hXo200, hS201, hp⟩
              ·
                replace hp := hp.1 rfl
                refine sq (o_pv (.bool false) (by kernel_rfl) (by kernel_rfl) ?_)
                refine sq (o_pv (.bool false) rfl (by kernel_rfl) ?_)
                refine sq (o_pv (.bool false) rfl (by kernel_rfl) ?_)
                refine sq (o_pv (.string p) (by kernel_rfl) (by kernel_rfl) ?_)
                refine sq (o_pv (.string d40) (by kernel_rfl) (by kernel_rfl) ?_)
                refine sq (o_call 21 #[(.string p), (.string d40)] (by kernel_rfl) (x_call Tryd.call21 (by kernel_rfl)) (path_Clash_w (X := []) (a := p) (b := d40) (Old.nil _) zp1 zd41 hp) ?_)
                rintro _ w203 ⟨r202, hp, e204, rfl⟩
                have s205 := Step.of0 X135 e204
                cases r202
                ·
                  replace hp := hp.2 rfl
                  refine sq (o_pv (.bool true) (by kernel_rfl) (by kernel_rfl) ?_)
                  refine sq (o_pv (.bool true) rfl (by kernel_rfl) ?_)
                  refine sq (o_pv (.bool true) rfl (by kernel_rfl) ?_)
                  refine sq (o_not (by kernel_rfl) ?_)
                  refine sq (o_not (by kernel_rfl) ?_)
                  refine sq (o_not (by kernel_rfl) ?_)
                  refine sq (o_not (by kernel_rfl) ?_)
                  refine sq (o_not (by kernel_rfl) ?_)
                  refine sq (o_pv (.bool true) rfl (by kernel_rfl) ?_)
                  refine nil_ ?_
                  have E206 := (Evo.then0 (Evo.then0 (Evo.then0 E144 e191) e197) e204)
                  have hXo207 := (Old.step (Old.step (Old.step hXo145 s192) s198) s205)
                  have hS208 := (Sub.trans (Sub.trans (Sub.trans hS146 (Step.up s192)) (Step.up s198)) (Step.up s205))
                  refine then_normal (hJ183 _ _ _ ⟨[(46, (.bool true))], fit_mk (fun _ _ => rfl) (by kernel_rfl) (vs_cons (by kernel_rfl) vs_nil), ?_⟩)
                  exact ⟨X135, true, rfl, E206, hXo207, hS208, hp⟩
                ·
                  replace hp := hp.1 rfl
                  refine sq (o_pv (.bool false) (by kernel_rfl) (by kernel_rfl) ?_)
                  refine sq (o_pv (.bool false) rfl (by kernel_rfl) ?_)
                  refine sq (o_pv (.bool false) rfl (by kernel_rfl) ?_)
                  refine sq (o_pv (.string d40) (by kernel_rfl) (by kernel_rfl) ?_)
                  have hXo209 := (Old.step (Old.step (Old.step hXo145 s192) s198) s205)
                  refine sq (o_call 17 #[(.string d40)] (by kernel_rfl) (x_call Tryd.call17 (by kernel_rfl)) (path_Parts_w (X := X135) (p := d40) hXo209 zd41 hp) ?_)
                  rintro _ w211 ⟨r210, hp, e212, ar214, cr215, rfl, hr216⟩
                  have s213 := Step.of0 X135 e212
                  replace hp := hp (Sl.len hr216)
                  refine sq (o_pv (.int .i64 (r210.length : Int)) (by kernel_rfl) (by kernel_rfl) ?_)
                  refine sq (o_pv (.int .i64 (n_38 - (1 : Int))) (by kernel_rfl) (by kernel_rfl) ?_)
                  refine sq (o_pv (.bool (!decide ((r210.length : Int) = (n_38 - (1 : Int))))) (by kernel_rfl) (by kernel_rfl) ?_)
                  refine sq (o_pv (.bool (!decide ((r210.length : Int) = (n_38 - (1 : Int))))) rfl (by kernel_rfl) ?_)
                  refine nil_ ?_
                  have E217 := (Evo.then0 (Evo.then0 (Evo.then0 (Evo.then0 E144 e191) e197) e204) e212)
                  have hXo218 := (Old.step hXo209 s213)
                  have hS219 := (Sub.trans (Sub.trans (Sub.trans (Sub.trans hS146 (Step.up s192)) (Step.up s198)) (Step.up s205)) (Step.up s213))
                  refine then_normal (hJ183 _ _ _ ⟨[(46, (.bool (!decide ((r210.length : Int) = (n_38 - (1 : Int))))))], fit_mk (fun _ _ => rfl) (by kernel_rfl) (vs_cons (by kernel_rfl) vs_nil), ?_⟩)
                  exact ⟨X135, (!decide ((r210.length : Int) = (n_38 - (1 : Int)))), rfl, E217, hXo218, hS219, hp⟩
            ·
              replace hp := hp.2 h194
              refine sq (o_pv (.bool true) (by kernel_rfl) (x_ndt (p := r189 = (0 : Int)) (by kernel_rfl) h194) ?_)
              refine sq (o_pv (.bool true) rfl (by kernel_rfl) ?_)
              refine sq (o_pv (.bool true) rfl (by kernel_rfl) ?_)
              refine sq (o_not (by kernel_rfl) ?_)
              refine sq (o_not (by kernel_rfl) ?_)
              refine sq (o_not (by kernel_rfl) ?_)
              refine sq (o_not (by kernel_rfl) ?_)
              refine sq (o_pv (.bool true) rfl (by kernel_rfl) ?_)
              refine sq (o_pv (.bool true) rfl (by kernel_rfl) ?_)
              refine sq (o_not (by kernel_rfl) ?_)
              refine sq (o_not (by kernel_rfl) ?_)
              refine sq (o_not (by kernel_rfl) ?_)
              refine sq (o_not (by kernel_rfl) ?_)
              refine sq (o_pv (.bool true) rfl (by kernel_rfl) ?_)
              refine sq (o_pv (.bool true) rfl (by kernel_rfl) ?_)
              refine sq (o_not (by kernel_rfl) ?_)
              refine sq (o_not (by kernel_rfl) ?_)
              refine sq (o_not (by kernel_rfl) ?_)
              refine sq (o_not (by kernel_rfl) ?_)
              refine sq (o_not (by kernel_rfl) ?_)
              refine sq (o_pv (.bool true) rfl (by kernel_rfl) ?_)
              refine nil_ ?_
              have E220 := (Evo.then0 E144 e191)
              have hXo221 := (Old.step hXo145 s192)
              have hS222 := (Sub.trans hS146 (Step.up s192))
              refine then_normal (hJ183 _ _ _ ⟨[(46, (.bool true))], fit_mk (fun _ _ => rfl) (by kernel_rfl) (vs_cons (by kernel_rfl) vs_nil), ?_⟩)
              exact ⟨X135, true, rfl, E220, hXo221, hS222, hp⟩
        ·
          rintro _ w180 g223 ⟨X181, s177, rfl, E185, hXo186, hS187, hv184⟩
          replace hp := hk179 s177 hv184
          refine then_normal (K153 _ _ _ _ ?_)
          refine cond_b s177 (by kernel_rfl) (fun h224 => ?_) (fun h224 => ?_)
          ·
            replace hp := hp.1 h224
            refine seq_ (fun _ K225 => ?_)
            refine reg_ ?_
            refine sq (o_pv (.bool false) rfl (by kernel_rfl) ?_)
            refine nil_ ?_
            refine then_normal (K225 _ _ _ _ ?_)
            refine wp_ret ?_
            refine blk_ret ?_
            refine then_ret ?_
            refine then_ret ?_
            refine blk_ret ?_
            refine then_ret ?_
            refine end_ret hQ (.bool false) (by kernel_rfl) ?_
            exact ⟨false, hp, E185, rfl⟩
          ·
            replace hp := hp.2 h224
            refine wp_skip ?_
            refine blk_normal ?_
            refine then_normal (K150 _ _ _ _ ?_)
            refine reg_ ?_
            refine sq (o_pv (.string d40) rfl (by kernel_rfl) ?_)
            refine sq (o_call 19 #[(.string d40)] rfl (x_call Tryd.call19 (by kernel_rfl)) (path_Parent_w (X := []) (p := d40) (Old.nil _) zd41 hp) ?_)
            rintro _ w227 ⟨r226, hp, e228, rfl, zr230⟩
            have s229 := Step.of0 X181 e228
            replace hp := hp zr230
            refine sq (o_pv (.string r226) rfl (by kernel_rfl) ?_)
            refine nil_ ?_
            have E231 := (Evo.then0 E185 e228)
            have hXo232 := (Old.step hXo186 s229)
            have hS233 := (Sub.trans hS187 (Step.up s229))
            refine then_normal (hA139 _ _ _ ⟨_, [(3, (.int .i64 (n_38 - (1 : Int)))), (4, (.string r226))], hp.2, fit_mk (AgB.nest (AgB.look (AgB.mix _ _ _) (by kernel_rfl)) (by kernel_rfl) (by kernel_rfl)) (by kernel_rfl) (vs_cons (by kernel_rfl) (vs_cons (by kernel_rfl) vs_nil)), ?_⟩)
            exact ⟨X181, (n_38 - (1 : Int)), r226, rfl, rfl, E231, hXo232, hS233, h152, zr230, hp.1⟩
      ·
        replace hp := hp.2 h149
        refine wp_exit ?_
        refine then_exit ?_
        refine then_exit ?_
        refine blk_exit ?_
        refine then_normal (K31 _ _ _ _ ?_)
        refine seq_ (fun _ K234 => ?_)
        obtain ⟨k245, hk246, hp⟩ := hp
        refine ground_ ?_
        refine join_ 576320014815068164 (fun lq w247 => ∃ (X248 : List Nat) (s244 : Bool), (lq = [(2, (.bool s244))]) ∧ (Evo [] w w247) ∧ (Old X248 w247) ∧ (Sub X X248) ∧ (k245 s244)) (fun Kj249 hJ250 => ?_) ?_
        ·
          refine reg_ ?_
          refine sq (o_pv (.int .i64 n_38) rfl (by kernel_rfl) ?_)
          by_cases h255 : n_38 = (1 : Int)
          ·
            replace hp := hp.1 h255
            refine sq (o_pv (.bool true) rfl (x_dt (p := n_38 = (1 : Int)) (by kernel_rfl) h255) ?_)
            refine sq (o_pv (.bool true) rfl (by kernel_rfl) ?_)
            refine sq (o_pv (.string p) (by kernel_rfl) (by kernel_rfl) ?_)
            refine sq (o_call 22 #[(.string p), (.string (ByteArray.mk #[]))] (by kernel_rfl) (x_call Tryd.call22 (by kernel_rfl)) (path_Under_w (X := []) (p := p) (dir := (ByteArray.mk #[])) (Old.nil _) zp1 (by decide) hp) ?_)
            rintro _ w257 ⟨r256, hp, e258, rfl⟩
            have s259 := Step.of0 X135 e258
            cases r256
            ·
              replace hp := hp.2 rfl
              refine sq (o_pv (.bool false) rfl (by kernel_rfl) ?_)
              refine sq (o_pv (.bool false) rfl (by kernel_rfl) ?_)
              refine sq (o_not (by kernel_rfl) ?_)
              refine sq (o_not (by kernel_rfl) ?_)
              refine sq (o_not (by kernel_rfl) ?_)
              refine sq (o_not (by kernel_rfl) ?_)
              refine sq (o_pv (.bool false) rfl (by kernel_rfl) ?_)
              refine sq (o_pv (.bool false) rfl (by kernel_rfl) ?_)
              refine nil_ ?_
              have E260 := (Evo.then0 E144 e258)
              have hXo261 := (Old.step hXo145 s259)
              have hS262 := (Sub.trans hS146 (Step.up s259))
              refine then_normal (hJ250 _ _ _ ⟨[(2, (.bool false))], fit_mk (fun _ _ => rfl) (by kernel_rfl) (vs_cons (by kernel_rfl) vs_nil), ?_⟩)
              exact ⟨X135, false, rfl, E260, hXo261, hS262, hp⟩
            ·
              replace hp := hp.1 rfl
              refine sq (o_pv (.bool true) rfl (by kernel_rfl) ?_)
              refine sq (o_pv (.bool true) rfl (by kernel_rfl) ?_)
              refine sq (o_pv (.string p) (by kernel_rfl) (by kernel_rfl) ?_)
              refine sq (o_pv (.string p) (by kernel_rfl) (by kernel_rfl) ?_)
              refine sq (o_call 21 #[(.string p), (.string p)] (by kernel_rfl) (x_call Tryd.call21 (by kernel_rfl)) (path_Clash_w (X := []) (a := p) (b := p) (Old.nil _) zp1 zp1 hp) ?_)
              rintro _ w264 ⟨r263, hp, e265, rfl⟩
              have s266 := Step.of0 X135 e265
              refine sq (o_pv (.bool (!r263)) (by kernel_rfl) (by kernel_rfl) ?_)
              refine sq (o_pv (.bool (!r263)) rfl (by kernel_rfl) ?_)
              refine sq (o_pv (.bool (!r263)) rfl (by kernel_rfl) ?_)
              refine nil_ ?_
              have E267 := (Evo.then0 (Evo.then0 E144 e258) e265)
              have hXo268 := (Old.step (Old.step hXo145 s259) s266)
              have hS269 := (Sub.trans (Sub.trans hS146 (Step.up s259)) (Step.up s266))
              refine then_normal (hJ250 _ _ _ ⟨[(2, (.bool (!r263)))], fit_mk (fun _ _ => rfl) (by kernel_rfl) (vs_cons (by kernel_rfl) vs_nil), ?_⟩)
              exact ⟨X135, (!r263), rfl, E267, hXo268, hS269, hp⟩
          ·
            replace hp := hp.2 h255
            refine sq (o_pv (.bool false) rfl (x_df (p := n_38 = (1 : Int)) (by kernel_rfl) h255) ?_)
            refine sq (o_pv (.bool false) rfl (by kernel_rfl) ?_)
            refine sq (o_not (by kernel_rfl) ?_)
            refine sq (o_not (by kernel_rfl) ?_)
            refine sq (o_pv (.bool false) rfl (by kernel_rfl) ?_)
            refine sq (o_pv (.bool false) rfl (by kernel_rfl) ?_)
            refine sq (o_not (by kernel_rfl) ?_)
            refine sq (o_not (by kernel_rfl) ?_)
            refine sq (o_not (by kernel_rfl) ?_)
            refine sq (o_not (by kernel_rfl) ?_)
            refine sq (o_pv (.bool false) rfl (by kernel_rfl) ?_)
            refine sq (o_pv (.bool false) rfl (by kernel_rfl) ?_)
            refine nil_ ?_
            refine then_normal (hJ250 _ _ _ ⟨[(2, (.bool false))], fit_mk (fun _ _ => rfl) (by kernel_rfl) (vs_cons (by kernel_rfl) vs_nil), ?_⟩)
            exact ⟨X135, false, rfl, E144, hXo145, hS146, hp⟩
        ·
          rintro _ w247 g270 ⟨X248, s244, rfl, E252, hXo253, hS254, hv251⟩
          replace hp := hk246 s244 hv251
          refine then_normal (K234 _ _ _ _ ?_)
          refine wp_ret ?_
          refine end_ret hQ (.bool s244) (by kernel_rfl) ?_
          exact ⟨s244, hp, E252, rfl⟩

def rectolaw1_PathParts_p (p : ByteArray) (Q : Bool → Prop) : Prop :=
  ((p.size ≤ maxLen) → (rectolaw1_known_p  (fun (r5 : Bool) => ((((!r5) = true) → Q false) ∧ (((!r5) = false) → ((((p.size : Int) > (200 : Int)) → Q true) ∧ ((¬ ((p.size : Int) > (200 : Int))) → (path_Parts_p p (fun (r19 : (List ByteArray)) => ((r19.length ≤ 9223372036854775807) → (∃ (I186 : ByteArray → Int → Prop) (m187 : ByteArray → Int → Nat), (I186 (ByteArray.mk #[]) (0 : Int)) ∧ ∀ (s29 : ByteArray) (i31 : Int), (I186 s29 i31) → (s29.size ≤ maxLen) → (inR .i64 i31) → (((i31 < (r19.length : Int)) → (∃ k213 : ByteArray → Prop, (∀ (s211 : ByteArray), k213 s211 → (s211.size ≤ maxLen) → ((inL r19 i31) ∧ (((lget r19 i31).size ≤ maxLen) → (((s211 ++ (lget r19 i31)).size ≤ maxLen) ∧ (∃ k283 : Bool → Prop, (∀ (s282 : Bool), k283 s282 → (((s282 = true) → Q false) ∧ ((s282 = false) → ((inR .i64 (i31 + (1 : Int))) ∧ ((I186 (s211 ++ (lget r19 i31)) (i31 + (1 : Int))) ∧ m187 (s211 ++ (lget r19 i31)) (i31 + (1 : Int)) < m187 s29 i31))))) ∧ (rectoref1_Check_p p (fun (r294 : Int) => ((inR .i64 r294) → (((r294 = (0 : Int)) → ((inL r19 i31) ∧ (((lget r19 i31).size ≤ maxLen) → (path_Check_p (lget r19 i31) (fun (r311 : Int) => ((inR .i64 r311) → (((r311 = (0 : Int)) → ((inL r19 i31) ∧ (((lget r19 i31).size ≤ maxLen) → (path_Parts_p (lget r19 i31) (fun (r329 : (List ByteArray)) => ((r329.length ≤ 9223372036854775807) → (k283 (!decide ((r329.length : Int) = (1 : Int)))))))))) ∧ ((¬ (r311 = (0 : Int))) → (k283 true))))))))) ∧ ((¬ (r294 = (0 : Int))) → (k283 false))))))))))) ∧ (((i31 > (0 : Int)) → (((s29 ++ (ByteArray.mk #[47])).size ≤ maxLen) ∧ (k213 (s29 ++ (ByteArray.mk #[47]))))) ∧ ((¬ (i31 > (0 : Int))) → (k213 s29))))) ∧ ((¬ (i31 < (r19.length : Int))) → Q (decide ((s29 : ByteArray) = p)))))))))))))))
set_option maxRecDepth 20000 in
set_option maxHeartbeats 4000000 in
theorem rectolaw1_PathParts_w {X : List Nat} {w : World} {p : ByteArray} {Q : Bool → Prop} (hX0 : Old X w) (zp1 : p.size ≤ maxLen) (hp : rectolaw1_PathParts_p p Q) :
    Calls Tryd.prog 6 #[(.string p)] w (Ret fun v w' => ∃ (r0 : Bool), Q r0 ∧ Evo [] w w' ∧ v = (.bool r0)) := by
  have hXo := hX0
  have E0 : Evo [] w w := RB.refl _ _ _
  have hS : Sub X X := Sub.refl _
  unfold rectolaw1_PathParts_p at hp
  refine enter_ Tryd.func6 rfl 52 [(0, (.string p))] (by kernel_rfl) (fun Qe hQ => ?_)
  replace hp := hp zp1
  refine seq_ (fun _ K2 => ?_)
  refine reg_ ?_
  refine sq (o_pv (.bool false) rfl (by kernel_rfl) ?_)
  refine nil_ ?_
  refine then_normal (K2 _ _ _ _ ?_)
  refine seq_ (fun _ K3 => ?_)
  refine seq_ (fun _ K4 => ?_)
  refine reg_ ?_
  refine sq (o_call 13 #[] rfl (x_call Tryd.call13 (by kernel_rfl)) (rectolaw1_known_w (X := [])  (Old.nil _) hp) ?_)
  rintro _ w6 ⟨r5, hp, e7, rfl⟩
  have s8 := Step.of0 X e7
  refine sq (o_pv (.bool (!r5)) rfl (by kernel_rfl) ?_)
  refine nil_ ?_
  refine then_normal (K4 _ _ _ _ ?_)
  refine cond_b (!r5) (by kernel_rfl) (fun h9 => ?_) (fun h9 => ?_)
  ·
    replace hp := hp.1 h9
    refine seq_ (fun _ K10 => ?_)
    refine reg_ ?_
    refine sq (o_pv (.bool false) rfl (by kernel_rfl) ?_)
    refine nil_ ?_
    refine then_normal (K10 _ _ _ _ ?_)
    refine wp_ret ?_
    refine then_ret ?_
    have E11 := (Evo.then0 E0 e7)
    refine end_ret hQ (.bool false) (by kernel_rfl) ?_
    exact ⟨false, hp, E11, rfl⟩
  ·
    replace hp := hp.2 h9
    refine wp_skip ?_
    refine then_normal (K3 _ _ _ _ ?_)
    refine seq_ (fun _ K12 => ?_)
    refine seq_ (fun _ K13 => ?_)
    refine reg_ ?_
    refine sq (o_pv (.string p) rfl (by kernel_rfl) ?_)
    refine sq (o_pv (.int .i64 (p.size : Int)) rfl (by kernel_rfl) ?_)
    refine sq (o_pv (.bool (decide ((p.size : Int) > (200 : Int)))) rfl (by kernel_rfl) ?_)
    refine nil_ ?_
    refine then_normal (K13 _ _ _ _ ?_)
    refine cond_d ((p.size : Int) > (200 : Int)) (by kernel_rfl) (fun h14 => ?_) (fun h14 => ?_)
    ·
      replace hp := hp.1 h14
      refine seq_ (fun _ K15 => ?_)
      refine reg_ ?_
      refine sq (o_pv (.bool true) rfl (by kernel_rfl) ?_)
      refine nil_ ?_
      refine then_normal (K15 _ _ _ _ ?_)
      refine wp_ret ?_
      refine then_ret ?_
      have E16 := (Evo.then0 E0 e7)
      refine end_ret hQ (.bool true) (by kernel_rfl) ?_
      exact ⟨true, hp, E16, rfl⟩
    ·
      replace hp := hp.2 h14
      refine wp_skip ?_
      refine then_normal (K12 _ _ _ _ ?_)
      refine seq_ (fun _ K17 => ?_)
      refine reg_ ?_
      refine sq (o_pv (.string p) rfl (by kernel_rfl) ?_)
      have hXo18 := (Old.step hXo s8)
      refine sq (o_call 17 #[(.string p)] rfl (x_call Tryd.call17 (by kernel_rfl)) (path_Parts_w (X := X) (p := p) hXo18 zp1 hp) ?_)
      rintro _ w20 ⟨r19, hp, e21, ar23, cr24, rfl, hr25⟩
      have s22 := Step.of0 X e21
      replace hp := hp (Sl.len hr25)
      refine sq (o_pv (.slice ar23 r19.length cr24) rfl (by kernel_rfl) ?_)
      refine nil_ ?_
      refine then_normal (K17 _ _ _ _ ?_)
      refine seq_ (fun _ K26 => ?_)
      refine reg_ ?_
      refine sq (o_pv (.string (ByteArray.mk #[])) rfl (by kernel_rfl) ?_)
      refine nil_ ?_
      refine then_normal (K26 _ _ _ _ ?_)
      refine seq_ (fun _ K27 => ?_)
      refine seq_ (fun _ K28 => ?_)
      refine reg_ ?_
      refine sq (o_pv (.int .i64 (0 : Int)) rfl (by kernel_rfl) ?_)
      refine nil_ ?_
      refine then_normal (K28 _ _ _ _ ?_)
      refine wp_block ?_
      have hXo196 := (Old.step hXo18 s22)
      have E197 := (Evo.then0 (Evo.then0 E0 e7) e21)
      have hS198 := (Sub.trans (Sub.trans hS (Step.up s8)) (Step.up s22))
      obtain ⟨I186, m187, hI188, hp⟩ := hp
      refine loop_ 562949953413172 (fun kq lq w190 => ∃ (X191 : List Nat) (s29 : ByteArray) (i31 : Int), (lq = [(4, (.string s29)), (5, (.int .i64 i31))]) ∧ (kq = m187 s29 i31) ∧ (Evo [] w w190) ∧ (Old X191 w190) ∧ (Sub X X191) ∧ (Sl rStr X191 w190 ar23 cr24 r19) ∧ (s29.size ≤ maxLen) ∧ (inR .i64 i31) ∧ (I186 s29 i31)) (m187 (ByteArray.mk #[]) (0 : Int)) [(4, (.string (ByteArray.mk #[]))), (5, (.int .i64 (0 : Int)))] (vs_cons (by kernel_rfl) (vs_cons (by kernel_rfl) vs_nil)) ⟨X, (ByteArray.mk #[]), (0 : Int), rfl, rfl, E197, hXo196, hS198, hr25, (by decide), (by decide), hI188⟩ ?_
      rintro _ _ w190 g193 ⟨X191, s29, i31, rfl, rfl, E199, hXo200, hS201, hr202, zs30, ri32, hI189⟩ Kl194 hA195
      replace hp := hp s29 i31 hI189 zs30 ri32
      refine seq_ (fun _ K203 => ?_)
      refine seq_ (fun _ K204 => ?_)
      refine reg_ ?_
      refine sq (o_pv (.int .i64 i31) rfl (by kernel_rfl) ?_)
      refine sq (o_pv (.slice ar23 r19.length cr24) rfl (by kernel_rfl) ?_)
      refine sq (o_pv (.int .i64 (r19.length : Int)) rfl (by kernel_rfl) ?_)
      refine sq (o_pv (.bool (decide (i31 < (r19.length : Int)))) rfl (by kernel_rfl) ?_)
      refine nil_ ?_
      refine then_normal (K204 _ _ _ _ ?_)
      refine cond_d (i31 < (r19.length : Int)) (by kernel_rfl) (fun h205 => ?_) (fun h205 => ?_)
      ·
        replace hp := hp.1 h205
        refine wp_skip ?_
        refine then_normal (K203 _ _ _ _ ?_)
        refine seq_ (fun _ K206 => ?_)
        refine wp_block ?_
        refine seq_ (fun _ K207 => ?_)
        refine seq_ (fun _ K208 => ?_)
        refine reg_ ?_
        refine sq (o_pv (.int .i64 i31) rfl (by kernel_rfl) ?_)
        refine sq (o_pv (.bool (decide (i31 > (0 : Int)))) rfl (by kernel_rfl) ?_)
        refine nil_ ?_
        refine then_normal (K208 _ _ _ _ ?_)
        obtain ⟨k213, hk214, hp⟩ := hp
        refine ground_ ?_
        refine join_ 6291472 (fun lq w215 => ∃ (X216 : List Nat) (s211 : ByteArray), (lq = [(4, (.string s211))]) ∧ (Evo [] w w215) ∧ (Old X216 w215) ∧ (Sub X X216) ∧ (Sl rStr X216 w215 ar23 cr24 r19) ∧ (s211.size ≤ maxLen) ∧ (k213 s211)) (fun Kj217 hJ218 => ?_) ?_
        ·
          refine cond_d (i31 > (0 : Int)) (by kernel_rfl) (fun h224 => ?_) (fun h224 => ?_)
          ·
            replace hp := hp.1 h224
            refine reg_ ?_
            refine sq (o_pv (.string s29) rfl (by kernel_rfl) ?_)
            obtain ⟨h225, hp⟩ := hp
            refine sq (o_pv (.string (s29 ++ (ByteArray.mk #[47]))) rfl (x_cat (by kernel_rfl) (by kernel_rfl) h225) ?_)
            refine sq (o_pv (.string (s29 ++ (ByteArray.mk #[47]))) rfl (by kernel_rfl) ?_)
            refine nil_ ?_
            refine then_normal (hJ218 _ _ _ ⟨[(4, (.string (s29 ++ (ByteArray.mk #[47]))))], fit_mk (fun _ _ => rfl) (by kernel_rfl) (vs_cons (by kernel_rfl) vs_nil), ?_⟩)
            exact ⟨X191, (s29 ++ (ByteArray.mk #[47])), rfl, E199, hXo200, hS201, hr202, h225, hp⟩
          ·
            replace hp := hp.2 h224
            refine wp_skip ?_
            refine then_normal (hJ218 _ _ _ ⟨[(4, (.string s29))], fit_mk (fun _ _ => rfl) (by kernel_rfl) (vs_cons (by kernel_rfl) vs_nil), ?_⟩)
            exact ⟨X191, s29, rfl, E199, hXo200, hS201, hr202, zs30, hp⟩
        ·
          rintro _ w215 g226 ⟨X216, s211, rfl, E220, hXo221, hS222, hr223, zs212, hv219⟩
          replace hp := hk214 s211 hv219 zs212
          refine then_normal (K207 _ _ _ _ ?_)
          refine seq_ (fun _ K227 => ?_)
          refine reg_ ?_
          refine sq (o_pv (.string s211) rfl (by kernel_rfl) ?_)
          refine sq (o_pv (.slice ar23 r19.length cr24) rfl (by kernel_rfl) ?_)
          refine sq (o_pv (.int .i64 i31) rfl (by kernel_rfl) ?_)
          obtain ⟨h228, hp⟩ := hp
          obtain ⟨b229, o230, cs231, ha232, nx233, lt234, ok235, hc236⟩ := Sl.atI hr223 i31 h228
          obtain ⟨rfl, ze237⟩ := ok235
          replace hp := hp ze237
          refine sq (o_pv (.pointer (some ⟨b229, o230 + i31.toNat * 1, none⟩)) rfl (x_ixA (m := r19.length) (c := cr24) (k := .i64) (i := i31) Tryd.underlying27 Tryd.sizeOf9 (by rw [← ha232]; kernel_rfl) (by kernel_rfl) h228) ?_)
          refine sq (o_pv (.string (lget r19 i31)) rfl (x_load1 (by kernel_rfl) Tryd.isAgg9 (hc236 0 _ rfl)) ?_)
          obtain ⟨h238, hp⟩ := hp
          refine sq (o_pv (.string (s211 ++ (lget r19 i31))) rfl (x_cat (by kernel_rfl) (by kernel_rfl) h238) ?_)
          refine sq (o_pv (.string (s211 ++ (lget r19 i31))) rfl (by kernel_rfl) ?_)
          refine nil_ ?_
          refine then_normal (K227 _ _ _ _ ?_)
          refine seq_ (fun _ K239 => ?_)
          obtain ⟨k283, hk284, hp⟩ := hp
          refine ground_ ?_
          refine join_ 562949416550400 (fun lq w285 => ∃ (X286 : List Nat) (s282 : Bool), (lq = [(48, (.bool s282))]) ∧ (Evo [] w w285) ∧ (Old X286 w285) ∧ (Sub X X286) ∧ (Sl rStr X286 w285 ar23 cr24 r19) ∧ (k283 s282)) (fun Kj287 hJ288 => ?_) ?_
          ·
            refine reg_ ?_
            refine sq (o_pv (.string p) rfl (by kernel_rfl) ?_)
            refine sq (o_call 15 #[(.string p)] rfl (x_call Tryd.call15 (by kernel_rfl)) (rectoref1_Check_w (X := []) (p := p) (Old.nil _) zp1 hp) ?_)
            rintro _ w295 ⟨r294, hp, e296, rfl, rr298⟩
            have s297 := Step.of0 X216 e296
            replace hp := hp rr298
            by_cases h299 : r294 = (0 : Int)
            ·
              replace hp := hp.1 h299
              refine sq (o_pv (.bool true) rfl (x_dt (p := r294 = (0 : Int)) (by kernel_rfl) h299) ?_)
              refine sq (o_pv (.bool true) rfl (by kernel_rfl) ?_)
              refine sq (o_pv (.slice ar23 r19.length cr24) (by kernel_rfl) (by kernel_rfl) ?_)
              refine sq (o_pv (.int .i64 i31) (by kernel_rfl) (by kernel_rfl) ?_)
              obtain ⟨h300, hp⟩ := hp
              have hr301 := (Sl.step hr223 s297)
              obtain ⟨b302, o303, cs304, ha305, nx306, lt307, ok308, hc309⟩ := Sl.atI hr301 i31 h300
              obtain ⟨rfl, ze310⟩ := ok308
              replace hp := hp ze310
              refine sq (o_pv (.pointer (some ⟨b302, o303 + i31.toNat * 1, none⟩)) (by kernel_rfl) (x_ixA (m := r19.length) (c := cr24) (k := .i64) (i := i31) Tryd.underlying27 Tryd.sizeOf9 (by rw [← ha305]; kernel_rfl) (by kernel_rfl) h300) ?_)
              refine sq (o_pv (.string (lget r19 i31)) (by kernel_rfl) (x_load1 (by kernel_rfl) Tryd.isAgg9 (hc309 0 _ rfl)) ?_)
              refine sq (o_call 14 #[(.string (lget r19 i31))] (by kernel_rfl) (x_call Tryd.call14 (by kernel_rfl)) (path_Check_w (X := []) (p := lget r19 i31) (Old.nil _) ze310 hp) ?_)
              rintro _ w312 ⟨r311, hp, e313, rfl, rr315⟩
              have s314 := Step.of0 X216 e313
              replace hp := hp rr315
              by_cases h316 : r311 = (0 : Int)
              ·
                replace hp := hp.1 h316
                refine sq (o_pv (.bool false) (by kernel_rfl) (x_ndf (p := r311 = (0 : Int)) (by kernel_rfl) h316) ?_)
                refine sq (o_pv (.bool false) (by kernel_rfl) (by kernel_rfl) ?_)
                refine sq (o_pv (.slice ar23 r19.length cr24) (by kernel_rfl) (by kernel_rfl) ?_)
                refine sq (o_pv (.int .i64 i31) (by kernel_rfl) (by kernel_rfl) ?_)
                obtain ⟨h317, hp⟩ := hp
                have hr318 := (Sl.step hr301 s314)
                obtain ⟨b319, o320, cs321, ha322, nx323, lt324, ok325, hc326⟩ := Sl.atI hr318 i31 h317
                obtain ⟨rfl, ze327⟩ := ok325
                replace hp := hp ze327
                refine sq (o_pv (.pointer (some ⟨b319, o320 + i31.toNat * 1, none⟩)) (by kernel_rfl) (x_ixA (m := r19.length) (c := cr24) (k := .i64) (i := i31) Tryd.underlying27 Tryd.sizeOf9 (by rw [← ha322]; kernel_rfl) (by kernel_rfl) h317) ?_)
                refine sq (o_pv (.string (lget r19 i31)) (by kernel_rfl) (x_load1 (by kernel_rfl) Tryd.isAgg9 (hc326 0 _ rfl)) ?_)
                have hXo328 := (Old.step (Old.step hXo221 s297) s314)
                refine sq (o_call 17 #[(.string (lget r19 i31))] (by kernel_rfl) (x_call Tryd.call17 (by kernel_rfl)) (path_Parts_w (X := X216) (p := lget r19 i31) hXo328 ze327 hp) ?_)
                rintro _ w330 ⟨r329, hp, e331, ar333, cr334, rfl, hr335⟩
                have s332 := Step.of0 X216 e331
                replace hp := hp (Sl.len hr335)
                refine sq (o_pv (.int .i64 (r329.length : Int)) (by kernel_rfl) (by kernel_rfl) ?_)
                refine sq (o_pv (.bool (!decide ((r329.length : Int) = (1 : Int)))) (by kernel_rfl) (by kernel_rfl) ?_)
                refine sq (o_pv (.bool (!decide ((r329.length : Int) = (1 : Int)))) (by kernel_rfl) (by kernel_rfl) ?_)
                refine sq (o_pv (.bool (!decide ((r329.length : Int) = (1 : Int)))) rfl (by kernel_rfl) ?_)
                refine nil_ ?_
                have E336 := (Evo.then0 (Evo.then0 (Evo.then0 E220 e296) e313) e331)
                have hXo337 := (Old.step hXo328 s332)
                have hS338 := (Sub.trans (Sub.trans (Sub.trans hS222 (Step.up s297)) (Step.up s314)) (Step.up s332))
                have hr339 := (Sl.step hr318 s332)
                refine then_normal (hJ288 _ _ _ ⟨[(48, (.bool (!decide ((r329.length : Int) = (1 : Int)))))], fit_mk (fun _ _ => rfl) (by kernel_rfl) (vs_cons (by kernel_rfl) vs_nil), ?_⟩)
                exact ⟨X216, (!decide ((r329.length : Int) = (1 : Int))), rfl, E336, hXo337, hS338, hr339, hp⟩
              ·
                replace hp := hp.2 h316
                refine sq (o_pv (.bool true) (by kernel_rfl) (x_ndt (p := r311 = (0 : Int)) (by kernel_rfl) h316) ?_)
                refine sq (o_pv (.bool true) (by kernel_rfl) (by kernel_rfl) ?_)
                refine sq (o_not (by kernel_rfl) ?_)
                refine sq (o_not (by kernel_rfl) ?_)
                refine sq (o_not (by kernel_rfl) ?_)
                refine sq (o_not (by kernel_rfl) ?_)
                refine sq (o_not (by kernel_rfl) ?_)
                refine sq (o_not (by kernel_rfl) ?_)
                refine sq (o_not (by kernel_rfl) ?_)
                refine sq (o_pv (.bool true) (by kernel_rfl) (by kernel_rfl) ?_)
                refine sq (o_pv (.bool true) rfl (by kernel_rfl) ?_)
                refine nil_ ?_
                have E340 := (Evo.then0 (Evo.then0 E220 e296) e313)
                have hXo341 := (Old.step (Old.step hXo221 s297) s314)
                have hS342 := (Sub.trans (Sub.trans hS222 (Step.up s297)) (Step.up s314))
                have hr343 := (Sl.step hr301 s314)
                refine then_normal (hJ288 _ _ _ ⟨[(48, (.bool true))], fit_mk (fun _ _ => rfl) (by kernel_rfl) (vs_cons (by kernel_rfl) vs_nil), ?_⟩)
                exact ⟨X216, true, rfl, E340, hXo341, hS342, hr343, hp⟩
            ·
              replace hp := hp.2 h299
              refine sq (o_pv (.bool false) rfl (x_df (p := r294 = (0 : Int)) (by kernel_rfl) h299) ?_)
              refine sq (o_pv (.bool false) rfl (by kernel_rfl) ?_)
              refine sq (o_not (by kernel_rfl) ?_)
              refine sq (o_not (by kernel_rfl) ?_)
              refine sq (o_not (by kernel_rfl) ?_)
              refine sq (o_not (by kernel_rfl) ?_)
              refine sq (o_not (by kernel_rfl) ?_)
              refine sq (o_not (by kernel_rfl) ?_)
              refine sq (o_not (by kernel_rfl) ?_)
              refine sq (o_not (by kernel_rfl) ?_)
              refine sq (o_not (by kernel_rfl) ?_)
              refine sq (o_not (by kernel_rfl) ?_)
              refine sq (o_not (by kernel_rfl) ?_)
              refine sq (o_not (by kernel_rfl) ?_)
              refine sq (o_not (by kernel_rfl) ?_)
              refine sq (o_not (by kernel_rfl) ?_)
              refine sq (o_not (by kernel_rfl) ?_)
              refine sq (o_pv (.bool false) rfl (by kernel_rfl) ?_)
              refine nil_ ?_
              have E344 := (Evo.then0 E220 e296)
              have hXo345 := (Old.step hXo221 s297)
              have hS346 := (Sub.trans hS222 (Step.up s297))
              have hr347 := (Sl.step hr223 s297)
              refine then_normal (hJ288 _ _ _ ⟨[(48, (.bool false))], fit_mk (fun _ _ => rfl) (by kernel_rfl) (vs_cons (by kernel_rfl) vs_nil), ?_⟩)
              exact ⟨X216, false, rfl, E344, hXo345, hS346, hr347, hp⟩
          ·
            rintro _ w285 g348 ⟨X286, s282, rfl, E290, hXo291, hS292, hr293, hv289⟩
            replace hp := hk284 s282 hv289
            refine then_normal (K239 _ _ _ _ ?_)
            refine cond_b s282 (by kernel_rfl) (fun h349 => ?_) (fun h349 => ?_)
            ·
              replace hp := hp.1 h349
              refine seq_ (fun _ K350 => ?_)
              refine reg_ ?_
              refine sq (o_pv (.bool false) rfl (by kernel_rfl) ?_)
              refine nil_ ?_
              refine then_normal (K350 _ _ _ _ ?_)
              refine wp_ret ?_
              refine blk_ret ?_
              refine then_ret ?_
              refine then_ret ?_
              refine blk_ret ?_
              refine then_ret ?_
              refine end_ret hQ (.bool false) (by kernel_rfl) ?_
              exact ⟨false, hp, E290, rfl⟩
            ·
              replace hp := hp.2 h349
              refine wp_skip ?_
              refine blk_normal ?_
              refine then_normal (K206 _ _ _ _ ?_)
              refine reg_ ?_
              refine sq (o_pv (.int .i64 i31) rfl (by kernel_rfl) ?_)
              obtain ⟨h351, hp⟩ := hp
              refine sq (o_pv (.int .i64 (i31 + (1 : Int))) rfl (x_add2 (k := .i64) (a := i31) (b := (1 : Int)) (i31 + (1 : Int)) (by kernel_rfl) (by kernel_rfl) (wrap_inR h351)) ?_)
              refine sq (o_pv (.int .i64 (i31 + (1 : Int))) rfl (by kernel_rfl) ?_)
              refine nil_ ?_
              refine then_normal (hA195 _ _ _ ⟨_, [(4, (.string (s211 ++ (lget r19 i31)))), (5, (.int .i64 (i31 + (1 : Int))))], hp.2, fit_mk (AgB.nest (AgB.look (AgB.nest (AgB.look (AgB.mix _ _ _) (by kernel_rfl)) (by kernel_rfl) (by kernel_rfl)) (by kernel_rfl)) (by kernel_rfl) (by kernel_rfl)) (by kernel_rfl) (vs_cons (by kernel_rfl) (vs_cons (by kernel_rfl) vs_nil)), ?_⟩)
              exact ⟨X286, (s211 ++ (lget r19 i31)), (i31 + (1 : Int)), rfl, rfl, E290, hXo291, hS292, hr293, h238, h351, hp.1⟩
      ·
        replace hp := hp.2 h205
        refine wp_exit ?_
        refine then_exit ?_
        refine then_exit ?_
        refine blk_exit ?_
        refine then_normal (K27 _ _ _ _ ?_)
        refine seq_ (fun _ K352 => ?_)
        refine reg_ ?_
        refine sq (o_pv (.string s29) rfl (by kernel_rfl) ?_)
        refine sq (o_pv (.string p) rfl (by kernel_rfl) ?_)
        refine sq (o_pv (.bool (decide ((s29 : ByteArray) = p))) rfl (x_streq (by kernel_rfl) (by kernel_rfl)) ?_)
        refine sq (o_pv (.bool (decide ((s29 : ByteArray) = p))) rfl (by kernel_rfl) ?_)
        refine nil_ ?_
        refine then_normal (K352 _ _ _ _ ?_)
        refine wp_ret ?_
        refine end_ret hQ (.bool (decide ((s29 : ByteArray) = p))) (by kernel_rfl) ?_
        exact ⟨(decide ((s29 : ByteArray) = p)), hp, E199, rfl⟩

end Go.Proofs.YtcgfjmfbfildpaaRDoor
