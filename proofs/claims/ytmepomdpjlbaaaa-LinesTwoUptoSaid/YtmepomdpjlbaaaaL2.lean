/- Walks of functions: what each asks and computes, as a plain predicate, and the contract from it. -/
import Derived.Test.YtmepomdpjlbaaaaChecked
import Derived.Test.YtmepomdpjlbaaaaL1
namespace Go.Proofs.Ytmepomdpjlbaaaa
open Go


def rectolaw1_Texts_p (a : (List ByteArray)) (b : (List ByteArray)) (Q : Bool → Prop) : Prop :=
  ((a.length ≤ 9223372036854775807) → ((b.length ≤ 9223372036854775807) → (rectolaw1_texts_p a b (fun (r9 : Bool) => Q r9))))
set_option maxRecDepth 20000 in
set_option maxHeartbeats 4000000 in
theorem rectolaw1_Texts_w {X : List Nat} {w : World} {a : (List ByteArray)} {b : (List ByteArray)} {aa1 : Option Addr} {ca2 : Nat} {ab4 : Option Addr} {cb5 : Nat} {Q : Bool → Prop} (hX0 : Old X w) (ha3 : Sl rStr X w aa1 ca2 a) (hb6 : Sl rStr X w ab4 cb5 b) (hp : rectolaw1_Texts_p a b Q) :
    Calls Try.prog 60 #[(.slice aa1 a.length ca2), (.slice ab4 b.length cb5)] w (Ret fun v w' => ∃ (r0 : Bool), Q r0 ∧ Evo [] w w' ∧ v = (.bool r0)) := by
  have hXo := hX0
  have E0 : Evo [] w w := RB.refl _ _ _
  have hS : Sub X X := Sub.refl _
  unfold rectolaw1_Texts_p at hp
  refine enter_ Try.func60 rfl 8 [(0, (.slice aa1 a.length ca2)), (1, (.slice ab4 b.length cb5))] (by kernel_rfl) (fun Qe hQ => ?_)
  replace hp := hp (Sl.len ha3)
  replace hp := hp (Sl.len hb6)
  refine seq_ (fun _ K7 => ?_)
  refine reg_ ?_
  refine sq (o_pv (.bool false) rfl (by kernel_rfl) ?_)
  refine nil_ ?_
  refine then_normal (K7 _ _ _ _ ?_)
  refine seq_ (fun _ K8 => ?_)
  refine reg_ ?_
  refine sq (o_pv (.slice aa1 a.length ca2) rfl (by kernel_rfl) ?_)
  refine sq (o_pv (.slice ab4 b.length cb5) rfl (by kernel_rfl) ?_)
  refine sq (o_call 93 #[(.slice aa1 a.length ca2), (.slice ab4 b.length cb5)] rfl (x_call Try.call93 (by kernel_rfl)) (rectolaw1_texts_w (X := []) (a := a) (b := b) (Old.nil _) (Sl.less ha3 (Sub.nil _)) (Sl.less hb6 (Sub.nil _)) hp) ?_)
  rintro _ w10 ⟨r9, hp, e11, rfl⟩
  have s12 := Step.of0 X e11
  refine sq (o_pv (.bool r9) rfl (by kernel_rfl) ?_)
  refine nil_ ?_
  refine then_normal (K8 _ _ _ _ ?_)
  refine wp_ret ?_
  have E13 := (Evo.then0 E0 e11)
  refine end_ret hQ (.bool r9) (by kernel_rfl) ?_
  exact ⟨r9, hp, E13, rfl⟩

def rectolaw10_LinesAny_p (s : ByteArray) (Q : Bool → Prop) : Prop :=
  ((s.size ≤ maxLen) → (rectolaw10_known_p  (fun (r5 : Bool) => ((((!r5) = true) → Q false) ∧ (((!r5) = false) → ((((s.size : Int) > (1000 : Int)) → Q true) ∧ ((¬ ((s.size : Int) > (1000 : Int))) → (lines_Split_p s (fun (r19 : (List ByteArray)) => ((r19.length ≤ 9223372036854775807) → (∃ (I195 : Int → Prop) (m196 : Int → Nat), (I195 (0 : Int)) ∧ ∀ (i28 : Int), (I195 i28) → (inR .i64 i28) → (((i28 < (r19.length : Int)) → (∃ k283 : Bool → Prop, (∀ (s282 : Bool), k283 s282 → (((s282 = true) → Q false) ∧ ((s282 = false) → ((inR .i64 (i28 + (1 : Int))) ∧ ((I195 (i28 + (1 : Int))) ∧ m196 (i28 + (1 : Int)) < m196 i28))))) ∧ ((inL r19 i28) ∧ (((lget r19 i28).size ≤ maxLen) → ((((lget r19 i28 : ByteArray) = (ByteArray.mk #[])) → (k283 true)) ∧ ((¬ ((lget r19 i28 : ByteArray) = (ByteArray.mk #[]))) → ((inL r19 i28) ∧ (((lget r19 i28).size ≤ maxLen) → (lines_Whole_p (lget r19 i28) (fun (r315 : Bool) => (((r315 = true) → ((inL r19 i28) ∧ (((lget r19 i28).size ≤ maxLen) → (lines_Split_p (lget r19 i28) (fun (r360 : (List ByteArray)) => ((r360.length ≤ 9223372036854775807) → (k283 (!decide ((r360.length : Int) = (1 : Int)))))))))) ∧ ((r315 = false) → ((inR .i64 ((r19.length : Int) - (1 : Int))) ∧ (((i28 < ((r19.length : Int) - (1 : Int))) → (k283 true)) ∧ ((¬ (i28 < ((r19.length : Int) - (1 : Int)))) → ((inL r19 i28) ∧ (((lget r19 i28).size ≤ maxLen) → (lines_Split_p (lget r19 i28) (fun (r337 : (List ByteArray)) => ((r337.length ≤ 9223372036854775807) → (k283 (!decide ((r337.length : Int) = (1 : Int)))))))))))))))))))))))) ∧ ((¬ (i28 < (r19.length : Int))) → (∃ k403 : Bool → Prop, (∀ (s402 : Bool), k403 s402 → Q s402) ∧ (rectoref11_Split_p s (fun (r413 : (List ByteArray)) => ((r413.length ≤ 9223372036854775807) → (rectolaw1_Texts_p r19 r413 (fun (r421 : Bool) => (((r421 = true) → (lines_Join_p r19 (fun (r429 : ByteArray) => ((r429.size ≤ maxLen) → ((((r429 : ByteArray) = s) → (lines_Whole_p s (fun (r435 : Bool) => ((((s : ByteArray) = (ByteArray.mk #[])) → (k403 (decide ((r435 : Bool) = true)))) ∧ ((¬ ((s : ByteArray) = (ByteArray.mk #[]))) → ((inR .i64 ((s.size : Int) - (1 : Int))) ∧ ((0 ≤ ((s.size : Int) - (1 : Int)) ∧ ((s.size : Int) - (1 : Int)) < (s.size : Int)) ∧ (k403 (decide ((r435 : Bool) = (decide ((bget s ((s.size : Int) - (1 : Int))) = (10 : Int))))))))))))) ∧ ((¬ ((r429 : ByteArray) = s)) → (k403 false))))))) ∧ ((r421 = false) → (k403 false))))))))))))))))))))))
set_option maxRecDepth 20000 in
set_option maxHeartbeats 4000000 in
theorem rectolaw10_LinesAny_w {X : List Nat} {w : World} {s : ByteArray} {Q : Bool → Prop} (hX0 : Old X w) (zs1 : s.size ≤ maxLen) (hp : rectolaw10_LinesAny_p s Q) :
    Calls Try.prog 13 #[(.string s)] w (Ret fun v w' => ∃ (r0 : Bool), Q r0 ∧ Evo [] w w' ∧ v = (.bool r0)) := by
  have hXo := hX0
  have E0 : Evo [] w w := RB.refl _ _ _
  have hS : Sub X X := Sub.refl _
  unfold rectolaw10_LinesAny_p at hp
  refine enter_ Try.func13 rfl 72 [(0, (.string s))] (by kernel_rfl) (fun Qe hQ => ?_)
  replace hp := hp zs1
  refine seq_ (fun _ K2 => ?_)
  refine reg_ ?_
  refine sq (o_pv (.bool false) rfl (by kernel_rfl) ?_)
  refine nil_ ?_
  refine then_normal (K2 _ _ _ _ ?_)
  refine seq_ (fun _ K3 => ?_)
  refine seq_ (fun _ K4 => ?_)
  refine reg_ ?_
  refine sq (o_call 57 #[] rfl (x_call Try.call57 (by kernel_rfl)) (rectolaw10_known_w (X := [])  (Old.nil _) hp) ?_)
  rintro _ w6 ⟨r5, hp, e7, rfl⟩
  have s8 := Step.of0 X e7
  refine sq (o_pv (.bool (!r5)) rfl (by kernel_rfl) ?_)
  refine nil_ ?_
  refine then_normal (K4 _ _ _ _ ?_)
  refine cond_b (!r5) (by kernel_rfl) (fun h9 => ?_) (fun h9 => ?_)
  ·
    replace hp := hp.1 h9
    refine seq_ (fun _ K10 => ?_)
    refine reg_ ?_
    refine sq (o_pv (.bool false) rfl (by kernel_rfl) ?_)
    refine nil_ ?_
    refine then_normal (K10 _ _ _ _ ?_)
    refine wp_ret ?_
    refine then_ret ?_
    have E11 := (Evo.then0 E0 e7)
    refine end_ret hQ (.bool false) (by kernel_rfl) ?_
    exact ⟨false, hp, E11, rfl⟩
  ·
    replace hp := hp.2 h9
    refine wp_skip ?_
    refine then_normal (K3 _ _ _ _ ?_)
    refine seq_ (fun _ K12 => ?_)
    refine seq_ (fun _ K13 => ?_)
    refine reg_ ?_
    refine sq (o_pv (.string s) rfl (by kernel_rfl) ?_)
    refine sq (o_pv (.int .i64 (s.size : Int)) rfl (by kernel_rfl) ?_)
    refine sq (o_pv (.bool (decide ((s.size : Int) > (1000 : Int)))) rfl (by kernel_rfl) ?_)
    refine nil_ ?_
    refine then_normal (K13 _ _ _ _ ?_)
    refine cond_d ((s.size : Int) > (1000 : Int)) (by kernel_rfl) (fun h14 => ?_) (fun h14 => ?_)
    ·
      replace hp := hp.1 h14
      refine seq_ (fun _ K15 => ?_)
      refine reg_ ?_
      refine sq (o_pv (.bool true) rfl (by kernel_rfl) ?_)
      refine nil_ ?_
      refine then_normal (K15 _ _ _ _ ?_)
      refine wp_ret ?_
      refine then_ret ?_
      have E16 := (Evo.then0 E0 e7)
      refine end_ret hQ (.bool true) (by kernel_rfl) ?_
      exact ⟨true, hp, E16, rfl⟩
    ·
      replace hp := hp.2 h14
      refine wp_skip ?_
      refine then_normal (K12 _ _ _ _ ?_)
      refine seq_ (fun _ K17 => ?_)
      refine reg_ ?_
      refine sq (o_pv (.string s) rfl (by kernel_rfl) ?_)
      have hXo18 := (Old.step hXo s8)
      refine sq (o_call 58 #[(.string s)] rfl (x_call Try.call58 (by kernel_rfl)) (lines_Split_w (X := X) (s := s) hXo18 zs1 hp) ?_)
      rintro _ w20 ⟨r19, hp, e21, ar23, cr24, rfl, hr25⟩
      have s22 := Step.of0 X e21
      replace hp := hp (Sl.len hr25)
      refine sq (o_pv (.slice ar23 r19.length cr24) rfl (by kernel_rfl) ?_)
      refine nil_ ?_
      refine then_normal (K17 _ _ _ _ ?_)
      refine seq_ (fun _ K26 => ?_)
      refine seq_ (fun _ K27 => ?_)
      refine reg_ ?_
      refine sq (o_pv (.int .i64 (0 : Int)) rfl (by kernel_rfl) ?_)
      refine nil_ ?_
      refine then_normal (K27 _ _ _ _ ?_)
      refine wp_block ?_
      have hXo205 := (Old.step hXo18 s22)
      have E206 := (Evo.then0 (Evo.then0 E0 e7) e21)
      have hS207 := (Sub.trans (Sub.trans hS (Step.up s8)) (Step.up s22))
      obtain ⟨I195, m196, hI197, hp⟩ := hp
      refine loop_ 140737488351252 (fun kq lq w199 => ∃ (X200 : List Nat) (i28 : Int), (lq = [(4, (.int .i64 i28))]) ∧ (kq = m196 i28) ∧ (Evo [] w w199) ∧ (Old X200 w199) ∧ (Sub X X200) ∧ (Sl rStr X200 w199 ar23 cr24 r19) ∧ (inR .i64 i28) ∧ (I195 i28)) (m196 (0 : Int)) [(4, (.int .i64 (0 : Int)))] (vs_cons (by kernel_rfl) vs_nil) ⟨X, (0 : Int), rfl, rfl, E206, hXo205, hS207, hr25, (by decide), hI197⟩ ?_
      rintro _ _ w199 g202 ⟨X200, i28, rfl, rfl, E208, hXo209, hS210, hr211, ri29, hI198⟩ Kl203 hA204
      replace hp := hp i28 hI198 ri29
      refine seq_ (fun _ K212 => ?_)
      refine seq_ (fun _ K213 => ?_)
      refine reg_ ?_
      refine sq (o_pv (.int .i64 i28) rfl (by kernel_rfl) ?_)
      refine sq (o_pv (.slice ar23 r19.length cr24) rfl (by kernel_rfl) ?_)
      refine sq (o_pv (.int .i64 (r19.length : Int)) rfl (by kernel_rfl) ?_)
      refine sq (o_pv (.bool (decide (i28 < (r19.length : Int)))) rfl (by kernel_rfl) ?_)
      refine nil_ ?_
      refine then_normal (K213 _ _ _ _ ?_)
      refine cond_d (i28 < (r19.length : Int)) (by kernel_rfl) (fun h214 => ?_) (fun h214 => ?_)
      ·
        replace hp := hp.1 h214
        refine wp_skip ?_
        refine then_normal (K212 _ _ _ _ ?_)
        refine seq_ (fun _ K215 => ?_)
        refine wp_block ?_
        refine seq_ (fun _ K216 => ?_)
        obtain ⟨k283, hk284, hp⟩ := hp
        refine ground_ ?_
        refine join_ 140737488093184 (fun lq w285 => ∃ (X286 : List Nat) (s282 : Bool), (lq = [(46, (.bool s282))]) ∧ (Evo [] w w285) ∧ (Old X286 w285) ∧ (Sub X X286) ∧ (Sl rStr X286 w285 ar23 cr24 r19) ∧ (k283 s282)) (fun Kj287 hJ288 => ?_) ?_
        ·
          refine reg_ ?_
          refine sq (o_pv (.slice ar23 r19.length cr24) rfl (by kernel_rfl) ?_)
          refine sq (o_pv (.int .i64 i28) rfl (by kernel_rfl) ?_)
          obtain ⟨h294, hp⟩ := hp
          obtain ⟨b295, o296, cs297, ha298, nx299, lt300, ok301, hc302⟩ := Sl.atI hr211 i28 h294
          obtain ⟨rfl, ze303⟩ := ok301
          replace hp := hp ze303
          refine sq (o_pv (.pointer (some ⟨b295, o296 + i28.toNat * 1, none⟩)) rfl (x_ixA (m := r19.length) (c := cr24) (k := .i64) (i := i28) Try.underlying43 Try.sizeOf9 (by rw [← ha298]; kernel_rfl) (by kernel_rfl) h294) ?_)
          refine sq (o_pv (.string (lget r19 i28)) rfl (x_load1 (by kernel_rfl) Try.isAgg9 (hc302 0 _ rfl)) ?_)
          by_cases h304 : (lget r19 i28 : ByteArray) = (ByteArray.mk #[])
          ·
            replace hp := hp.1 h304
            refine sq (o_pv (.bool true) rfl (x_dt (p := (lget r19 i28 : ByteArray) = (ByteArray.mk #[])) (x_streq (by kernel_rfl) (by kernel_rfl)) h304) ?_)
            refine sq (o_pv (.bool true) rfl (by kernel_rfl) ?_)
            refine sq (o_not (by kernel_rfl) ?_)
            refine sq (o_not (by kernel_rfl) ?_)
            refine sq (o_not (by kernel_rfl) ?_)
            refine sq (o_not (by kernel_rfl) ?_)
            refine sq (o_not (by kernel_rfl) ?_)
            refine sq (o_not (by kernel_rfl) ?_)
            refine sq (o_not (by kernel_rfl) ?_)
            refine sq (o_not (by kernel_rfl) ?_)
            refine sq (o_not (by kernel_rfl) ?_)
            refine sq (o_not (by kernel_rfl) ?_)
            refine sq (o_not (by kernel_rfl) ?_)
            refine sq (o_not (by kernel_rfl) ?_)
            refine sq (o_not (by kernel_rfl) ?_)
            refine sq (o_pv (.bool true) rfl (by kernel_rfl) ?_)
            refine sq (o_pv (.bool true) rfl (by kernel_rfl) ?_)
            refine sq (o_not (by kernel_rfl) ?_)
            refine sq (o_not (by kernel_rfl) ?_)
            refine sq (o_not (by kernel_rfl) ?_)
            refine sq (o_not (by kernel_rfl) ?_)
            refine sq (o_not (by kernel_rfl) ?_)
            refine sq (o_not (by kernel_rfl) ?_)
            refine sq (o_not (by kernel_rfl) ?_)
            refine sq (o_pv (.bool true) rfl (by kernel_rfl) ?_)
            refine nil_ ?_
            refine then_normal (hJ288 _ _ _ ⟨[(46, (.bool true))], fit_mk (fun _ _ => rfl) (by kernel_rfl) (vs_cons (by kernel_rfl) vs_nil), ?_⟩)
            exact ⟨X200, true, rfl, E208, hXo209, hS210, hr211, hp⟩
          ·
            replace hp := hp.2 h304
            refine sq (o_pv (.bool false) rfl (x_df (p := (lget r19 i28 : ByteArray) = (ByteArray.mk #[])) (x_streq (by kernel_rfl) (by kernel_rfl)) h304) ?_)
            refine sq (o_pv (.bool false) rfl (by kernel_rfl) ?_)
            refine sq (o_pv (.slice ar23 r19.length cr24) (by kernel_rfl) (by kernel_rfl) ?_)
            refine sq (o_pv (.int .i64 i28) (by kernel_rfl) (by kernel_rfl) ?_)
            obtain ⟨h305, hp⟩ := hp
            obtain ⟨b306, o307, cs308, ha309, nx310, lt311, ok312, hc313⟩ := Sl.atI hr211 i28 h305
            obtain ⟨rfl, ze314⟩ := ok312
            replace hp := hp ze314
            refine sq (o_pv (.pointer (some ⟨b306, o307 + i28.toNat * 1, none⟩)) (by kernel_rfl) (x_ixA (m := r19.length) (c := cr24) (k := .i64) (i := i28) Try.underlying43 Try.sizeOf9 (by rw [← ha309]; kernel_rfl) (by kernel_rfl) h305) ?_)
            refine sq (o_pv (.string (lget r19 i28)) (by kernel_rfl) (x_load1 (by kernel_rfl) Try.isAgg9 (hc313 0 _ rfl)) ?_)
            refine sq (o_call 59 #[(.string (lget r19 i28))] (by kernel_rfl) (x_call Try.call59 (by kernel_rfl)) (lines_Whole_w (X := []) (s := lget r19 i28) (Old.nil _) ze314 hp) ?_)
            rintro _ w316 ⟨r315, hp, e317, rfl⟩
            have s318 := Step.of0 X200 e317
            cases r315
            ·
              replace hp := hp.2 rfl
              refine sq (o_pv (.bool true) (by kernel_rfl) (by kernel_rfl) ?_)
              refine sq (o_pv (.bool true) (by kernel_rfl) (by kernel_rfl) ?_)
              refine sq (o_pv (.int .i64 i28) (by kernel_rfl) (by kernel_rfl) ?_)
              refine sq (o_pv (.slice ar23 r19.length cr24) (by kernel_rfl) (by kernel_rfl) ?_)
              refine sq (o_pv (.int .i64 (r19.length : Int)) (by kernel_rfl) (by kernel_rfl) ?_)
              obtain ⟨h319, hp⟩ := hp
              refine sq (o_pv (.int .i64 ((r19.length : Int) - (1 : Int))) (by kernel_rfl) (x_sub2 (k := .i64) (a := (r19.length : Int)) (b := (1 : Int)) ((r19.length : Int) - (1 : Int)) (by kernel_rfl) (by kernel_rfl) (wrap_inR h319)) ?_)
              by_cases h320 : i28 < ((r19.length : Int) - (1 : Int))
              ·
                replace hp := hp.1 h320
                refine sq (o_pv (.bool true) (by kernel_rfl) (x_dt (p := i28 < ((r19.length : Int) - (1 : Int))) (by kernel_rfl) h320) ?_)
                refine sq (o_pv (.bool true) (by kernel_rfl) (by kernel_rfl) ?_)
                refine sq (o_pv (.bool true) rfl (by kernel_rfl) ?_)
                refine sq (o_pv (.bool true) rfl (by kernel_rfl) ?_)
                refine sq (o_not (by kernel_rfl) ?_)
                refine sq (o_not (by kernel_rfl) ?_)
                refine sq (o_not (by kernel_rfl) ?_)
                refine sq (o_not (by kernel_rfl) ?_)
                refine sq (o_not (by kernel_rfl) ?_)
                refine sq (o_not (by kernel_rfl) ?_)
                refine sq (o_not (by kernel_rfl) ?_)
                refine sq (o_pv (.bool true) rfl (by kernel_rfl) ?_)
                refine nil_ ?_
                have E321 := (Evo.then0 E208 e317)
                have hXo322 := (Old.step hXo209 s318)
                have hS323 := (Sub.trans hS210 (Step.up s318))
                have hr324 := (Sl.step hr211 s318)
                refine then_normal (hJ288 _ _ _ ⟨[(46, (.bool true))], fit_mk (fun _ _ => rfl) (by kernel_rfl) (vs_cons (by kernel_rfl) vs_nil), ?_⟩)
                exact ⟨X200, true, rfl, E321, hXo322, hS323, hr324, hp⟩
              ·
                replace hp := hp.2 h320
                refine sq (o_pv (.bool false) (by kernel_rfl) (x_df (p := i28 < ((r19.length : Int) - (1 : Int))) (by kernel_rfl) h320) ?_)
                refine sq (o_pv (.bool false) (by kernel_rfl) (by kernel_rfl) ?_)
                refine sq (o_pv (.bool false) rfl (by kernel_rfl) ?_)
                refine sq (o_pv (.bool false) rfl (by kernel_rfl) ?_)
                refine sq (o_pv (.slice ar23 r19.length cr24) (by kernel_rfl) (by kernel_rfl) ?_)
                refine sq (o_pv (.int .i64 i28) (by kernel_rfl) (by kernel_rfl) ?_)
                obtain ⟨h325, hp⟩ := hp
                have hr326 := (Sl.step hr211 s318)
                obtain ⟨b327, o328, cs329, ha330, nx331, lt332, ok333, hc334⟩ := Sl.atI hr326 i28 h325
                obtain ⟨rfl, ze335⟩ := ok333
                replace hp := hp ze335
                refine sq (o_pv (.pointer (some ⟨b327, o328 + i28.toNat * 1, none⟩)) (by kernel_rfl) (x_ixA (m := r19.length) (c := cr24) (k := .i64) (i := i28) Try.underlying43 Try.sizeOf9 (by rw [← ha330]; kernel_rfl) (by kernel_rfl) h325) ?_)
                refine sq (o_pv (.string (lget r19 i28)) (by kernel_rfl) (x_load1 (by kernel_rfl) Try.isAgg9 (hc334 0 _ rfl)) ?_)
                have hXo336 := (Old.step hXo209 s318)
                refine sq (o_call 58 #[(.string (lget r19 i28))] (by kernel_rfl) (x_call Try.call58 (by kernel_rfl)) (lines_Split_w (X := X200) (s := lget r19 i28) hXo336 ze335 hp) ?_)
                rintro _ w338 ⟨r337, hp, e339, ar341, cr342, rfl, hr343⟩
                have s340 := Step.of0 X200 e339
                replace hp := hp (Sl.len hr343)
                refine sq (o_pv (.int .i64 (r337.length : Int)) (by kernel_rfl) (by kernel_rfl) ?_)
                refine sq (o_pv (.bool (!decide ((r337.length : Int) = (1 : Int)))) (by kernel_rfl) (by kernel_rfl) ?_)
                refine sq (o_pv (.bool (!decide ((r337.length : Int) = (1 : Int)))) rfl (by kernel_rfl) ?_)
                refine nil_ ?_
                have E344 := (Evo.then0 (Evo.then0 E208 e317) e339)
                have hXo345 := (Old.step hXo336 s340)
                have hS346 := (Sub.trans (Sub.trans hS210 (Step.up s318)) (Step.up s340))
                have hr347 := (Sl.step hr326 s340)
                refine then_normal (hJ288 _ _ _ ⟨[(46, (.bool (!decide ((r337.length : Int) = (1 : Int)))))], fit_mk (fun _ _ => rfl) (by kernel_rfl) (vs_cons (by kernel_rfl) vs_nil), ?_⟩)
                exact ⟨X200, (!decide ((r337.length : Int) = (1 : Int))), rfl, E344, hXo345, hS346, hr347, hp⟩
            ·
              replace hp := hp.1 rfl
              refine sq (o_pv (.bool false) (by kernel_rfl) (by kernel_rfl) ?_)
              refine sq (o_pv (.bool false) (by kernel_rfl) (by kernel_rfl) ?_)
              refine sq (o_not (by kernel_rfl) ?_)
              refine sq (o_not (by kernel_rfl) ?_)
              refine sq (o_not (by kernel_rfl) ?_)
              refine sq (o_not (by kernel_rfl) ?_)
              refine sq (o_not (by kernel_rfl) ?_)
              refine sq (o_pv (.bool false) (by kernel_rfl) (by kernel_rfl) ?_)
              refine sq (o_pv (.bool false) rfl (by kernel_rfl) ?_)
              refine sq (o_pv (.bool false) rfl (by kernel_rfl) ?_)
              refine sq (o_pv (.slice ar23 r19.length cr24) (by kernel_rfl) (by kernel_rfl) ?_)
              refine sq (o_pv (.int .i64 i28) (by kernel_rfl) (by kernel_rfl) ?_)
              obtain ⟨h348, hp⟩ := hp
              have hr349 := (Sl.step hr211 s318)
              obtain ⟨b350, o351, cs352, ha353, nx354, lt355, ok356, hc357⟩ := Sl.atI hr349 i28 h348
              obtain ⟨rfl, ze358⟩ := ok356
              replace hp := hp ze358
              refine sq (o_pv (.pointer (some ⟨b350, o351 + i28.toNat * 1, none⟩)) (by kernel_rfl) (x_ixA (m := r19.length) (c := cr24) (k := .i64) (i := i28) Try.underlying43 Try.sizeOf9 (by rw [← ha353]; kernel_rfl) (by kernel_rfl) h348) ?_)
              refine sq (o_pv (.string (lget r19 i28)) (by kernel_rfl) (x_load1 (by kernel_rfl) Try.isAgg9 (hc357 0 _ rfl)) ?_)
              have hXo359 := (Old.step hXo209 s318)
              refine sq (o_call 58 #[(.string (lget r19 i28))] (by kernel_rfl) (x_call Try.call58 (by kernel_rfl)) (lines_Split_w (X := X200) (s := lget r19 i28) hXo359 ze358 hp) ?_)
              rintro _ w361 ⟨r360, hp, e362, ar364, cr365, rfl, hr366⟩
              have s363 := Step.of0 X200 e362
              replace hp := hp (Sl.len hr366)
              refine sq (o_pv (.int .i64 (r360.length : Int)) (by kernel_rfl) (by kernel_rfl) ?_)
              refine sq (o_pv (.bool (!decide ((r360.length : Int) = (1 : Int)))) (by kernel_rfl) (by kernel_rfl) ?_)
              refine sq (o_pv (.bool (!decide ((r360.length : Int) = (1 : Int)))) rfl (by kernel_rfl) ?_)
              refine nil_ ?_
              have E367 := (Evo.then0 (Evo.then0 E208 e317) e362)
              have hXo368 := (Old.step hXo359 s363)
              have hS369 := (Sub.trans (Sub.trans hS210 (Step.up s318)) (Step.up s363))
              have hr370 := (Sl.step hr349 s363)
              refine then_normal (hJ288 _ _ _ ⟨[(46, (.bool (!decide ((r360.length : Int) = (1 : Int)))))], fit_mk (fun _ _ => rfl) (by kernel_rfl) (vs_cons (by kernel_rfl) vs_nil), ?_⟩)
              exact ⟨X200, (!decide ((r360.length : Int) = (1 : Int))), rfl, E367, hXo368, hS369, hr370, hp⟩
        ·
          rintro _ w285 g371 ⟨X286, s282, rfl, E290, hXo291, hS292, hr293, hv289⟩
          replace hp := hk284 s282 hv289
          refine then_normal (K216 _ _ _ _ ?_)
          refine cond_b s282 (by kernel_rfl) (fun h372 => ?_) (fun h372 => ?_)
          ·
            replace hp := hp.1 h372
            refine seq_ (fun _ K373 => ?_)
            refine reg_ ?_
            refine sq (o_pv (.bool false) rfl (by kernel_rfl) ?_)
            refine nil_ ?_
            refine then_normal (K373 _ _ _ _ ?_)
            refine wp_ret ?_
            refine blk_ret ?_
            refine then_ret ?_
            refine then_ret ?_
            refine blk_ret ?_
            refine then_ret ?_
            refine end_ret hQ (.bool false) (by kernel_rfl) ?_
            exact ⟨false, hp, E290, rfl⟩
          ·
            replace hp := hp.2 h372
            refine wp_skip ?_
            refine blk_normal ?_
            refine then_normal (K215 _ _ _ _ ?_)
            refine reg_ ?_
            refine sq (o_pv (.int .i64 i28) rfl (by kernel_rfl) ?_)
            obtain ⟨h374, hp⟩ := hp
            refine sq (o_pv (.int .i64 (i28 + (1 : Int))) rfl (x_add2 (k := .i64) (a := i28) (b := (1 : Int)) (i28 + (1 : Int)) (by kernel_rfl) (by kernel_rfl) (wrap_inR h374)) ?_)
            refine sq (o_pv (.int .i64 (i28 + (1 : Int))) rfl (by kernel_rfl) ?_)
            refine nil_ ?_
            refine then_normal (hA204 _ _ _ ⟨_, [(4, (.int .i64 (i28 + (1 : Int))))], hp.2, fit_mk (AgB.nest (AgB.look (AgB.mix _ _ _) (by kernel_rfl)) (by kernel_rfl) (by kernel_rfl)) (by kernel_rfl) (vs_cons (by kernel_rfl) vs_nil), ?_⟩)
            exact ⟨X286, (i28 + (1 : Int)), rfl, rfl, E290, hXo291, hS292, hr293, h374, hp.1⟩
      ·
        replace hp := hp.2 h214
        refine wp_exit ?_
        refine then_exit ?_
        refine then_exit ?_
        refine blk_exit ?_
        refine then_normal (K26 _ _ _ _ ?_)
        refine seq_ (fun _ K375 => ?_)
        obtain ⟨k403, hk404, hp⟩ := hp
        refine ground_ ?_
        refine join_ 4722366342132156858372 (fun lq w405 => ∃ (X406 : List Nat) (s402 : Bool), (lq = [(2, (.bool s402))]) ∧ (Evo [] w w405) ∧ (Old X406 w405) ∧ (Sub X X406) ∧ (k403 s402)) (fun Kj407 hJ408 => ?_) ?_
        ·
          refine reg_ ?_
          refine sq (o_pv (.slice ar23 r19.length cr24) rfl (by kernel_rfl) ?_)
          refine sq (o_pv (.string s) rfl (by kernel_rfl) ?_)
          refine sq (o_call 61 #[(.string s)] rfl (x_call Try.call61 (by kernel_rfl)) (rectoref11_Split_w (X := X200) (s := s) hXo209 zs1 hp) ?_)
          rintro _ w414 ⟨r413, hp, e415, ar417, cr418, rfl, hr419⟩
          have s416 := Step.of0 X200 e415
          replace hp := hp (Sl.len hr419)
          have hr420 := (Sl.step hr211 s416)
          refine sq (o_call 60 #[(.slice ar23 r19.length cr24), (.slice ar417 r413.length cr418)] rfl (x_call Try.call60 (by kernel_rfl)) (rectolaw1_Texts_w (X := []) (a := r19) (b := r413) (Old.nil _) (Sl.less hr420 (Sub.nil _)) (Sl.less hr419 (Sub.nil _)) hp) ?_)
          rintro _ w422 ⟨r421, hp, e423, rfl⟩
          have s424 := Step.of0 X200 e423
          cases r421
          ·
            replace hp := hp.2 rfl
            refine sq (o_pv (.bool false) rfl (by kernel_rfl) ?_)
            refine sq (o_not (by kernel_rfl) ?_)
            refine sq (o_not (by kernel_rfl) ?_)
            refine sq (o_not (by kernel_rfl) ?_)
            refine sq (o_not (by kernel_rfl) ?_)
            refine sq (o_pv (.bool false) rfl (by kernel_rfl) ?_)
            refine sq (o_pv (.bool false) rfl (by kernel_rfl) ?_)
            refine sq (o_not (by kernel_rfl) ?_)
            refine sq (o_not (by kernel_rfl) ?_)
            refine sq (o_not (by kernel_rfl) ?_)
            refine sq (o_not (by kernel_rfl) ?_)
            refine sq (o_not (by kernel_rfl) ?_)
            refine sq (o_not (by kernel_rfl) ?_)
            refine sq (o_not (by kernel_rfl) ?_)
            refine sq (o_not (by kernel_rfl) ?_)
            refine sq (o_not (by kernel_rfl) ?_)
            refine sq (o_not (by kernel_rfl) ?_)
            refine sq (o_not (by kernel_rfl) ?_)
            refine sq (o_not (by kernel_rfl) ?_)
            refine sq (o_not (by kernel_rfl) ?_)
            refine sq (o_pv (.bool false) rfl (by kernel_rfl) ?_)
            refine sq (o_pv (.bool false) rfl (by kernel_rfl) ?_)
            refine nil_ ?_
            have E425 := (Evo.then0 (Evo.then0 E208 e415) e423)
            have hXo426 := (Old.step (Old.step hXo209 s416) s424)
            have hS427 := (Sub.trans (Sub.trans hS210 (Step.up s416)) (Step.up s424))
            refine then_normal (hJ408 _ _ _ ⟨[(2, (.bool false))], fit_mk (fun _ _ => rfl) (by kernel_rfl) (vs_cons (by kernel_rfl) vs_nil), ?_⟩)
            exact ⟨X200, false, rfl, E425, hXo426, hS427, hp⟩
          ·
            replace hp := hp.1 rfl
            refine sq (o_pv (.bool true) rfl (by kernel_rfl) ?_)
            refine sq (o_pv (.slice ar23 r19.length cr24) (by kernel_rfl) (by kernel_rfl) ?_)
            have hr428 := (Sl.step hr420 s424)
            refine sq (o_call 62 #[(.slice ar23 r19.length cr24)] (by kernel_rfl) (x_call Try.call62 (by kernel_rfl)) (lines_Join_w (X := []) (l := r19) (Old.nil _) (Sl.less hr428 (Sub.nil _)) hp) ?_)
            rintro _ w430 ⟨r429, hp, e431, rfl, zr433⟩
            have s432 := Step.of0 X200 e431
            replace hp := hp zr433
            refine sq (o_pv (.string s) (by kernel_rfl) (by kernel_rfl) ?_)
            by_cases h434 : (r429 : ByteArray) = s
            ·
              replace hp := hp.1 h434
              refine sq (o_pv (.bool true) (by kernel_rfl) (x_dt (p := (r429 : ByteArray) = s) (x_streq (by kernel_rfl) (by kernel_rfl)) h434) ?_)
              refine sq (o_pv (.bool true) rfl (by kernel_rfl) ?_)
              refine sq (o_pv (.bool true) rfl (by kernel_rfl) ?_)
              refine sq (o_pv (.string s) (by kernel_rfl) (by kernel_rfl) ?_)
              refine sq (o_call 59 #[(.string s)] (by kernel_rfl) (x_call Try.call59 (by kernel_rfl)) (lines_Whole_w (X := []) (s := s) (Old.nil _) zs1 hp) ?_)
              rintro _ w436 ⟨r435, hp, e437, rfl⟩
              have s438 := Step.of0 X200 e437
              refine sq (o_pv (.string s) (by kernel_rfl) (by kernel_rfl) ?_)
              by_cases h439 : (s : ByteArray) = (ByteArray.mk #[])
              ·
                replace hp := hp.1 h439
                refine sq (o_pv (.bool true) (by kernel_rfl) (x_dt (p := (s : ByteArray) = (ByteArray.mk #[])) (x_streq (by kernel_rfl) (by kernel_rfl)) h439) ?_)
                refine sq (o_pv (.bool true) (by kernel_rfl) (by kernel_rfl) ?_)
                refine sq (o_not (by kernel_rfl) ?_)
                refine sq (o_not (by kernel_rfl) ?_)
                refine sq (o_not (by kernel_rfl) ?_)
                refine sq (o_not (by kernel_rfl) ?_)
                refine sq (o_not (by kernel_rfl) ?_)
                refine sq (o_not (by kernel_rfl) ?_)
                refine sq (o_pv (.bool true) (by kernel_rfl) (by kernel_rfl) ?_)
                refine sq (o_pv (.bool (decide ((r435 : Bool) = true))) (by kernel_rfl) (x_booleq (a := r435) (b := true) Try.underlying4 (by kernel_rfl) (by kernel_rfl)) ?_)
                refine sq (o_pv (.bool (decide ((r435 : Bool) = true))) rfl (by kernel_rfl) ?_)
                refine sq (o_pv (.bool (decide ((r435 : Bool) = true))) rfl (by kernel_rfl) ?_)
                refine nil_ ?_
                have E440 := (Evo.then0 (Evo.then0 (Evo.then0 (Evo.then0 E208 e415) e423) e431) e437)
                have hXo441 := (Old.step (Old.step (Old.step (Old.step hXo209 s416) s424) s432) s438)
                have hS442 := (Sub.trans (Sub.trans (Sub.trans (Sub.trans hS210 (Step.up s416)) (Step.up s424)) (Step.up s432)) (Step.up s438))
                refine then_normal (hJ408 _ _ _ ⟨[(2, (.bool (decide ((r435 : Bool) = true))))], fit_mk (fun _ _ => rfl) (by kernel_rfl) (vs_cons (by kernel_rfl) vs_nil), ?_⟩)
                exact ⟨X200, (decide ((r435 : Bool) = true)), rfl, E440, hXo441, hS442, hp⟩
              ·
                replace hp := hp.2 h439
                refine sq (o_pv (.bool false) (by kernel_rfl) (x_df (p := (s : ByteArray) = (ByteArray.mk #[])) (x_streq (by kernel_rfl) (by kernel_rfl)) h439) ?_)
                refine sq (o_pv (.bool false) (by kernel_rfl) (by kernel_rfl) ?_)
                refine sq (o_pv (.string s) (by kernel_rfl) (by kernel_rfl) ?_)
                refine sq (o_pv (.string s) (by kernel_rfl) (by kernel_rfl) ?_)
                refine sq (o_pv (.int .i64 (s.size : Int)) (by kernel_rfl) (by kernel_rfl) ?_)
                obtain ⟨h443, hp⟩ := hp
                refine sq (o_pv (.int .i64 ((s.size : Int) - (1 : Int))) (by kernel_rfl) (x_sub2 (k := .i64) (a := (s.size : Int)) (b := (1 : Int)) ((s.size : Int) - (1 : Int)) (by kernel_rfl) (by kernel_rfl) (wrap_inR h443)) ?_)
                obtain ⟨h444, hp⟩ := hp
                refine sq (o_pv (.int .u8 (bget s ((s.size : Int) - (1 : Int)))) (by kernel_rfl) (x_bget (k := .i64) (by kernel_rfl) (by kernel_rfl) Try.underlying9 h444) ?_)
                refine sq (o_pv (.bool (decide ((bget s ((s.size : Int) - (1 : Int))) = (10 : Int)))) (by kernel_rfl) (by kernel_rfl) ?_)
                refine sq (o_pv (.bool (decide ((bget s ((s.size : Int) - (1 : Int))) = (10 : Int)))) (by kernel_rfl) (by kernel_rfl) ?_)
                refine sq (o_pv (.bool (decide ((r435 : Bool) = (decide ((bget s ((s.size : Int) - (1 : Int))) = (10 : Int)))))) (by kernel_rfl) (x_booleq (a := r435) (b := (decide ((bget s ((s.size : Int) - (1 : Int))) = (10 : Int)))) Try.underlying4 (by kernel_rfl) (by kernel_rfl)) ?_)
                refine sq (o_pv (.bool (decide ((r435 : Bool) = (decide ((bget s ((s.size : Int) - (1 : Int))) = (10 : Int)))))) rfl (by kernel_rfl) ?_)
                refine sq (o_pv (.bool (decide ((r435 : Bool) = (decide ((bget s ((s.size : Int) - (1 : Int))) = (10 : Int)))))) rfl (by kernel_rfl) ?_)
                refine nil_ ?_
                have E445 := (Evo.then0 (Evo.then0 (Evo.then0 (Evo.then0 E208 e415) e423) e431) e437)
                have hXo446 := (Old.step (Old.step (Old.step (Old.step hXo209 s416) s424) s432) s438)
                have hS447 := (Sub.trans (Sub.trans (Sub.trans (Sub.trans hS210 (Step.up s416)) (Step.up s424)) (Step.up s432)) (Step.up s438))
                refine then_normal (hJ408 _ _ _ ⟨[(2, (.bool (decide ((r435 : Bool) = (decide ((bget s ((s.size : Int) - (1 : Int))) = (10 : Int)))))))], fit_mk (fun _ _ => rfl) (by kernel_rfl) (vs_cons (by kernel_rfl) vs_nil), ?_⟩)
                exact ⟨X200, (decide ((r435 : Bool) = (decide ((bget s ((s.size : Int) - (1 : Int))) = (10 : Int))))), rfl, E445, hXo446, hS447, hp⟩
            ·
              replace hp := hp.2 h434
              refine sq (o_pv (.bool false) (by kernel_rfl) (x_df (p := (r429 : ByteArray) = s) (x_streq (by kernel_rfl) (by kernel_rfl)) h434) ?_)
              refine sq (o_pv (.bool false) rfl (by kernel_rfl) ?_)
              refine sq (o_pv (.bool false) rfl (by kernel_rfl) ?_)
              refine sq (o_not (by kernel_rfl) ?_)
              refine sq (o_not (by kernel_rfl) ?_)
              refine sq (o_not (by kernel_rfl) ?_)
              refine sq (o_not (by kernel_rfl) ?_)
              refine sq (o_not (by kernel_rfl) ?_)
              refine sq (o_not (by kernel_rfl) ?_)
              refine sq (o_not (by kernel_rfl) ?_)
              refine sq (o_not (by kernel_rfl) ?_)
              refine sq (o_not (by kernel_rfl) ?_)
              refine sq (o_not (by kernel_rfl) ?_)
              refine sq (o_not (by kernel_rfl) ?_)
              refine sq (o_not (by kernel_rfl) ?_)
              refine sq (o_not (by kernel_rfl) ?_)
              refine sq (o_pv (.bool false) rfl (by kernel_rfl) ?_)
              refine sq (o_pv (.bool false) rfl (by kernel_rfl) ?_)
              refine nil_ ?_
              have E448 := (Evo.then0 (Evo.then0 (Evo.then0 E208 e415) e423) e431)
              have hXo449 := (Old.step (Old.step (Old.step hXo209 s416) s424) s432)
              have hS450 := (Sub.trans (Sub.trans (Sub.trans hS210 (Step.up s416)) (Step.up s424)) (Step.up s432))
              refine then_normal (hJ408 _ _ _ ⟨[(2, (.bool false))], fit_mk (fun _ _ => rfl) (by kernel_rfl) (vs_cons (by kernel_rfl) vs_nil), ?_⟩)
              exact ⟨X200, false, rfl, E448, hXo449, hS450, hp⟩
        ·
          rintro _ w405 g451 ⟨X406, s402, rfl, E410, hXo411, hS412, hv409⟩
          replace hp := hk404 s402 hv409
          refine then_normal (K375 _ _ _ _ ?_)
          refine wp_ret ?_
          refine end_ret hQ (.bool s402) (by kernel_rfl) ?_
          exact ⟨s402, hp, E410, rfl⟩

def rectoref11_Equal_p (a : (List ByteArray)) (b : (List ByteArray)) (Q : Bool → Prop) : Prop :=
  ((a.length ≤ 9223372036854775807) → ((b.length ≤ 9223372036854775807) → (((¬ ((a.length : Int) = (b.length : Int))) → Q false) ∧ (((a.length : Int) = (b.length : Int)) → (∃ (I57 : Int → Prop) (m58 : Int → Nat), (I57 (0 : Int)) ∧ ∀ (i14 : Int), (I57 i14) → (inR .i64 i14) → (((i14 < (a.length : Int)) → ((inL a i14) ∧ (((lget a i14).size ≤ maxLen) → ((inL b i14) ∧ (((lget b i14).size ≤ maxLen) → (((¬ ((lget a i14 : ByteArray) = lget b i14)) → Q false) ∧ (((lget a i14 : ByteArray) = lget b i14) → ((inR .i64 (i14 + (1 : Int))) ∧ ((I57 (i14 + (1 : Int))) ∧ m58 (i14 + (1 : Int)) < m58 i14))))))))) ∧ ((¬ (i14 < (a.length : Int))) → Q true)))))))
set_option maxRecDepth 20000 in
set_option maxHeartbeats 4000000 in
theorem rectoref11_Equal_w {X : List Nat} {w : World} {a : (List ByteArray)} {b : (List ByteArray)} {aa1 : Option Addr} {ca2 : Nat} {ab4 : Option Addr} {cb5 : Nat} {Q : Bool → Prop} (hX0 : Old X w) (ha3 : Sl rStr X w aa1 ca2 a) (hb6 : Sl rStr X w ab4 cb5 b) (hp : rectoref11_Equal_p a b Q) :
    Calls Try.prog 29 #[(.slice aa1 a.length ca2), (.slice ab4 b.length cb5)] w (Ret fun v w' => ∃ (r0 : Bool), Q r0 ∧ Evo [] w w' ∧ v = (.bool r0)) := by
  have hXo := hX0
  have E0 : Evo [] w w := RB.refl _ _ _
  have hS : Sub X X := Sub.refl _
  unfold rectoref11_Equal_p at hp
  refine enter_ Try.func29 rfl 26 [(0, (.slice aa1 a.length ca2)), (1, (.slice ab4 b.length cb5))] (by kernel_rfl) (fun Qe hQ => ?_)
  replace hp := hp (Sl.len ha3)
  replace hp := hp (Sl.len hb6)
  refine seq_ (fun _ K7 => ?_)
  refine reg_ ?_
  refine sq (o_pv (.bool false) rfl (by kernel_rfl) ?_)
  refine nil_ ?_
  refine then_normal (K7 _ _ _ _ ?_)
  refine seq_ (fun _ K8 => ?_)
  refine seq_ (fun _ K9 => ?_)
  refine reg_ ?_
  refine sq (o_pv (.slice aa1 a.length ca2) rfl (by kernel_rfl) ?_)
  refine sq (o_pv (.int .i64 (a.length : Int)) rfl (by kernel_rfl) ?_)
  refine sq (o_pv (.slice ab4 b.length cb5) rfl (by kernel_rfl) ?_)
  refine sq (o_pv (.int .i64 (b.length : Int)) rfl (by kernel_rfl) ?_)
  refine sq (o_pv (.bool (!decide ((a.length : Int) = (b.length : Int)))) rfl (by kernel_rfl) ?_)
  refine nil_ ?_
  refine then_normal (K9 _ _ _ _ ?_)
  refine cond_nd ((a.length : Int) = (b.length : Int)) (by kernel_rfl) (fun h10 => ?_) (fun h10 => ?_)
  ·
    replace hp := hp.1 h10
    refine seq_ (fun _ K11 => ?_)
    refine reg_ ?_
    refine sq (o_pv (.bool false) rfl (by kernel_rfl) ?_)
    refine nil_ ?_
    refine then_normal (K11 _ _ _ _ ?_)
    refine wp_ret ?_
    refine then_ret ?_
    refine end_ret hQ (.bool false) (by kernel_rfl) ?_
    exact ⟨false, hp, E0, rfl⟩
  ·
    replace hp := hp.2 h10
    refine wp_skip ?_
    refine then_normal (K8 _ _ _ _ ?_)
    refine seq_ (fun _ K12 => ?_)
    refine seq_ (fun _ K13 => ?_)
    refine reg_ ?_
    refine sq (o_pv (.int .i64 (0 : Int)) rfl (by kernel_rfl) ?_)
    refine nil_ ?_
    refine then_normal (K13 _ _ _ _ ?_)
    refine wp_block ?_
    obtain ⟨I57, m58, hI59, hp⟩ := hp
    refine loop_ 67106864 (fun kq lq w61 => ∃ (X62 : List Nat) (i14 : Int), (lq = [(5, (.int .i64 i14))]) ∧ (kq = m58 i14) ∧ (Evo [] w w61) ∧ (Old X62 w61) ∧ (Sub X X62) ∧ (Sl rStr X62 w61 aa1 ca2 a) ∧ (Sl rStr X62 w61 ab4 cb5 b) ∧ (inR .i64 i14) ∧ (I57 i14)) (m58 (0 : Int)) [(5, (.int .i64 (0 : Int)))] (vs_cons (by kernel_rfl) vs_nil) ⟨X, (0 : Int), rfl, rfl, E0, hXo, hS, ha3, hb6, (by decide), hI59⟩ ?_
    rintro _ _ w61 g64 ⟨X62, i14, rfl, rfl, E67, hXo68, hS69, ha70, hb71, ri15, hI60⟩ Kl65 hA66
    replace hp := hp i14 hI60 ri15
    refine seq_ (fun _ K72 => ?_)
    refine seq_ (fun _ K73 => ?_)
    refine reg_ ?_
    refine sq (o_pv (.int .i64 i14) rfl (by kernel_rfl) ?_)
    refine sq (o_pv (.slice aa1 a.length ca2) rfl (by kernel_rfl) ?_)
    refine sq (o_pv (.int .i64 (a.length : Int)) rfl (by kernel_rfl) ?_)
    refine sq (o_pv (.bool (decide (i14 < (a.length : Int)))) rfl (by kernel_rfl) ?_)
    refine nil_ ?_
    refine then_normal (K73 _ _ _ _ ?_)
    refine cond_d (i14 < (a.length : Int)) (by kernel_rfl) (fun h74 => ?_) (fun h74 => ?_)
    ·
      replace hp := hp.1 h74
      refine wp_skip ?_
      refine then_normal (K72 _ _ _ _ ?_)
      refine seq_ (fun _ K75 => ?_)
      refine wp_block ?_
      refine seq_ (fun _ K76 => ?_)
      refine reg_drawn (RB w61.heap.size []) 9 (by kernel_rfl) (fun w77 hd78 => ?_)
      have e79 := Evo.of_drew hd78
      have z80 : w77.heap.size = w61.heap.size := by rw [hd78]
      clear hd78
      have s82 := Step.of0 X62 e79
      have er81 := RB.refl w61.heap.size [] w77
      have E83 := (Evo.then0 E67 (Step.evo s82))
      have hXo84 := (Old.step hXo68 s82)
      have hS85 := (Sub.trans hS69 (Step.up s82))
      have ha86 := (Sl.step ha70 s82)
      have hb87 := (Sl.step hb71 s82)
      refine r_take 0 (.slice aa1 a.length ca2) (RB.pre _ _) rfl (by kernel_rfl) (fun _ _ _ h => hQ.panic _ _ _ _ _ h) (.inl ⟨rfl, fun wq hq => (by kernel_rfl)⟩) ?_
      refine r_take 1 (.int .i64 i14) (RB.pre _ _) rfl (by kernel_rfl) (fun _ _ _ h => hQ.panic _ _ _ _ _ h) (.inl ⟨rfl, fun wq hq => (by kernel_rfl)⟩) ?_
      obtain ⟨h88, hp⟩ := hp
      obtain ⟨b89, o90, cs91, ha92, nx93, lt94, ok95, hc96⟩ := Sl.atI ha86 i14 h88
      obtain ⟨rfl, ze97⟩ := ok95
      replace hp := hp ze97
      refine r_take 2 (.pointer (some ⟨b89, o90 + i14.toNat * 1, none⟩)) (RB.pre _ _) rfl (by kernel_rfl) (fun _ _ _ h => hQ.panic _ _ _ _ _ h) (.inl ⟨rfl, fun wq hq => (x_ixA (m := a.length) (c := ca2) (k := .i64) (i := i14) Try.underlying43 Try.sizeOf9 (by rw [← ha92]; kernel_rfl) (by kernel_rfl) h88)⟩) ?_
      refine r_take 3 (.string (lget a i14)) (RB.pre _ _) rfl (by kernel_rfl) (fun _ _ _ h => hQ.panic _ _ _ _ _ h) (.inl ⟨rfl, fun wq hq => (x_load1 (by kernel_rfl) Try.isAgg9 ((CellsAt.rb hc96 (RB.trans er81 hq) (Nat.lt_of_lt_of_eq lt94 z80) (fun h => by cases h)) 0 _ rfl))⟩) ?_
      refine r_take 4 (.slice ab4 b.length cb5) (RB.pre _ _) rfl (by kernel_rfl) (fun _ _ _ h => hQ.panic _ _ _ _ _ h) (.inl ⟨rfl, fun wq hq => (by kernel_rfl)⟩) ?_
      refine r_take 5 (.int .i64 i14) (RB.pre _ _) rfl (by kernel_rfl) (fun _ _ _ h => hQ.panic _ _ _ _ _ h) (.inl ⟨rfl, fun wq hq => (by kernel_rfl)⟩) ?_
      obtain ⟨h98, hp⟩ := hp
      obtain ⟨b99, o100, cs101, ha102, nx103, lt104, ok105, hc106⟩ := Sl.atI hb87 i14 h98
      obtain ⟨rfl, ze107⟩ := ok105
      replace hp := hp ze107
      refine r_take 6 (.pointer (some ⟨b99, o100 + i14.toNat * 1, none⟩)) (RB.pre _ _) rfl (by kernel_rfl) (fun _ _ _ h => hQ.panic _ _ _ _ _ h) (.inl ⟨rfl, fun wq hq => (x_ixA (m := b.length) (c := cb5) (k := .i64) (i := i14) Try.underlying43 Try.sizeOf9 (by rw [← ha102]; kernel_rfl) (by kernel_rfl) h98)⟩) ?_
      refine r_take 7 (.string (lget b i14)) (RB.pre _ _) rfl (by kernel_rfl) (fun _ _ _ h => hQ.panic _ _ _ _ _ h) (.inl ⟨rfl, fun wq hq => (x_load1 (by kernel_rfl) Try.isAgg9 ((CellsAt.rb hc106 (RB.trans er81 hq) (Nat.lt_of_lt_of_eq lt104 z80) (fun h => by cases h)) 0 _ rfl))⟩) ?_
      refine r_take 8 (.bool (!decide ((lget a i14 : ByteArray) = lget b i14))) (RB.pre _ _) rfl (by kernel_rfl) (fun _ _ _ h => hQ.panic _ _ _ _ _ h) (.inl ⟨rfl, fun wq hq => (x_strne (by kernel_rfl) (by kernel_rfl))⟩) ?_
      refine r_done (by kernel_rfl) ?_
      refine then_normal (K76 _ _ _ _ ?_)
      refine cond_nd ((lget a i14 : ByteArray) = lget b i14) (by kernel_rfl) (fun h108 => ?_) (fun h108 => ?_)
      ·
        replace hp := hp.1 h108
        refine seq_ (fun _ K109 => ?_)
        refine reg_ ?_
        refine sq (o_pv (.bool false) rfl (by kernel_rfl) ?_)
        refine nil_ ?_
        refine then_normal (K109 _ _ _ _ ?_)
        refine wp_ret ?_
        refine blk_ret ?_
        refine then_ret ?_
        refine then_ret ?_
        refine blk_ret ?_
        refine then_ret ?_
        refine end_ret hQ (.bool false) (by kernel_rfl) ?_
        exact ⟨false, hp, E83, rfl⟩
      ·
        replace hp := hp.2 h108
        refine wp_skip ?_
        refine blk_normal ?_
        refine then_normal (K75 _ _ _ _ ?_)
        refine reg_ ?_
        refine sq (o_pv (.int .i64 i14) rfl (by kernel_rfl) ?_)
        obtain ⟨h110, hp⟩ := hp
        refine sq (o_pv (.int .i64 (i14 + (1 : Int))) rfl (x_add2 (k := .i64) (a := i14) (b := (1 : Int)) (i14 + (1 : Int)) (by kernel_rfl) (by kernel_rfl) (wrap_inR h110)) ?_)
        refine sq (o_pv (.int .i64 (i14 + (1 : Int))) rfl (by kernel_rfl) ?_)
        refine nil_ ?_
        refine then_normal (hA66 _ _ _ ⟨_, [(5, (.int .i64 (i14 + (1 : Int))))], hp.2, fit_mk (AgB.mix _ _ _) (by kernel_rfl) (vs_cons (by kernel_rfl) vs_nil), ?_⟩)
        exact ⟨X62, (i14 + (1 : Int)), rfl, rfl, E83, hXo84, hS85, ha86, hb87, h110, hp.1⟩
    ·
      replace hp := hp.2 h74
      refine wp_exit ?_
      refine then_exit ?_
      refine then_exit ?_
      refine blk_exit ?_
      refine then_normal (K12 _ _ _ _ ?_)
      refine seq_ (fun _ K111 => ?_)
      refine reg_ ?_
      refine sq (o_pv (.bool true) rfl (by kernel_rfl) ?_)
      refine nil_ ?_
      refine then_normal (K111 _ _ _ _ ?_)
      refine wp_ret ?_
      refine end_ret hQ (.bool true) (by kernel_rfl) ?_
      exact ⟨true, hp, E67, rfl⟩

def rectoref11_Join_p (l : (List ByteArray)) (Q : ByteArray → Prop) : Prop :=
  ((l.length ≤ 9223372036854775807) → (∃ (I32 : ByteArray → Int → Prop) (m33 : ByteArray → Int → Nat), (I32 (ByteArray.mk #[]) (0 : Int)) ∧ ∀ (s8 : ByteArray) (i10 : Int), (I32 s8 i10) → (s8.size ≤ maxLen) → (inR .i64 i10) → (((i10 < (l.length : Int)) → ((inL l i10) ∧ (((lget l i10).size ≤ maxLen) → (((s8 ++ (lget l i10)).size ≤ maxLen) ∧ ((inR .i64 (i10 + (1 : Int))) ∧ ((I32 (s8 ++ (lget l i10)) (i10 + (1 : Int))) ∧ m33 (s8 ++ (lget l i10)) (i10 + (1 : Int)) < m33 s8 i10)))))) ∧ ((¬ (i10 < (l.length : Int))) → Q s8))))
set_option maxRecDepth 20000 in
set_option maxHeartbeats 4000000 in
theorem rectoref11_Join_w {X : List Nat} {w : World} {l : (List ByteArray)} {al1 : Option Addr} {cl2 : Nat} {Q : ByteArray → Prop} (hX0 : Old X w) (hl3 : Sl rStr X w al1 cl2 l) (hp : rectoref11_Join_p l Q) :
    Calls Try.prog 66 #[(.slice al1 l.length cl2)] w (Ret fun v w' => ∃ (r0 : ByteArray), Q r0 ∧ Evo [] w w' ∧ v = (.string r0) ∧ r0.size ≤ maxLen) := by
  have hXo := hX0
  have E0 : Evo [] w w := RB.refl _ _ _
  have hS : Sub X X := Sub.refl _
  unfold rectoref11_Join_p at hp
  refine enter_ Try.func66 rfl 18 [(0, (.slice al1 l.length cl2))] (by kernel_rfl) (fun Qe hQ => ?_)
  replace hp := hp (Sl.len hl3)
  refine seq_ (fun _ K4 => ?_)
  refine reg_ ?_
  refine sq (o_pv (.string (ByteArray.mk #[])) rfl (by kernel_rfl) ?_)
  refine nil_ ?_
  refine then_normal (K4 _ _ _ _ ?_)
  refine seq_ (fun _ K5 => ?_)
  refine reg_ ?_
  refine sq (o_pv (.string (ByteArray.mk #[])) rfl (by kernel_rfl) ?_)
  refine nil_ ?_
  refine then_normal (K5 _ _ _ _ ?_)
  refine seq_ (fun _ K6 => ?_)
  refine seq_ (fun _ K7 => ?_)
  refine reg_ ?_
  refine sq (o_pv (.int .i64 (0 : Int)) rfl (by kernel_rfl) ?_)
  refine nil_ ?_
  refine then_normal (K7 _ _ _ _ ?_)
  refine wp_block ?_
  obtain ⟨I32, m33, hI34, hp⟩ := hp
  refine loop_ 131064 (fun kq lq w36 => ∃ (X37 : List Nat) (s8 : ByteArray) (i10 : Int), (lq = [(3, (.string s8)), (4, (.int .i64 i10))]) ∧ (kq = m33 s8 i10) ∧ (Evo [] w w36) ∧ (Old X37 w36) ∧ (Sub X X37) ∧ (Sl rStr X37 w36 al1 cl2 l) ∧ (s8.size ≤ maxLen) ∧ (inR .i64 i10) ∧ (I32 s8 i10)) (m33 (ByteArray.mk #[]) (0 : Int)) [(3, (.string (ByteArray.mk #[]))), (4, (.int .i64 (0 : Int)))] (vs_cons (by kernel_rfl) (vs_cons (by kernel_rfl) vs_nil)) ⟨X, (ByteArray.mk #[]), (0 : Int), rfl, rfl, E0, hXo, hS, hl3, (by decide), (by decide), hI34⟩ ?_
  rintro _ _ w36 g39 ⟨X37, s8, i10, rfl, rfl, E42, hXo43, hS44, hl45, zs9, ri11, hI35⟩ Kl40 hA41
  replace hp := hp s8 i10 hI35 zs9 ri11
  refine seq_ (fun _ K46 => ?_)
  refine seq_ (fun _ K47 => ?_)
  refine reg_ ?_
  refine sq (o_pv (.int .i64 i10) rfl (by kernel_rfl) ?_)
  refine sq (o_pv (.slice al1 l.length cl2) rfl (by kernel_rfl) ?_)
  refine sq (o_pv (.int .i64 (l.length : Int)) rfl (by kernel_rfl) ?_)
  refine sq (o_pv (.bool (decide (i10 < (l.length : Int)))) rfl (by kernel_rfl) ?_)
  refine nil_ ?_
  refine then_normal (K47 _ _ _ _ ?_)
  refine cond_d (i10 < (l.length : Int)) (by kernel_rfl) (fun h48 => ?_) (fun h48 => ?_)
  ·
    replace hp := hp.1 h48
    refine wp_skip ?_
    refine then_normal (K46 _ _ _ _ ?_)
    refine seq_ (fun _ K49 => ?_)
    refine wp_block ?_
    refine reg_ ?_
    refine sq (o_pv (.string s8) rfl (by kernel_rfl) ?_)
    refine sq (o_pv (.slice al1 l.length cl2) rfl (by kernel_rfl) ?_)
    refine sq (o_pv (.int .i64 i10) rfl (by kernel_rfl) ?_)
    obtain ⟨h50, hp⟩ := hp
    obtain ⟨b51, o52, cs53, ha54, nx55, lt56, ok57, hc58⟩ := Sl.atI hl45 i10 h50
    obtain ⟨rfl, ze59⟩ := ok57
    replace hp := hp ze59
    refine sq (o_pv (.pointer (some ⟨b51, o52 + i10.toNat * 1, none⟩)) rfl (x_ixA (m := l.length) (c := cl2) (k := .i64) (i := i10) Try.underlying43 Try.sizeOf9 (by rw [← ha54]; kernel_rfl) (by kernel_rfl) h50) ?_)
    refine sq (o_pv (.string (lget l i10)) rfl (x_load1 (by kernel_rfl) Try.isAgg9 (hc58 0 _ rfl)) ?_)
    obtain ⟨h60, hp⟩ := hp
    refine sq (o_pv (.string (s8 ++ (lget l i10))) rfl (x_cat (by kernel_rfl) (by kernel_rfl) h60) ?_)
    refine sq (o_pv (.string (s8 ++ (lget l i10))) rfl (by kernel_rfl) ?_)
    refine nil_ ?_
    refine blk_normal ?_
    refine then_normal (K49 _ _ _ _ ?_)
    refine reg_ ?_
    refine sq (o_pv (.int .i64 i10) rfl (by kernel_rfl) ?_)
    obtain ⟨h61, hp⟩ := hp
    refine sq (o_pv (.int .i64 (i10 + (1 : Int))) rfl (x_add2 (k := .i64) (a := i10) (b := (1 : Int)) (i10 + (1 : Int)) (by kernel_rfl) (by kernel_rfl) (wrap_inR h61)) ?_)
    refine sq (o_pv (.int .i64 (i10 + (1 : Int))) rfl (by kernel_rfl) ?_)
    refine nil_ ?_
    refine then_normal (hA41 _ _ _ ⟨_, [(3, (.string (s8 ++ (lget l i10)))), (4, (.int .i64 (i10 + (1 : Int))))], hp.2, fit_mk (AgB.mix _ _ _) (by kernel_rfl) (vs_cons (by kernel_rfl) (vs_cons (by kernel_rfl) vs_nil)), ?_⟩)
    exact ⟨X37, (s8 ++ (lget l i10)), (i10 + (1 : Int)), rfl, rfl, E42, hXo43, hS44, hl45, h60, h61, hp.1⟩
  ·
    replace hp := hp.2 h48
    refine wp_exit ?_
    refine then_exit ?_
    refine then_exit ?_
    refine blk_exit ?_
    refine then_normal (K6 _ _ _ _ ?_)
    refine seq_ (fun _ K62 => ?_)
    refine reg_ ?_
    refine sq (o_pv (.string s8) rfl (by kernel_rfl) ?_)
    refine sq (o_pv (.string s8) rfl (by kernel_rfl) ?_)
    refine nil_ ?_
    refine then_normal (K62 _ _ _ _ ?_)
    refine wp_ret ?_
    refine end_ret hQ (.string s8) (by kernel_rfl) ?_
    exact ⟨s8, hp, E42, rfl, zs9⟩

def rectolaw10_LinesTwo_p (a : (List ByteArray)) (b : (List ByteArray)) (Q : Bool → Prop) : Prop :=
  ((a.length ≤ 9223372036854775807) → ((b.length ≤ 9223372036854775807) → (rectolaw10_known_p  (fun (r10 : Bool) => ((((!r10) = true) → Q false) ∧ (((!r10) = false) → (((((a.length : Int) > (100 : Int)) ∨ ((b.length : Int) > (100 : Int))) → Q true) ∧ ((¬ (((a.length : Int) > (100 : Int)) ∨ ((b.length : Int) > (100 : Int)))) → (∃ (I118 : Int → Prop) (m119 : Int → Nat), (I118 (0 : Int)) ∧ ∀ (n_30 : Int), (I118 n_30) → (inR .i64 n_30) → (∃ k174 : Bool → Prop, (∀ (s173 : Bool), k174 s173 → (((s173 = true) → ((inR .i64 (n_30 + (1 : Int))) ∧ ((I118 (n_30 + (1 : Int))) ∧ m119 (n_30 + (1 : Int)) < m119 n_30))) ∧ ((s173 = false) → (∃ (I320 : Int → Prop) (m321 : Int → Nat), (I320 (0 : Int)) ∧ ∀ (m224 : Int), (I320 m224) → (inR .i64 m224) → (∃ k375 : Bool → Prop, (∀ (s374 : Bool), k375 s374 → (((s374 = true) → ((inR .i64 (m224 + (1 : Int))) ∧ ((I320 (m224 + (1 : Int))) ∧ m321 (m224 + (1 : Int)) < m321 m224))) ∧ ((s374 = false) → (∃ k468 : Bool → Prop, (∀ (s467 : Bool), k468 s467 → Q s467) ∧ (lines_Prefix_p a b (fun (r478 : Int) => ((inR .i64 r478) → (((r478 = n_30) → (lines_Suffix_p a b (fun (r486 : Int) => ((inR .i64 r486) → (((r486 = m224) → (lines_Equal_p a b (fun (r494 : Bool) => (rectoref11_Equal_p a b (fun (r500 : Bool) => ((((r494 : Bool) = r500) → (lines_Join_p a (fun (r506 : ByteArray) => ((r506.size ≤ maxLen) → (rectoref11_Join_p a (fun (r512 : ByteArray) => ((r512.size ≤ maxLen) → (k468 (decide ((r506 : ByteArray) = r512)))))))))) ∧ ((¬ ((r494 : Bool) = r500)) → (k468 false)))))))) ∧ ((¬ (r486 = m224)) → (k468 false))))))) ∧ ((¬ (r478 = n_30)) → (k468 false)))))))))) ∧ (((m224 < (a.length : Int)) → (((m224 < (b.length : Int)) → ((inR .i64 ((a.length : Int) - (1 : Int))) ∧ ((inR .i64 (((a.length : Int) - (1 : Int)) - m224)) ∧ ((inL a (((a.length : Int) - (1 : Int)) - m224)) ∧ (((lget a (((a.length : Int) - (1 : Int)) - m224)).size ≤ maxLen) → ((inR .i64 ((b.length : Int) - (1 : Int))) ∧ ((inR .i64 (((b.length : Int) - (1 : Int)) - m224)) ∧ ((inL b (((b.length : Int) - (1 : Int)) - m224)) ∧ (((lget b (((b.length : Int) - (1 : Int)) - m224)).size ≤ maxLen) → (k375 (decide ((lget a (((a.length : Int) - (1 : Int)) - m224) : ByteArray) = lget b (((b.length : Int) - (1 : Int)) - m224))))))))))))) ∧ ((¬ (m224 < (b.length : Int))) → (k375 false)))) ∧ ((¬ (m224 < (a.length : Int))) → (k375 false)))))))) ∧ (((n_30 < (a.length : Int)) → (((n_30 < (b.length : Int)) → ((inL a n_30) ∧ (((lget a n_30).size ≤ maxLen) → ((inL b n_30) ∧ (((lget b n_30).size ≤ maxLen) → (k174 (decide ((lget a n_30 : ByteArray) = lget b n_30)))))))) ∧ ((¬ (n_30 < (b.length : Int))) → (k174 false)))) ∧ ((¬ (n_30 < (a.length : Int))) → (k174 false)))))))))))))
set_option maxRecDepth 20000 in
set_option maxHeartbeats 4000000 in
theorem rectolaw10_LinesTwo_w {X : List Nat} {w : World} {a : (List ByteArray)} {b : (List ByteArray)} {aa1 : Option Addr} {ca2 : Nat} {ab4 : Option Addr} {cb5 : Nat} {Q : Bool → Prop} (hX0 : Old X w) (ha3 : Sl rStr X w aa1 ca2 a) (hb6 : Sl rStr X w ab4 cb5 b) (hp : rectolaw10_LinesTwo_p a b Q) :
    Calls Try.prog 14 #[(.slice aa1 a.length ca2), (.slice ab4 b.length cb5)] w (Ret fun v w' => ∃ (r0 : Bool), Q r0 ∧ Evo [] w w' ∧ v = (.bool r0)) := by
  have hXo := hX0
  have E0 : Evo [] w w := RB.refl _ _ _
  have hS : Sub X X := Sub.refl _
  unfold rectolaw10_LinesTwo_p at hp
  refine enter_ Try.func14 rfl 99 [(0, (.slice aa1 a.length ca2)), (1, (.slice ab4 b.length cb5))] (by kernel_rfl) (fun Qe hQ => ?_)
  replace hp := hp (Sl.len ha3)
  replace hp := hp (Sl.len hb6)
  refine seq_ (fun _ K7 => ?_)
  refine reg_ ?_
  refine sq (o_pv (.bool false) rfl (by kernel_rfl) ?_)
  refine nil_ ?_
  refine then_normal (K7 _ _ _ _ ?_)
  refine seq_ (fun _ K8 => ?_)
  refine seq_ (fun _ K9 => ?_)
  refine reg_ ?_
  refine sq (o_call 57 #[] rfl (x_call Try.call57 (by kernel_rfl)) (rectolaw10_known_w (X := [])  (Old.nil _) hp) ?_)
  rintro _ w11 ⟨r10, hp, e12, rfl⟩
  have s13 := Step.of0 X e12
  refine sq (o_pv (.bool (!r10)) rfl (by kernel_rfl) ?_)
  refine nil_ ?_
  refine then_normal (K9 _ _ _ _ ?_)
  refine cond_b (!r10) (by kernel_rfl) (fun h14 => ?_) (fun h14 => ?_)
  ·
    replace hp := hp.1 h14
    refine seq_ (fun _ K15 => ?_)
    refine reg_ ?_
    refine sq (o_pv (.bool false) rfl (by kernel_rfl) ?_)
    refine nil_ ?_
    refine then_normal (K15 _ _ _ _ ?_)
    refine wp_ret ?_
    refine then_ret ?_
    have E16 := (Evo.then0 E0 e12)
    refine end_ret hQ (.bool false) (by kernel_rfl) ?_
    exact ⟨false, hp, E16, rfl⟩
  ·
    replace hp := hp.2 h14
    refine wp_skip ?_
    refine then_normal (K8 _ _ _ _ ?_)
    refine seq_ (fun _ K17 => ?_)
    refine seq_ (fun _ K18 => ?_)
    refine ground_ ?_
    refine join_ 130560 (fun lq w22 => lq = [(16, (.bool (decide (((a.length : Int) > (100 : Int)) ∨ ((b.length : Int) > (100 : Int))))))] ∧ w11 = w22) (fun Kj20 hJ21 => ?_) ?_
    ·
      refine reg_ ?_
      refine sq (o_pv (.slice aa1 a.length ca2) rfl (by kernel_rfl) ?_)
      refine sq (o_pv (.int .i64 (a.length : Int)) rfl (by kernel_rfl) ?_)
      by_cases h24 : (a.length : Int) > (100 : Int)
      ·
        refine sq (o_pv (.bool true) rfl (x_dt (p := (a.length : Int) > (100 : Int)) (by kernel_rfl) h24) ?_)
        refine sq (o_pv (.bool true) rfl (by kernel_rfl) ?_)
        refine sq (o_not (by kernel_rfl) ?_)
        refine sq (o_not (by kernel_rfl) ?_)
        refine sq (o_not (by kernel_rfl) ?_)
        refine sq (o_pv (.bool true) rfl (by kernel_rfl) ?_)
        refine nil_ ?_
        refine then_normal (hJ21 _ _ _ ⟨[(16, (.bool (decide (((a.length : Int) > (100 : Int)) ∨ ((b.length : Int) > (100 : Int))))))], fit_mk (fun _ _ => rfl) (by kernel_rfl) (vs_cons (Eq.trans (b := (.bool true)) (by kernel_rfl) (dec_t (iff_true_intro (Or.inl h24))).symm) vs_nil), rfl, rfl⟩)
      ·
        refine sq (o_pv (.bool false) rfl (x_df (p := (a.length : Int) > (100 : Int)) (by kernel_rfl) h24) ?_)
        refine sq (o_pv (.bool false) rfl (by kernel_rfl) ?_)
        refine sq (o_pv (.slice ab4 b.length cb5) (by kernel_rfl) (by kernel_rfl) ?_)
        refine sq (o_pv (.int .i64 (b.length : Int)) (by kernel_rfl) (by kernel_rfl) ?_)
        refine sq (o_pv (.bool (decide ((b.length : Int) > (100 : Int)))) (by kernel_rfl) (by kernel_rfl) ?_)
        refine sq (o_pv (.bool (decide ((b.length : Int) > (100 : Int)))) rfl (by kernel_rfl) ?_)
        refine nil_ ?_
        refine then_normal (hJ21 _ _ _ ⟨[(16, (.bool (decide (((a.length : Int) > (100 : Int)) ∨ ((b.length : Int) > (100 : Int))))))], fit_mk (fun _ _ => rfl) (by kernel_rfl) (vs_cons (Eq.trans (b := (.bool (decide ((b.length : Int) > (100 : Int))))) (by kernel_rfl) (dec_d ((or_iff_right h24).trans Iff.rfl)).symm) vs_nil), rfl, rfl⟩)
    ·
      rintro _ w22 g23 ⟨rfl, hw⟩
      subst hw
      refine then_normal (K18 _ _ _ _ ?_)
      refine cond_d (((a.length : Int) > (100 : Int)) ∨ ((b.length : Int) > (100 : Int))) (by kernel_rfl) (fun h25 => ?_) (fun h25 => ?_)
      ·
        replace hp := hp.1 h25
        refine seq_ (fun _ K26 => ?_)
        refine reg_ ?_
        refine sq (o_pv (.bool true) rfl (by kernel_rfl) ?_)
        refine nil_ ?_
        refine then_normal (K26 _ _ _ _ ?_)
        refine wp_ret ?_
        refine then_ret ?_
        have E27 := (Evo.then0 E0 e12)
        refine end_ret hQ (.bool true) (by kernel_rfl) ?_
        exact ⟨true, hp, E27, rfl⟩
      ·
        replace hp := hp.2 h25
        refine wp_skip ?_
        refine then_normal (K17 _ _ _ _ ?_)
        refine seq_ (fun _ K28 => ?_)
        refine reg_ ?_
        refine sq (o_pv (.int .i64 (0 : Int)) rfl (by kernel_rfl) ?_)
        refine nil_ ?_
        refine then_normal (K28 _ _ _ _ ?_)
        refine seq_ (fun _ K29 => ?_)
        refine wp_block ?_
        have ha128 := (Sl.step ha3 s13)
        have hb129 := (Sl.step hb6 s13)
        have hXo130 := (Old.step hXo s13)
        have E131 := (Evo.then0 E0 e12)
        have hS132 := (Sub.trans hS (Step.up s13))
        obtain ⟨I118, m119, hI120, hp⟩ := hp
        refine loop_ 1099511496736 (fun kq lq w122 => ∃ (X123 : List Nat) (n_30 : Int), (lq = [(5, (.int .i64 n_30))]) ∧ (kq = m119 n_30) ∧ (Evo [] w w122) ∧ (Old X123 w122) ∧ (Sub X X123) ∧ (Sl rStr X123 w122 aa1 ca2 a) ∧ (Sl rStr X123 w122 ab4 cb5 b) ∧ (inR .i64 n_30) ∧ (I118 n_30)) (m119 (0 : Int)) [(5, (.int .i64 (0 : Int)))] (vs_cons (by kernel_rfl) vs_nil) ⟨X, (0 : Int), rfl, rfl, E131, hXo130, hS132, ha128, hb129, (by decide), hI120⟩ ?_
        rintro _ _ w122 g125 ⟨X123, n_30, rfl, rfl, E133, hXo134, hS135, ha136, hb137, rn_31, hI121⟩ Kl126 hA127
        replace hp := hp n_30 hI121 rn_31
        refine seq_ (fun _ K138 => ?_)
        refine seq_ (fun _ K139 => ?_)
        obtain ⟨k174, hk175, hp⟩ := hp
        refine ground_ ?_
        refine join_ 274877775872 (fun lq w176 => ∃ (X177 : List Nat) (s173 : Bool), (lq = [(37, (.bool s173))]) ∧ (Evo [] w w176) ∧ (Old X177 w176) ∧ (Sub X X177) ∧ (Sl rStr X177 w176 aa1 ca2 a) ∧ (Sl rStr X177 w176 ab4 cb5 b) ∧ (k174 s173)) (fun Kj178 hJ179 => ?_) ?_
        ·
          refine reg_drawn (RB w122.heap.size []) 21 (by kernel_rfl) (fun w186 hd187 => ?_)
          have e188 := Evo.of_drew hd187
          have z189 : w186.heap.size = w122.heap.size := by rw [hd187]
          clear hd187
          have s191 := Step.of0 X123 e188
          have er190 := RB.refl w122.heap.size [] w186
          have E192 := (Evo.then0 E133 (Step.evo s191))
          have hXo193 := (Old.step hXo134 s191)
          have hS194 := (Sub.trans hS135 (Step.up s191))
          have ha195 := (Sl.step ha136 s191)
          have hb196 := (Sl.step hb137 s191)
          refine r_take 0 (.int .i64 n_30) (RB.pre _ _) rfl (by kernel_rfl) (fun _ _ _ h => hQ.panic _ _ _ _ _ h) (.inl ⟨rfl, fun wq hq => (by kernel_rfl)⟩) ?_
          refine r_take 1 (.slice aa1 a.length ca2) (RB.pre _ _) rfl (by kernel_rfl) (fun _ _ _ h => hQ.panic _ _ _ _ _ h) (.inl ⟨rfl, fun wq hq => (by kernel_rfl)⟩) ?_
          refine r_take 2 (.int .i64 (a.length : Int)) (RB.pre _ _) rfl (by kernel_rfl) (fun _ _ _ h => hQ.panic _ _ _ _ _ h) (.inl ⟨rfl, fun wq hq => (by kernel_rfl)⟩) ?_
          by_cases h197 : n_30 < (a.length : Int)
          ·
            replace hp := hp.1 h197
            refine r_take 3 (.bool true) (RB.pre _ _) rfl (by kernel_rfl) (fun _ _ _ h => hQ.panic _ _ _ _ _ h) (.inl ⟨rfl, fun wq hq => (x_dt (p := n_30 < (a.length : Int)) (by kernel_rfl) h197)⟩) ?_
            refine r_take 4 (.bool true) (RB.pre _ _) rfl (by kernel_rfl) (fun _ _ _ h => hQ.panic _ _ _ _ _ h) (.inl ⟨rfl, fun wq hq => (by kernel_rfl)⟩) ?_
            refine r_take 5 (.int .i64 n_30) (RB.pre _ _) rfl (by kernel_rfl) (fun _ _ _ h => hQ.panic _ _ _ _ _ h) (.inl ⟨(by kernel_rfl), fun wq hq => (by kernel_rfl)⟩) ?_
            refine r_take 6 (.slice ab4 b.length cb5) (RB.pre _ _) rfl (by kernel_rfl) (fun _ _ _ h => hQ.panic _ _ _ _ _ h) (.inl ⟨(by kernel_rfl), fun wq hq => (by kernel_rfl)⟩) ?_
            refine r_take 7 (.int .i64 (b.length : Int)) (RB.pre _ _) rfl (by kernel_rfl) (fun _ _ _ h => hQ.panic _ _ _ _ _ h) (.inl ⟨(by kernel_rfl), fun wq hq => (by kernel_rfl)⟩) ?_
            by_cases h198 : n_30 < (b.length : Int)
            ·
              replace hp := hp.1 h198
              refine r_take 8 (.bool true) (RB.pre _ _) rfl (by kernel_rfl) (fun _ _ _ h => hQ.panic _ _ _ _ _ h) (.inl ⟨(by kernel_rfl), fun wq hq => (x_dt (p := n_30 < (b.length : Int)) (by kernel_rfl) h198)⟩) ?_
              refine r_take 9 (.bool true) (RB.pre _ _) rfl (by kernel_rfl) (fun _ _ _ h => hQ.panic _ _ _ _ _ h) (.inl ⟨rfl, fun wq hq => (by kernel_rfl)⟩) ?_
              refine r_take 10 (.bool true) (RB.pre _ _) rfl (by kernel_rfl) (fun _ _ _ h => hQ.panic _ _ _ _ _ h) (.inl ⟨rfl, fun wq hq => (by kernel_rfl)⟩) ?_
              refine r_take 11 (.slice aa1 a.length ca2) (RB.pre _ _) rfl (by kernel_rfl) (fun _ _ _ h => hQ.panic _ _ _ _ _ h) (.inl ⟨(by kernel_rfl), fun wq hq => (by kernel_rfl)⟩) ?_
              refine r_take 12 (.int .i64 n_30) (RB.pre _ _) rfl (by kernel_rfl) (fun _ _ _ h => hQ.panic _ _ _ _ _ h) (.inl ⟨(by kernel_rfl), fun wq hq => (by kernel_rfl)⟩) ?_
              obtain ⟨h199, hp⟩ := hp
              obtain ⟨b200, o201, cs202, ha203, nx204, lt205, ok206, hc207⟩ := Sl.atI ha195 n_30 h199
              obtain ⟨rfl, ze208⟩ := ok206
              replace hp := hp ze208
              refine r_take 13 (.pointer (some ⟨b200, o201 + n_30.toNat * 1, none⟩)) (RB.pre _ _) rfl (by kernel_rfl) (fun _ _ _ h => hQ.panic _ _ _ _ _ h) (.inl ⟨(by kernel_rfl), fun wq hq => (x_ixA (m := a.length) (c := ca2) (k := .i64) (i := n_30) Try.underlying43 Try.sizeOf9 (by rw [← ha203]; kernel_rfl) (by kernel_rfl) h199)⟩) ?_
              refine r_take 14 (.string (lget a n_30)) (RB.pre _ _) rfl (by kernel_rfl) (fun _ _ _ h => hQ.panic _ _ _ _ _ h) (.inl ⟨(by kernel_rfl), fun wq hq => (x_load1 (by kernel_rfl) Try.isAgg9 ((CellsAt.rb hc207 (RB.trans er190 hq) (Nat.lt_of_lt_of_eq lt205 z189) (fun h => by cases h)) 0 _ rfl))⟩) ?_
              refine r_take 15 (.slice ab4 b.length cb5) (RB.pre _ _) rfl (by kernel_rfl) (fun _ _ _ h => hQ.panic _ _ _ _ _ h) (.inl ⟨(by kernel_rfl), fun wq hq => (by kernel_rfl)⟩) ?_
              refine r_take 16 (.int .i64 n_30) (RB.pre _ _) rfl (by kernel_rfl) (fun _ _ _ h => hQ.panic _ _ _ _ _ h) (.inl ⟨(by kernel_rfl), fun wq hq => (by kernel_rfl)⟩) ?_
              obtain ⟨h209, hp⟩ := hp
              obtain ⟨b210, o211, cs212, ha213, nx214, lt215, ok216, hc217⟩ := Sl.atI hb196 n_30 h209
              obtain ⟨rfl, ze218⟩ := ok216
              replace hp := hp ze218
              refine r_take 17 (.pointer (some ⟨b210, o211 + n_30.toNat * 1, none⟩)) (RB.pre _ _) rfl (by kernel_rfl) (fun _ _ _ h => hQ.panic _ _ _ _ _ h) (.inl ⟨(by kernel_rfl), fun wq hq => (x_ixA (m := b.length) (c := cb5) (k := .i64) (i := n_30) Try.underlying43 Try.sizeOf9 (by rw [← ha213]; kernel_rfl) (by kernel_rfl) h209)⟩) ?_
              refine r_take 18 (.string (lget b n_30)) (RB.pre _ _) rfl (by kernel_rfl) (fun _ _ _ h => hQ.panic _ _ _ _ _ h) (.inl ⟨(by kernel_rfl), fun wq hq => (x_load1 (by kernel_rfl) Try.isAgg9 ((CellsAt.rb hc217 (RB.trans er190 hq) (Nat.lt_of_lt_of_eq lt215 z189) (fun h => by cases h)) 0 _ rfl))⟩) ?_
              refine r_take 19 (.bool (decide ((lget a n_30 : ByteArray) = lget b n_30))) (RB.pre _ _) rfl (by kernel_rfl) (fun _ _ _ h => hQ.panic _ _ _ _ _ h) (.inl ⟨(by kernel_rfl), fun wq hq => (x_streq (by kernel_rfl) (by kernel_rfl))⟩) ?_
              refine r_take 20 (.bool (decide ((lget a n_30 : ByteArray) = lget b n_30))) (RB.pre _ _) rfl (by kernel_rfl) (fun _ _ _ h => hQ.panic _ _ _ _ _ h) (.inl ⟨rfl, fun wq hq => (by kernel_rfl)⟩) ?_
              refine r_done (by kernel_rfl) ?_
              refine then_normal (hJ179 _ _ _ ⟨[(37, (.bool (decide ((lget a n_30 : ByteArray) = lget b n_30))))], fit_mk (fun _ _ => rfl) (by kernel_rfl) (vs_cons (by kernel_rfl) vs_nil), ?_⟩)
              exact ⟨X123, (decide ((lget a n_30 : ByteArray) = lget b n_30)), rfl, E192, hXo193, hS194, ha195, hb196, hp⟩
            ·
              replace hp := hp.2 h198
              refine r_take 8 (.bool false) (RB.pre _ _) rfl (by kernel_rfl) (fun _ _ _ h => hQ.panic _ _ _ _ _ h) (.inl ⟨(by kernel_rfl), fun wq hq => (x_df (p := n_30 < (b.length : Int)) (by kernel_rfl) h198)⟩) ?_
              refine r_take 9 (.bool false) (RB.pre _ _) rfl (by kernel_rfl) (fun _ _ _ h => hQ.panic _ _ _ _ _ h) (.inl ⟨rfl, fun wq hq => (by kernel_rfl)⟩) ?_
              refine r_take 10 (.bool false) (RB.pre _ _) rfl (by kernel_rfl) (fun _ _ _ h => hQ.panic _ _ _ _ _ h) (.inl ⟨rfl, fun wq hq => (by kernel_rfl)⟩) ?_
              refine r_take 11 undef (RB.pre _ _) rfl (by kernel_rfl) (fun _ _ _ h => hQ.panic _ _ _ _ _ h) (.inr ⟨by kernel_rfl, rfl⟩) ?_
              refine r_take 12 undef (RB.pre _ _) rfl (by kernel_rfl) (fun _ _ _ h => hQ.panic _ _ _ _ _ h) (.inr ⟨by kernel_rfl, rfl⟩) ?_
              refine r_take 13 undef (RB.pre _ _) rfl (by kernel_rfl) (fun _ _ _ h => hQ.panic _ _ _ _ _ h) (.inr ⟨by kernel_rfl, rfl⟩) ?_
              refine r_take 14 undef (RB.pre _ _) rfl (by kernel_rfl) (fun _ _ _ h => hQ.panic _ _ _ _ _ h) (.inr ⟨by kernel_rfl, rfl⟩) ?_
              refine r_take 15 undef (RB.pre _ _) rfl (by kernel_rfl) (fun _ _ _ h => hQ.panic _ _ _ _ _ h) (.inr ⟨by kernel_rfl, rfl⟩) ?_
              refine r_take 16 undef (RB.pre _ _) rfl (by kernel_rfl) (fun _ _ _ h => hQ.panic _ _ _ _ _ h) (.inr ⟨by kernel_rfl, rfl⟩) ?_
              refine r_take 17 undef (RB.pre _ _) rfl (by kernel_rfl) (fun _ _ _ h => hQ.panic _ _ _ _ _ h) (.inr ⟨by kernel_rfl, rfl⟩) ?_
              refine r_take 18 undef (RB.pre _ _) rfl (by kernel_rfl) (fun _ _ _ h => hQ.panic _ _ _ _ _ h) (.inr ⟨by kernel_rfl, rfl⟩) ?_
              refine r_take 19 undef (RB.pre _ _) rfl (by kernel_rfl) (fun _ _ _ h => hQ.panic _ _ _ _ _ h) (.inr ⟨by kernel_rfl, rfl⟩) ?_
              refine r_take 20 (.bool false) (RB.pre _ _) rfl (by kernel_rfl) (fun _ _ _ h => hQ.panic _ _ _ _ _ h) (.inl ⟨rfl, fun wq hq => (by kernel_rfl)⟩) ?_
              refine r_done (by kernel_rfl) ?_
              refine then_normal (hJ179 _ _ _ ⟨[(37, (.bool false))], fit_mk (fun _ _ => rfl) (by kernel_rfl) (vs_cons (by kernel_rfl) vs_nil), ?_⟩)
              exact ⟨X123, false, rfl, E192, hXo193, hS194, ha195, hb196, hp⟩
          ·
            replace hp := hp.2 h197
            refine r_take 3 (.bool false) (RB.pre _ _) rfl (by kernel_rfl) (fun _ _ _ h => hQ.panic _ _ _ _ _ h) (.inl ⟨rfl, fun wq hq => (x_df (p := n_30 < (a.length : Int)) (by kernel_rfl) h197)⟩) ?_
            refine r_take 4 (.bool false) (RB.pre _ _) rfl (by kernel_rfl) (fun _ _ _ h => hQ.panic _ _ _ _ _ h) (.inl ⟨rfl, fun wq hq => (by kernel_rfl)⟩) ?_
            refine r_take 5 undef (RB.pre _ _) rfl (by kernel_rfl) (fun _ _ _ h => hQ.panic _ _ _ _ _ h) (.inr ⟨by kernel_rfl, rfl⟩) ?_
            refine r_take 6 undef (RB.pre _ _) rfl (by kernel_rfl) (fun _ _ _ h => hQ.panic _ _ _ _ _ h) (.inr ⟨by kernel_rfl, rfl⟩) ?_
            refine r_take 7 undef (RB.pre _ _) rfl (by kernel_rfl) (fun _ _ _ h => hQ.panic _ _ _ _ _ h) (.inr ⟨by kernel_rfl, rfl⟩) ?_
            refine r_take 8 undef (RB.pre _ _) rfl (by kernel_rfl) (fun _ _ _ h => hQ.panic _ _ _ _ _ h) (.inr ⟨by kernel_rfl, rfl⟩) ?_
            refine r_take 9 (.bool false) (RB.pre _ _) rfl (by kernel_rfl) (fun _ _ _ h => hQ.panic _ _ _ _ _ h) (.inl ⟨rfl, fun wq hq => (by kernel_rfl)⟩) ?_
            refine r_take 10 (.bool false) (RB.pre _ _) rfl (by kernel_rfl) (fun _ _ _ h => hQ.panic _ _ _ _ _ h) (.inl ⟨rfl, fun wq hq => (by kernel_rfl)⟩) ?_
            refine r_take 11 undef (RB.pre _ _) rfl (by kernel_rfl) (fun _ _ _ h => hQ.panic _ _ _ _ _ h) (.inr ⟨by kernel_rfl, rfl⟩) ?_
            refine r_take 12 undef (RB.pre _ _) rfl (by kernel_rfl) (fun _ _ _ h => hQ.panic _ _ _ _ _ h) (.inr ⟨by kernel_rfl, rfl⟩) ?_
            refine r_take 13 undef (RB.pre _ _) rfl (by kernel_rfl) (fun _ _ _ h => hQ.panic _ _ _ _ _ h) (.inr ⟨by kernel_rfl, rfl⟩) ?_
            refine r_take 14 undef (RB.pre _ _) rfl (by kernel_rfl) (fun _ _ _ h => hQ.panic _ _ _ _ _ h) (.inr ⟨by kernel_rfl, rfl⟩) ?_
            refine r_take 15 undef (RB.pre _ _) rfl (by kernel_rfl) (fun _ _ _ h => hQ.panic _ _ _ _ _ h) (.inr ⟨by kernel_rfl, rfl⟩) ?_
            refine r_take 16 undef (RB.pre _ _) rfl (by kernel_rfl) (fun _ _ _ h => hQ.panic _ _ _ _ _ h) (.inr ⟨by kernel_rfl, rfl⟩) ?_
            refine r_take 17 undef (RB.pre _ _) rfl (by kernel_rfl) (fun _ _ _ h => hQ.panic _ _ _ _ _ h) (.inr ⟨by kernel_rfl, rfl⟩) ?_
            refine r_take 18 undef (RB.pre _ _) rfl (by kernel_rfl) (fun _ _ _ h => hQ.panic _ _ _ _ _ h) (.inr ⟨by kernel_rfl, rfl⟩) ?_
            refine r_take 19 undef (RB.pre _ _) rfl (by kernel_rfl) (fun _ _ _ h => hQ.panic _ _ _ _ _ h) (.inr ⟨by kernel_rfl, rfl⟩) ?_
            refine r_take 20 (.bool false) (RB.pre _ _) rfl (by kernel_rfl) (fun _ _ _ h => hQ.panic _ _ _ _ _ h) (.inl ⟨rfl, fun wq hq => (by kernel_rfl)⟩) ?_
            refine r_done (by kernel_rfl) ?_
            refine then_normal (hJ179 _ _ _ ⟨[(37, (.bool false))], fit_mk (fun _ _ => rfl) (by kernel_rfl) (vs_cons (by kernel_rfl) vs_nil), ?_⟩)
            exact ⟨X123, false, rfl, E192, hXo193, hS194, ha195, hb196, hp⟩
        ·
          rintro _ w176 g219 ⟨X177, s173, rfl, E181, hXo182, hS183, ha184, hb185, hv180⟩
          replace hp := hk175 s173 hv180
          refine then_normal (K139 _ _ _ _ ?_)
          refine cond_b s173 (by kernel_rfl) (fun h220 => ?_) (fun h220 => ?_)
          ·
            replace hp := hp.1 h220
            refine wp_skip ?_
            refine then_normal (K138 _ _ _ _ ?_)
            refine wp_block ?_
            refine reg_ ?_
            refine sq (o_pv (.int .i64 n_30) rfl (by kernel_rfl) ?_)
            obtain ⟨h221, hp⟩ := hp
            refine sq (o_pv (.int .i64 (n_30 + (1 : Int))) rfl (x_add2 (k := .i64) (a := n_30) (b := (1 : Int)) (n_30 + (1 : Int)) (by kernel_rfl) (by kernel_rfl) (wrap_inR h221)) ?_)
            refine sq (o_pv (.int .i64 (n_30 + (1 : Int))) rfl (by kernel_rfl) ?_)
            refine nil_ ?_
            refine blk_normal ?_
            refine then_normal (hA127 _ _ _ ⟨_, [(5, (.int .i64 (n_30 + (1 : Int))))], hp.2, fit_mk (AgB.nest (AgB.look (AgB.mix _ _ _) (by kernel_rfl)) (by kernel_rfl) (by kernel_rfl)) (by kernel_rfl) (vs_cons (by kernel_rfl) vs_nil), ?_⟩)
            exact ⟨X177, (n_30 + (1 : Int)), rfl, rfl, E181, hXo182, hS183, ha184, hb185, h221, hp.1⟩
          ·
            replace hp := hp.2 h220
            refine wp_exit ?_
            refine then_exit ?_
            refine then_exit ?_
            refine blk_exit ?_
            refine then_normal (K29 _ _ _ _ ?_)
            refine seq_ (fun _ K222 => ?_)
            refine reg_ ?_
            refine sq (o_pv (.int .i64 (0 : Int)) rfl (by kernel_rfl) ?_)
            refine nil_ ?_
            refine then_normal (K222 _ _ _ _ ?_)
            refine seq_ (fun _ K223 => ?_)
            refine wp_block ?_
            obtain ⟨I320, m321, hI322, hp⟩ := hp
            refine loop_ 2361183240335310979136 (fun kq lq w324 => ∃ (X325 : List Nat) (m224 : Int), (lq = [(6, (.int .i64 m224))]) ∧ (kq = m321 m224) ∧ (Evo [] w w324) ∧ (Old X325 w324) ∧ (Sub X X325) ∧ (Sl rStr X325 w324 aa1 ca2 a) ∧ (Sl rStr X325 w324 ab4 cb5 b) ∧ (inR .i64 m224) ∧ (I320 m224)) (m321 (0 : Int)) [(6, (.int .i64 (0 : Int)))] (vs_cons (by kernel_rfl) vs_nil) ⟨X177, (0 : Int), rfl, rfl, E181, hXo182, hS183, ha184, hb185, (by decide), hI322⟩ ?_
            rintro _ _ w324 g327 ⟨X325, m224, rfl, rfl, E330, hXo331, hS332, ha333, hb334, rm225, hI323⟩ Kl328 hA329
            replace hp := hp m224 hI323 rm225
            refine seq_ (fun _ K335 => ?_)
            refine seq_ (fun _ K336 => ?_)
            obtain ⟨k375, hk376, hp⟩ := hp
            refine ground_ ?_
            refine join_ 590295809259194023936 (fun lq w377 => ∃ (X378 : List Nat) (s374 : Bool), (lq = [(68, (.bool s374))]) ∧ (Evo [] w w377) ∧ (Old X378 w377) ∧ (Sub X X378) ∧ (Sl rStr X378 w377 aa1 ca2 a) ∧ (Sl rStr X378 w377 ab4 cb5 b) ∧ (k375 s374)) (fun Kj379 hJ380 => ?_) ?_
            ·
              refine reg_drawn (RB w324.heap.size []) 29 (by kernel_rfl) (fun w387 hd388 => ?_)
              have e389 := Evo.of_drew hd388
              have z390 : w387.heap.size = w324.heap.size := by rw [hd388]
              clear hd388
              have s392 := Step.of0 X325 e389
              have er391 := RB.refl w324.heap.size [] w387
              have E393 := (Evo.then0 E330 (Step.evo s392))
              have hXo394 := (Old.step hXo331 s392)
              have hS395 := (Sub.trans hS332 (Step.up s392))
              have ha396 := (Sl.step ha333 s392)
              have hb397 := (Sl.step hb334 s392)
              refine r_take 0 (.int .i64 m224) (RB.pre _ _) rfl (by kernel_rfl) (fun _ _ _ h => hQ.panic _ _ _ _ _ h) (.inl ⟨rfl, fun wq hq => (by kernel_rfl)⟩) ?_
              refine r_take 1 (.slice aa1 a.length ca2) (RB.pre _ _) rfl (by kernel_rfl) (fun _ _ _ h => hQ.panic _ _ _ _ _ h) (.inl ⟨rfl, fun wq hq => (by kernel_rfl)⟩) ?_
              refine r_take 2 (.int .i64 (a.length : Int)) (RB.pre _ _) rfl (by kernel_rfl) (fun _ _ _ h => hQ.panic _ _ _ _ _ h) (.inl ⟨rfl, fun wq hq => (by kernel_rfl)⟩) ?_
              by_cases h398 : m224 < (a.length : Int)
              ·
                replace hp := hp.1 h398
                refine r_take 3 (.bool true) (RB.pre _ _) rfl (by kernel_rfl) (fun _ _ _ h => hQ.panic _ _ _ _ _ h) (.inl ⟨rfl, fun wq hq => (x_dt (p := m224 < (a.length : Int)) (by kernel_rfl) h398)⟩) ?_
                refine r_take 4 (.bool true) (RB.pre _ _) rfl (by kernel_rfl) (fun _ _ _ h => hQ.panic _ _ _ _ _ h) (.inl ⟨rfl, fun wq hq => (by kernel_rfl)⟩) ?_
                refine r_take 5 (.int .i64 m224) (RB.pre _ _) rfl (by kernel_rfl) (fun _ _ _ h => hQ.panic _ _ _ _ _ h) (.inl ⟨(by kernel_rfl), fun wq hq => (by kernel_rfl)⟩) ?_
                refine r_take 6 (.slice ab4 b.length cb5) (RB.pre _ _) rfl (by kernel_rfl) (fun _ _ _ h => hQ.panic _ _ _ _ _ h) (.inl ⟨(by kernel_rfl), fun wq hq => (by kernel_rfl)⟩) ?_
                refine r_take 7 (.int .i64 (b.length : Int)) (RB.pre _ _) rfl (by kernel_rfl) (fun _ _ _ h => hQ.panic _ _ _ _ _ h) (.inl ⟨(by kernel_rfl), fun wq hq => (by kernel_rfl)⟩) ?_
                by_cases h399 : m224 < (b.length : Int)
                ·
                  replace hp := hp.1 h399
                  refine r_take 8 (.bool true) (RB.pre _ _) rfl (by kernel_rfl) (fun _ _ _ h => hQ.panic _ _ _ _ _ h) (.inl ⟨(by kernel_rfl), fun wq hq => (x_dt (p := m224 < (b.length : Int)) (by kernel_rfl) h399)⟩) ?_
                  refine r_take 9 (.bool true) (RB.pre _ _) rfl (by kernel_rfl) (fun _ _ _ h => hQ.panic _ _ _ _ _ h) (.inl ⟨rfl, fun wq hq => (by kernel_rfl)⟩) ?_
                  refine r_take 10 (.bool true) (RB.pre _ _) rfl (by kernel_rfl) (fun _ _ _ h => hQ.panic _ _ _ _ _ h) (.inl ⟨rfl, fun wq hq => (by kernel_rfl)⟩) ?_
                  refine r_take 11 (.slice aa1 a.length ca2) (RB.pre _ _) rfl (by kernel_rfl) (fun _ _ _ h => hQ.panic _ _ _ _ _ h) (.inl ⟨(by kernel_rfl), fun wq hq => (by kernel_rfl)⟩) ?_
                  refine r_take 12 (.slice aa1 a.length ca2) (RB.pre _ _) rfl (by kernel_rfl) (fun _ _ _ h => hQ.panic _ _ _ _ _ h) (.inl ⟨(by kernel_rfl), fun wq hq => (by kernel_rfl)⟩) ?_
                  refine r_take 13 (.int .i64 (a.length : Int)) (RB.pre _ _) rfl (by kernel_rfl) (fun _ _ _ h => hQ.panic _ _ _ _ _ h) (.inl ⟨(by kernel_rfl), fun wq hq => (by kernel_rfl)⟩) ?_
                  obtain ⟨h400, hp⟩ := hp
                  refine r_take 14 (.int .i64 ((a.length : Int) - (1 : Int))) (RB.pre _ _) rfl (by kernel_rfl) (fun _ _ _ h => hQ.panic _ _ _ _ _ h) (.inl ⟨(by kernel_rfl), fun wq hq => (x_sub2 (k := .i64) (a := (a.length : Int)) (b := (1 : Int)) ((a.length : Int) - (1 : Int)) (by kernel_rfl) (by kernel_rfl) (wrap_inR h400))⟩) ?_
                  refine r_take 15 (.int .i64 m224) (RB.pre _ _) rfl (by kernel_rfl) (fun _ _ _ h => hQ.panic _ _ _ _ _ h) (.inl ⟨(by kernel_rfl), fun wq hq => (by kernel_rfl)⟩) ?_
                  obtain ⟨h401, hp⟩ := hp
                  refine r_take 16 (.int .i64 (((a.length : Int) - (1 : Int)) - m224)) (RB.pre _ _) rfl (by kernel_rfl) (fun _ _ _ h => hQ.panic _ _ _ _ _ h) (.inl ⟨(by kernel_rfl), fun wq hq => (x_sub2 (k := .i64) (a := (a.length : Int) - (1 : Int)) (b := m224) (((a.length : Int) - (1 : Int)) - m224) (by kernel_rfl) (by kernel_rfl) (wrap_inR h401))⟩) ?_
                  obtain ⟨h402, hp⟩ := hp
                  obtain ⟨b403, o404, cs405, ha406, nx407, lt408, ok409, hc410⟩ := Sl.atI ha396 (((a.length : Int) - (1 : Int)) - m224) h402
                  obtain ⟨rfl, ze411⟩ := ok409
                  replace hp := hp ze411
                  refine r_take 17 (.pointer (some ⟨b403, o404 + (((a.length : Int) - (1 : Int)) - m224).toNat * 1, none⟩)) (RB.pre _ _) rfl (by kernel_rfl) (fun _ _ _ h => hQ.panic _ _ _ _ _ h) (.inl ⟨(by kernel_rfl), fun wq hq => (x_ixA (m := a.length) (c := ca2) (k := .i64) (i := ((a.length : Int) - (1 : Int)) - m224) Try.underlying43 Try.sizeOf9 (by rw [← ha406]; kernel_rfl) (by kernel_rfl) h402)⟩) ?_
                  refine r_take 18 (.string (lget a (((a.length : Int) - (1 : Int)) - m224))) (RB.pre _ _) rfl (by kernel_rfl) (fun _ _ _ h => hQ.panic _ _ _ _ _ h) (.inl ⟨(by kernel_rfl), fun wq hq => (x_load1 (by kernel_rfl) Try.isAgg9 ((CellsAt.rb hc410 (RB.trans er391 hq) (Nat.lt_of_lt_of_eq lt408 z390) (fun h => by cases h)) 0 _ rfl))⟩) ?_
                  refine r_take 19 (.slice ab4 b.length cb5) (RB.pre _ _) rfl (by kernel_rfl) (fun _ _ _ h => hQ.panic _ _ _ _ _ h) (.inl ⟨(by kernel_rfl), fun wq hq => (by kernel_rfl)⟩) ?_
                  refine r_take 20 (.slice ab4 b.length cb5) (RB.pre _ _) rfl (by kernel_rfl) (fun _ _ _ h => hQ.panic _ _ _ _ _ h) (.inl ⟨(by kernel_rfl), fun wq hq => (by kernel_rfl)⟩) ?_
                  refine r_take 21 (.int .i64 (b.length : Int)) (RB.pre _ _) rfl (by kernel_rfl) (fun _ _ _ h => hQ.panic _ _ _ _ _ h) (.inl ⟨(by kernel_rfl), fun wq hq => (by kernel_rfl)⟩) ?_
                  obtain ⟨h412, hp⟩ := hp
                  refine r_take 22 (.int .i64 ((b.length : Int) - (1 : Int))) (RB.pre _ _) rfl (by kernel_rfl) (fun _ _ _ h => hQ.panic _ _ _ _ _ h) (.inl ⟨(by kernel_rfl), fun wq hq => (x_sub2 (k := .i64) (a := (b.length : Int)) (b := (1 : Int)) ((b.length : Int) - (1 : Int)) (by kernel_rfl) (by kernel_rfl) (wrap_inR h412))⟩) ?_
                  refine r_take 23 (.int .i64 m224) (RB.pre _ _) rfl (by kernel_rfl) (fun _ _ _ h => hQ.panic _ _ _ _ _ h) (.inl ⟨(by kernel_rfl), fun wq hq => (by kernel_rfl)⟩) ?_
                  obtain ⟨h413, hp⟩ := hp
                  refine r_take 24 (.int .i64 (((b.length : Int) - (1 : Int)) - m224)) (RB.pre _ _) rfl (by kernel_rfl) (fun _ _ _ h => hQ.panic _ _ _ _ _ h) (.inl ⟨(by kernel_rfl), fun wq hq => (x_sub2 (k := .i64) (a := (b.length : Int) - (1 : Int)) (b := m224) (((b.length : Int) - (1 : Int)) - m224) (by kernel_rfl) (by kernel_rfl) (wrap_inR h413))⟩) ?_
                  obtain ⟨h414, hp⟩ := hp
                  obtain ⟨b415, o416, cs417, ha418, nx419, lt420, ok421, hc422⟩ := Sl.atI hb397 (((b.length : Int) - (1 : Int)) - m224) h414
                  obtain ⟨rfl, ze423⟩ := ok421
                  replace hp := hp ze423
                  refine r_take 25 (.pointer (some ⟨b415, o416 + (((b.length : Int) - (1 : Int)) - m224).toNat * 1, none⟩)) (RB.pre _ _) rfl (by kernel_rfl) (fun _ _ _ h => hQ.panic _ _ _ _ _ h) (.inl ⟨(by kernel_rfl), fun wq hq => (x_ixA (m := b.length) (c := cb5) (k := .i64) (i := ((b.length : Int) - (1 : Int)) - m224) Try.underlying43 Try.sizeOf9 (by rw [← ha418]; kernel_rfl) (by kernel_rfl) h414)⟩) ?_
                  refine r_take 26 (.string (lget b (((b.length : Int) - (1 : Int)) - m224))) (RB.pre _ _) rfl (by kernel_rfl) (fun _ _ _ h => hQ.panic _ _ _ _ _ h) (.inl ⟨(by kernel_rfl), fun wq hq => (x_load1 (by kernel_rfl) Try.isAgg9 ((CellsAt.rb hc422 (RB.trans er391 hq) (Nat.lt_of_lt_of_eq lt420 z390) (fun h => by cases h)) 0 _ rfl))⟩) ?_
                  refine r_take 27 (.bool (decide ((lget a (((a.length : Int) - (1 : Int)) - m224) : ByteArray) = lget b (((b.length : Int) - (1 : Int)) - m224)))) (RB.pre _ _) rfl (by kernel_rfl) (fun _ _ _ h => hQ.panic _ _ _ _ _ h) (.inl ⟨(by kernel_rfl), fun wq hq => (x_streq (by kernel_rfl) (by kernel_rfl))⟩) ?_
                  refine r_take 28 (.bool (decide ((lget a (((a.length : Int) - (1 : Int)) - m224) : ByteArray) = lget b (((b.length : Int) - (1 : Int)) - m224)))) (RB.pre _ _) rfl (by kernel_rfl) (fun _ _ _ h => hQ.panic _ _ _ _ _ h) (.inl ⟨rfl, fun wq hq => (by kernel_rfl)⟩) ?_
                  refine r_done (by kernel_rfl) ?_
                  refine then_normal (hJ380 _ _ _ ⟨[(68, (.bool (decide ((lget a (((a.length : Int) - (1 : Int)) - m224) : ByteArray) = lget b (((b.length : Int) - (1 : Int)) - m224)))))], fit_mk (fun _ _ => rfl) (by kernel_rfl) (vs_cons (by kernel_rfl) vs_nil), ?_⟩)
                  exact ⟨X325, (decide ((lget a (((a.length : Int) - (1 : Int)) - m224) : ByteArray) = lget b (((b.length : Int) - (1 : Int)) - m224))), rfl, E393, hXo394, hS395, ha396, hb397, hp⟩
                ·
                  replace hp := hp.2 h399
                  refine r_take 8 (.bool false) (RB.pre _ _) rfl (by kernel_rfl) (fun _ _ _ h => hQ.panic _ _ _ _ _ h) (.inl ⟨(by kernel_rfl), fun wq hq => (x_df (p := m224 < (b.length : Int)) (by kernel_rfl) h399)⟩) ?_
                  refine r_take 9 (.bool false) (RB.pre _ _) rfl (by kernel_rfl) (fun _ _ _ h => hQ.panic _ _ _ _ _ h) (.inl ⟨rfl, fun wq hq => (by kernel_rfl)⟩) ?_
                  refine r_take 10 (.bool false) (RB.pre _ _) rfl (by kernel_rfl) (fun _ _ _ h => hQ.panic _ _ _ _ _ h) (.inl ⟨rfl, fun wq hq => (by kernel_rfl)⟩) ?_
                  refine r_take 11 undef (RB.pre _ _) rfl (by kernel_rfl) (fun _ _ _ h => hQ.panic _ _ _ _ _ h) (.inr ⟨by kernel_rfl, rfl⟩) ?_
                  refine r_take 12 undef (RB.pre _ _) rfl (by kernel_rfl) (fun _ _ _ h => hQ.panic _ _ _ _ _ h) (.inr ⟨by kernel_rfl, rfl⟩) ?_
                  refine r_take 13 undef (RB.pre _ _) rfl (by kernel_rfl) (fun _ _ _ h => hQ.panic _ _ _ _ _ h) (.inr ⟨by kernel_rfl, rfl⟩) ?_
                  refine r_take 14 undef (RB.pre _ _) rfl (by kernel_rfl) (fun _ _ _ h => hQ.panic _ _ _ _ _ h) (.inr ⟨by kernel_rfl, rfl⟩) ?_
                  refine r_take 15 undef (RB.pre _ _) rfl (by kernel_rfl) (fun _ _ _ h => hQ.panic _ _ _ _ _ h) (.inr ⟨by kernel_rfl, rfl⟩) ?_
                  refine r_take 16 undef (RB.pre _ _) rfl (by kernel_rfl) (fun _ _ _ h => hQ.panic _ _ _ _ _ h) (.inr ⟨by kernel_rfl, rfl⟩) ?_
                  refine r_take 17 undef (RB.pre _ _) rfl (by kernel_rfl) (fun _ _ _ h => hQ.panic _ _ _ _ _ h) (.inr ⟨by kernel_rfl, rfl⟩) ?_
                  refine r_take 18 undef (RB.pre _ _) rfl (by kernel_rfl) (fun _ _ _ h => hQ.panic _ _ _ _ _ h) (.inr ⟨by kernel_rfl, rfl⟩) ?_
                  refine r_take 19 undef (RB.pre _ _) rfl (by kernel_rfl) (fun _ _ _ h => hQ.panic _ _ _ _ _ h) (.inr ⟨by kernel_rfl, rfl⟩) ?_
                  refine r_take 20 undef (RB.pre _ _) rfl (by kernel_rfl) (fun _ _ _ h => hQ.panic _ _ _ _ _ h) (.inr ⟨by kernel_rfl, rfl⟩) ?_
                  refine r_take 21 undef (RB.pre _ _) rfl (by kernel_rfl) (fun _ _ _ h => hQ.panic _ _ _ _ _ h) (.inr ⟨by kernel_rfl, rfl⟩) ?_
                  refine r_take 22 undef (RB.pre _ _) rfl (by kernel_rfl) (fun _ _ _ h => hQ.panic _ _ _ _ _ h) (.inr ⟨by kernel_rfl, rfl⟩) ?_
                  refine r_take 23 undef (RB.pre _ _) rfl (by kernel_rfl) (fun _ _ _ h => hQ.panic _ _ _ _ _ h) (.inr ⟨by kernel_rfl, rfl⟩) ?_
                  refine r_take 24 undef (RB.pre _ _) rfl (by kernel_rfl) (fun _ _ _ h => hQ.panic _ _ _ _ _ h) (.inr ⟨by kernel_rfl, rfl⟩) ?_
                  refine r_take 25 undef (RB.pre _ _) rfl (by kernel_rfl) (fun _ _ _ h => hQ.panic _ _ _ _ _ h) (.inr ⟨by kernel_rfl, rfl⟩) ?_
                  refine r_take 26 undef (RB.pre _ _) rfl (by kernel_rfl) (fun _ _ _ h => hQ.panic _ _ _ _ _ h) (.inr ⟨by kernel_rfl, rfl⟩) ?_
                  refine r_take 27 undef (RB.pre _ _) rfl (by kernel_rfl) (fun _ _ _ h => hQ.panic _ _ _ _ _ h) (.inr ⟨by kernel_rfl, rfl⟩) ?_
                  refine r_take 28 (.bool false) (RB.pre _ _) rfl (by kernel_rfl) (fun _ _ _ h => hQ.panic _ _ _ _ _ h) (.inl ⟨rfl, fun wq hq => (by kernel_rfl)⟩) ?_
                  refine r_done (by kernel_rfl) ?_
                  refine then_normal (hJ380 _ _ _ ⟨[(68, (.bool false))], fit_mk (fun _ _ => rfl) (by kernel_rfl) (vs_cons (by kernel_rfl) vs_nil), ?_⟩)
                  exact ⟨X325, false, rfl, E393, hXo394, hS395, ha396, hb397, hp⟩
              ·
                replace hp := hp.2 h398
                refine r_take 3 (.bool false) (RB.pre _ _) rfl (by kernel_rfl) (fun _ _ _ h => hQ.panic _ _ _ _ _ h) (.inl ⟨rfl, fun wq hq => (x_df (p := m224 < (a.length : Int)) (by kernel_rfl) h398)⟩) ?_
                refine r_take 4 (.bool false) (RB.pre _ _) rfl (by kernel_rfl) (fun _ _ _ h => hQ.panic _ _ _ _ _ h) (.inl ⟨rfl, fun wq hq => (by kernel_rfl)⟩) ?_
                refine r_take 5 undef (RB.pre _ _) rfl (by kernel_rfl) (fun _ _ _ h => hQ.panic _ _ _ _ _ h) (.inr ⟨by kernel_rfl, rfl⟩) ?_
                refine r_take 6 undef (RB.pre _ _) rfl (by kernel_rfl) (fun _ _ _ h => hQ.panic _ _ _ _ _ h) (.inr ⟨by kernel_rfl, rfl⟩) ?_
                refine r_take 7 undef (RB.pre _ _) rfl (by kernel_rfl) (fun _ _ _ h => hQ.panic _ _ _ _ _ h) (.inr ⟨by kernel_rfl, rfl⟩) ?_
                refine r_take 8 undef (RB.pre _ _) rfl (by kernel_rfl) (fun _ _ _ h => hQ.panic _ _ _ _ _ h) (.inr ⟨by kernel_rfl, rfl⟩) ?_
                refine r_take 9 (.bool false) (RB.pre _ _) rfl (by kernel_rfl) (fun _ _ _ h => hQ.panic _ _ _ _ _ h) (.inl ⟨rfl, fun wq hq => (by kernel_rfl)⟩) ?_
                refine r_take 10 (.bool false) (RB.pre _ _) rfl (by kernel_rfl) (fun _ _ _ h => hQ.panic _ _ _ _ _ h) (.inl ⟨rfl, fun wq hq => (by kernel_rfl)⟩) ?_
                refine r_take 11 undef (RB.pre _ _) rfl (by kernel_rfl) (fun _ _ _ h => hQ.panic _ _ _ _ _ h) (.inr ⟨by kernel_rfl, rfl⟩) ?_
                refine r_take 12 undef (RB.pre _ _) rfl (by kernel_rfl) (fun _ _ _ h => hQ.panic _ _ _ _ _ h) (.inr ⟨by kernel_rfl, rfl⟩) ?_
                refine r_take 13 undef (RB.pre _ _) rfl (by kernel_rfl) (fun _ _ _ h => hQ.panic _ _ _ _ _ h) (.inr ⟨by kernel_rfl, rfl⟩) ?_
                refine r_take 14 undef (RB.pre _ _) rfl (by kernel_rfl) (fun _ _ _ h => hQ.panic _ _ _ _ _ h) (.inr ⟨by kernel_rfl, rfl⟩) ?_
                refine r_take 15 undef (RB.pre _ _) rfl (by kernel_rfl) (fun _ _ _ h => hQ.panic _ _ _ _ _ h) (.inr ⟨by kernel_rfl, rfl⟩) ?_
                refine r_take 16 undef (RB.pre _ _) rfl (by kernel_rfl) (fun _ _ _ h => hQ.panic _ _ _ _ _ h) (.inr ⟨by kernel_rfl, rfl⟩) ?_
                refine r_take 17 undef (RB.pre _ _) rfl (by kernel_rfl) (fun _ _ _ h => hQ.panic _ _ _ _ _ h) (.inr ⟨by kernel_rfl, rfl⟩) ?_
                refine r_take 18 undef (RB.pre _ _) rfl (by kernel_rfl) (fun _ _ _ h => hQ.panic _ _ _ _ _ h) (.inr ⟨by kernel_rfl, rfl⟩) ?_
                refine r_take 19 undef (RB.pre _ _) rfl (by kernel_rfl) (fun _ _ _ h => hQ.panic _ _ _ _ _ h) (.inr ⟨by kernel_rfl, rfl⟩) ?_
                refine r_take 20 undef (RB.pre _ _) rfl (by kernel_rfl) (fun _ _ _ h => hQ.panic _ _ _ _ _ h) (.inr ⟨by kernel_rfl, rfl⟩) ?_
                refine r_take 21 undef (RB.pre _ _) rfl (by kernel_rfl) (fun _ _ _ h => hQ.panic _ _ _ _ _ h) (.inr ⟨by kernel_rfl, rfl⟩) ?_
                refine r_take 22 undef (RB.pre _ _) rfl (by kernel_rfl) (fun _ _ _ h => hQ.panic _ _ _ _ _ h) (.inr ⟨by kernel_rfl, rfl⟩) ?_
                refine r_take 23 undef (RB.pre _ _) rfl (by kernel_rfl) (fun _ _ _ h => hQ.panic _ _ _ _ _ h) (.inr ⟨by kernel_rfl, rfl⟩) ?_
                refine r_take 24 undef (RB.pre _ _) rfl (by kernel_rfl) (fun _ _ _ h => hQ.panic _ _ _ _ _ h) (.inr ⟨by kernel_rfl, rfl⟩) ?_
                refine r_take 25 undef (RB.pre _ _) rfl (by kernel_rfl) (fun _ _ _ h => hQ.panic _ _ _ _ _ h) (.inr ⟨by kernel_rfl, rfl⟩) ?_
                refine r_take 26 undef (RB.pre _ _) rfl (by kernel_rfl) (fun _ _ _ h => hQ.panic _ _ _ _ _ h) (.inr ⟨by kernel_rfl, rfl⟩) ?_
                refine r_take 27 undef (RB.pre _ _) rfl (by kernel_rfl) (fun _ _ _ h => hQ.panic _ _ _ _ _ h) (.inr ⟨by kernel_rfl, rfl⟩) ?_
                refine r_take 28 (.bool false) (RB.pre _ _) rfl (by kernel_rfl) (fun _ _ _ h => hQ.panic _ _ _ _ _ h) (.inl ⟨rfl, fun wq hq => (by kernel_rfl)⟩) ?_
                refine r_done (by kernel_rfl) ?_
                refine then_normal (hJ380 _ _ _ ⟨[(68, (.bool false))], fit_mk (fun _ _ => rfl) (by kernel_rfl) (vs_cons (by kernel_rfl) vs_nil), ?_⟩)
                exact ⟨X325, false, rfl, E393, hXo394, hS395, ha396, hb397, hp⟩
            ·
              rintro _ w377 g424 ⟨X378, s374, rfl, E382, hXo383, hS384, ha385, hb386, hv381⟩
              replace hp := hk376 s374 hv381
              refine then_normal (K336 _ _ _ _ ?_)
              refine cond_b s374 (by kernel_rfl) (fun h425 => ?_) (fun h425 => ?_)
              ·
                replace hp := hp.1 h425
                refine wp_skip ?_
                refine then_normal (K335 _ _ _ _ ?_)
                refine wp_block ?_
                refine reg_ ?_
                refine sq (o_pv (.int .i64 m224) rfl (by kernel_rfl) ?_)
                obtain ⟨h426, hp⟩ := hp
                refine sq (o_pv (.int .i64 (m224 + (1 : Int))) rfl (x_add2 (k := .i64) (a := m224) (b := (1 : Int)) (m224 + (1 : Int)) (by kernel_rfl) (by kernel_rfl) (wrap_inR h426)) ?_)
                refine sq (o_pv (.int .i64 (m224 + (1 : Int))) rfl (by kernel_rfl) ?_)
                refine nil_ ?_
                refine blk_normal ?_
                refine then_normal (hA329 _ _ _ ⟨_, [(6, (.int .i64 (m224 + (1 : Int))))], hp.2, fit_mk (AgB.nest (AgB.look (AgB.mix _ _ _) (by kernel_rfl)) (by kernel_rfl) (by kernel_rfl)) (by kernel_rfl) (vs_cons (by kernel_rfl) vs_nil), ?_⟩)
                exact ⟨X378, (m224 + (1 : Int)), rfl, rfl, E382, hXo383, hS384, ha385, hb386, h426, hp.1⟩
              ·
                replace hp := hp.2 h425
                refine wp_exit ?_
                refine then_exit ?_
                refine then_exit ?_
                refine blk_exit ?_
                refine then_normal (K223 _ _ _ _ ?_)
                refine seq_ (fun _ K427 => ?_)
                obtain ⟨k468, hk469, hp⟩ := hp
                refine ground_ ?_
                refine join_ 633825297752931459313528995856 (fun lq w470 => ∃ (X471 : List Nat) (s467 : Bool), (lq = [(4, (.bool s467))]) ∧ (Evo [] w w470) ∧ (Old X471 w470) ∧ (Sub X X471) ∧ (k468 s467)) (fun Kj472 hJ473 => ?_) ?_
                ·
                  refine reg_ ?_
                  refine sq (o_pv (.slice aa1 a.length ca2) rfl (by kernel_rfl) ?_)
                  refine sq (o_pv (.slice ab4 b.length cb5) rfl (by kernel_rfl) ?_)
                  refine sq (o_call 63 #[(.slice aa1 a.length ca2), (.slice ab4 b.length cb5)] rfl (x_call Try.call63 (by kernel_rfl)) (lines_Prefix_w (X := []) (a := a) (b := b) (Old.nil _) (Sl.less ha385 (Sub.nil _)) (Sl.less hb386 (Sub.nil _)) hp) ?_)
                  rintro _ w479 ⟨r478, hp, e480, rfl, rr482⟩
                  have s481 := Step.of0 X378 e480
                  replace hp := hp rr482
                  refine sq (o_pv (.int .i64 n_30) rfl (by kernel_rfl) ?_)
                  by_cases h483 : r478 = n_30
                  ·
                    replace hp := hp.1 h483
                    refine sq (o_pv (.bool true) rfl (x_dt (p := r478 = n_30) (by kernel_rfl) h483) ?_)
                    refine sq (o_pv (.bool true) rfl (by kernel_rfl) ?_)
                    refine sq (o_pv (.slice aa1 a.length ca2) (by kernel_rfl) (by kernel_rfl) ?_)
                    refine sq (o_pv (.slice ab4 b.length cb5) (by kernel_rfl) (by kernel_rfl) ?_)
                    have ha484 := (Sl.step ha385 s481)
                    have hb485 := (Sl.step hb386 s481)
                    refine sq (o_call 64 #[(.slice aa1 a.length ca2), (.slice ab4 b.length cb5)] (by kernel_rfl) (x_call Try.call64 (by kernel_rfl)) (lines_Suffix_w (X := []) (a := a) (b := b) (Old.nil _) (Sl.less ha484 (Sub.nil _)) (Sl.less hb485 (Sub.nil _)) hp) ?_)
                    rintro _ w487 ⟨r486, hp, e488, rfl, rr490⟩
                    have s489 := Step.of0 X378 e488
                    replace hp := hp rr490
                    refine sq (o_pv (.int .i64 m224) (by kernel_rfl) (by kernel_rfl) ?_)
                    by_cases h491 : r486 = m224
                    ·
                      replace hp := hp.1 h491
                      refine sq (o_pv (.bool true) (by kernel_rfl) (x_dt (p := r486 = m224) (by kernel_rfl) h491) ?_)
                      refine sq (o_pv (.bool true) rfl (by kernel_rfl) ?_)
                      refine sq (o_pv (.bool true) rfl (by kernel_rfl) ?_)
                      refine sq (o_pv (.slice aa1 a.length ca2) (by kernel_rfl) (by kernel_rfl) ?_)
                      refine sq (o_pv (.slice ab4 b.length cb5) (by kernel_rfl) (by kernel_rfl) ?_)
                      have ha492 := (Sl.step ha484 s489)
                      have hb493 := (Sl.step hb485 s489)
                      refine sq (o_call 65 #[(.slice aa1 a.length ca2), (.slice ab4 b.length cb5)] (by kernel_rfl) (x_call Try.call65 (by kernel_rfl)) (lines_Equal_w (X := []) (a := a) (b := b) (Old.nil _) (Sl.less ha492 (Sub.nil _)) (Sl.less hb493 (Sub.nil _)) hp) ?_)
                      rintro _ w495 ⟨r494, hp, e496, rfl⟩
                      have s497 := Step.of0 X378 e496
                      refine sq (o_pv (.slice aa1 a.length ca2) (by kernel_rfl) (by kernel_rfl) ?_)
                      refine sq (o_pv (.slice ab4 b.length cb5) (by kernel_rfl) (by kernel_rfl) ?_)
                      have ha498 := (Sl.step ha492 s497)
                      have hb499 := (Sl.step hb493 s497)
                      refine sq (o_call 29 #[(.slice aa1 a.length ca2), (.slice ab4 b.length cb5)] (by kernel_rfl) (x_call Try.call29 (by kernel_rfl)) (rectoref11_Equal_w (X := []) (a := a) (b := b) (Old.nil _) (Sl.less ha498 (Sub.nil _)) (Sl.less hb499 (Sub.nil _)) hp) ?_)
                      rintro _ w501 ⟨r500, hp, e502, rfl⟩
                      have s503 := Step.of0 X378 e502
                      by_cases h504 : (r494 : Bool) = r500
                      ·
                        replace hp := hp.1 h504
                        refine sq (o_pv (.bool true) (by kernel_rfl) (x_dt (p := (r494 : Bool) = r500) (x_booleq (a := r494) (b := r500) Try.underlying4 (by kernel_rfl) (by kernel_rfl)) h504) ?_)
                        refine sq (o_pv (.bool true) rfl (by kernel_rfl) ?_)
                        refine sq (o_pv (.bool true) rfl (by kernel_rfl) ?_)
                        refine sq (o_pv (.slice aa1 a.length ca2) (by kernel_rfl) (by kernel_rfl) ?_)
                        have ha505 := (Sl.step ha498 s503)
                        refine sq (o_call 62 #[(.slice aa1 a.length ca2)] (by kernel_rfl) (x_call Try.call62 (by kernel_rfl)) (lines_Join_w (X := []) (l := a) (Old.nil _) (Sl.less ha505 (Sub.nil _)) hp) ?_)
                        rintro _ w507 ⟨r506, hp, e508, rfl, zr510⟩
                        have s509 := Step.of0 X378 e508
                        replace hp := hp zr510
                        refine sq (o_pv (.slice aa1 a.length ca2) (by kernel_rfl) (by kernel_rfl) ?_)
                        have ha511 := (Sl.step ha505 s509)
                        refine sq (o_call 66 #[(.slice aa1 a.length ca2)] (by kernel_rfl) (x_call Try.call66 (by kernel_rfl)) (rectoref11_Join_w (X := []) (l := a) (Old.nil _) (Sl.less ha511 (Sub.nil _)) hp) ?_)
                        rintro _ w513 ⟨r512, hp, e514, rfl, zr516⟩
                        have s515 := Step.of0 X378 e514
                        replace hp := hp zr516
                        refine sq (o_pv (.bool (decide ((r506 : ByteArray) = r512))) (by kernel_rfl) (x_streq (by kernel_rfl) (by kernel_rfl)) ?_)
                        refine sq (o_pv (.bool (decide ((r506 : ByteArray) = r512))) rfl (by kernel_rfl) ?_)
                        refine sq (o_pv (.bool (decide ((r506 : ByteArray) = r512))) rfl (by kernel_rfl) ?_)
                        refine nil_ ?_
                        have E517 := (Evo.then0 (Evo.then0 (Evo.then0 (Evo.then0 (Evo.then0 (Evo.then0 E382 e480) e488) e496) e502) e508) e514)
                        have hXo518 := (Old.step (Old.step (Old.step (Old.step (Old.step (Old.step hXo383 s481) s489) s497) s503) s509) s515)
                        have hS519 := (Sub.trans (Sub.trans (Sub.trans (Sub.trans (Sub.trans (Sub.trans hS384 (Step.up s481)) (Step.up s489)) (Step.up s497)) (Step.up s503)) (Step.up s509)) (Step.up s515))
                        refine then_normal (hJ473 _ _ _ ⟨[(4, (.bool (decide ((r506 : ByteArray) = r512))))], fit_mk (fun _ _ => rfl) (by kernel_rfl) (vs_cons (by kernel_rfl) vs_nil), ?_⟩)
                        exact ⟨X378, (decide ((r506 : ByteArray) = r512)), rfl, E517, hXo518, hS519, hp⟩
                      ·
                        replace hp := hp.2 h504
                        refine sq (o_pv (.bool false) (by kernel_rfl) (x_df (p := (r494 : Bool) = r500) (x_booleq (a := r494) (b := r500) Try.underlying4 (by kernel_rfl) (by kernel_rfl)) h504) ?_)
                        refine sq (o_pv (.bool false) rfl (by kernel_rfl) ?_)
                        refine sq (o_pv (.bool false) rfl (by kernel_rfl) ?_)
                        refine sq (o_not (by kernel_rfl) ?_)
                        refine sq (o_not (by kernel_rfl) ?_)
                        refine sq (o_not (by kernel_rfl) ?_)
                        refine sq (o_not (by kernel_rfl) ?_)
                        refine sq (o_not (by kernel_rfl) ?_)
                        refine sq (o_pv (.bool false) rfl (by kernel_rfl) ?_)
                        refine sq (o_pv (.bool false) rfl (by kernel_rfl) ?_)
                        refine nil_ ?_
                        have E520 := (Evo.then0 (Evo.then0 (Evo.then0 (Evo.then0 E382 e480) e488) e496) e502)
                        have hXo521 := (Old.step (Old.step (Old.step (Old.step hXo383 s481) s489) s497) s503)
                        have hS522 := (Sub.trans (Sub.trans (Sub.trans (Sub.trans hS384 (Step.up s481)) (Step.up s489)) (Step.up s497)) (Step.up s503))
                        refine then_normal (hJ473 _ _ _ ⟨[(4, (.bool false))], fit_mk (fun _ _ => rfl) (by kernel_rfl) (vs_cons (by kernel_rfl) vs_nil), ?_⟩)
                        exact ⟨X378, false, rfl, E520, hXo521, hS522, hp⟩
                    ·
                      replace hp := hp.2 h491
                      refine sq (o_pv (.bool false) (by kernel_rfl) (x_df (p := r486 = m224) (by kernel_rfl) h491) ?_)
                      refine sq (o_pv (.bool false) rfl (by kernel_rfl) ?_)
                      refine sq (o_pv (.bool false) rfl (by kernel_rfl) ?_)
                      refine sq (o_not (by kernel_rfl) ?_)
                      refine sq (o_not (by kernel_rfl) ?_)
                      refine sq (o_not (by kernel_rfl) ?_)
                      refine sq (o_not (by kernel_rfl) ?_)
                      refine sq (o_not (by kernel_rfl) ?_)
                      refine sq (o_not (by kernel_rfl) ?_)
                      refine sq (o_not (by kernel_rfl) ?_)
                      refine sq (o_pv (.bool false) rfl (by kernel_rfl) ?_)
                      refine sq (o_pv (.bool false) rfl (by kernel_rfl) ?_)
                      refine sq (o_not (by kernel_rfl) ?_)
                      refine sq (o_not (by kernel_rfl) ?_)
                      refine sq (o_not (by kernel_rfl) ?_)
                      refine sq (o_not (by kernel_rfl) ?_)
                      refine sq (o_not (by kernel_rfl) ?_)
                      refine sq (o_pv (.bool false) rfl (by kernel_rfl) ?_)
                      refine sq (o_pv (.bool false) rfl (by kernel_rfl) ?_)
                      refine nil_ ?_
                      have E523 := (Evo.then0 (Evo.then0 E382 e480) e488)
                      have hXo524 := (Old.step (Old.step hXo383 s481) s489)
                      have hS525 := (Sub.trans (Sub.trans hS384 (Step.up s481)) (Step.up s489))
                      refine then_normal (hJ473 _ _ _ ⟨[(4, (.bool false))], fit_mk (fun _ _ => rfl) (by kernel_rfl) (vs_cons (by kernel_rfl) vs_nil), ?_⟩)
                      exact ⟨X378, false, rfl, E523, hXo524, hS525, hp⟩
                  ·
                    replace hp := hp.2 h483
                    refine sq (o_pv (.bool false) rfl (x_df (p := r478 = n_30) (by kernel_rfl) h483) ?_)
                    refine sq (o_pv (.bool false) rfl (by kernel_rfl) ?_)
                    refine sq (o_not (by kernel_rfl) ?_)
                    refine sq (o_not (by kernel_rfl) ?_)
                    refine sq (o_not (by kernel_rfl) ?_)
                    refine sq (o_not (by kernel_rfl) ?_)
                    refine sq (o_not (by kernel_rfl) ?_)
                    refine sq (o_pv (.bool false) rfl (by kernel_rfl) ?_)
                    refine sq (o_pv (.bool false) rfl (by kernel_rfl) ?_)
                    refine sq (o_not (by kernel_rfl) ?_)
                    refine sq (o_not (by kernel_rfl) ?_)
                    refine sq (o_not (by kernel_rfl) ?_)
                    refine sq (o_not (by kernel_rfl) ?_)
                    refine sq (o_not (by kernel_rfl) ?_)
                    refine sq (o_not (by kernel_rfl) ?_)
                    refine sq (o_not (by kernel_rfl) ?_)
                    refine sq (o_pv (.bool false) rfl (by kernel_rfl) ?_)
                    refine sq (o_pv (.bool false) rfl (by kernel_rfl) ?_)
                    refine sq (o_not (by kernel_rfl) ?_)
                    refine sq (o_not (by kernel_rfl) ?_)
                    refine sq (o_not (by kernel_rfl) ?_)
                    refine sq (o_not (by kernel_rfl) ?_)
                    refine sq (o_not (by kernel_rfl) ?_)
                    refine sq (o_pv (.bool false) rfl (by kernel_rfl) ?_)
                    refine sq (o_pv (.bool false) rfl (by kernel_rfl) ?_)
                    refine nil_ ?_
                    have E526 := (Evo.then0 E382 e480)
                    have hXo527 := (Old.step hXo383 s481)
                    have hS528 := (Sub.trans hS384 (Step.up s481))
                    refine then_normal (hJ473 _ _ _ ⟨[(4, (.bool false))], fit_mk (fun _ _ => rfl) (by kernel_rfl) (vs_cons (by kernel_rfl) vs_nil), ?_⟩)
                    exact ⟨X378, false, rfl, E526, hXo527, hS528, hp⟩
                ·
                  rintro _ w470 g529 ⟨X471, s467, rfl, E475, hXo476, hS477, hv474⟩
                  replace hp := hk469 s467 hv474
                  refine then_normal (K427 _ _ _ _ ?_)
                  refine wp_ret ?_
                  refine end_ret hQ (.bool s467) (by kernel_rfl) ?_
                  exact ⟨s467, hp, E475, rfl⟩

end Go.Proofs.Ytmepomdpjlbaaaa
