/- Walks of functions: what each asks and computes, as a plain predicate, and the contract from it. -/
import Derived.Test.YtjejeipdndddpaaDoorChecked
import Derived.Test.YtjejeipdndddpaaDoorHk6
namespace Go.Proofs.YtjejeipdndddpaaDoor
open Go


def rectolaw12_PatchHunks_p (a : (List ByteArray)) (h : (List S_patch_Hunk)) (Q : Bool → Prop) : Prop :=
  ((a.length ≤ 9223372036854775807) → ((h.length ≤ 9223372036854775807) → (rectolaw12_known_p  (fun (r10 : Bool) => ((((!r10) = true) → Q false) ∧ (((!r10) = false) → (∃ k25 : Bool → Prop, (∀ (s24 : Bool), k25 s24 → (((s24 = true) → Q true) ∧ ((s24 = false) → (∃ (I205 : Int → Prop) (m206 : Int → Nat), (I205 (0 : Int)) ∧ (∀ (i69 : Int), (I205 i69) → (inR .i64 i69) → (((i69 < (h.length : Int)) → ((inL h i69) ∧ ((inR .i64 ((lget h i69).At)) → ((inR .i64 ((lget h i69).Del)) → ((inR .i64 ((lget h i69).To)) → ((inR .i64 ((lget h i69).Add)) → ((((lget h i69).Lines).length ≤ 9223372036854775807) → (∃ k260 : Bool → Prop, (∀ (s259 : Bool), k260 s259 → (((s259 = true) → Q true) ∧ ((s259 = false) → (∃ (I315 : Int → Prop) (m316 : Int → Nat), (I315 (0 : Int)) ∧ (∀ (k292 : Int), (I315 k292) → (inR .i64 k292) → (((k292 < (((lget h i69).Lines).length : Int)) → ((inL ((lget h i69).Lines) k292) ∧ ((inR .i64 ((lget ((lget h i69).Lines) k292).Op)) → ((((lget ((lget h i69).Lines) k292).Line).size ≤ maxLen) → ((((((lget ((lget h i69).Lines) k292).Line).size : Int) > (300 : Int)) → Q true) ∧ ((¬ ((((lget ((lget h i69).Lines) k292).Line).size : Int) > (300 : Int))) → ((inR .i64 (k292 + (1 : Int))) ∧ ((I315 (k292 + (1 : Int))) ∧ m316 (k292 + (1 : Int)) < m316 k292)))))))) ∧ ((¬ (k292 < (((lget h i69).Lines).length : Int))) → ((inR .i64 (i69 + (1 : Int))) ∧ ((I205 (i69 + (1 : Int))) ∧ m206 (i69 + (1 : Int)) < m206 i69))))))))) ∧ ((((((lget h i69).Lines).length : Int) > (50 : Int)) → (k260 true)) ∧ ((¬ ((((lget h i69).Lines).length : Int) > (50 : Int))) → (((((lget h i69).At) < (-1099511627776 : Int)) → (k260 true)) ∧ ((¬ (((lget h i69).At) < (-1099511627776 : Int))) → (((((lget h i69).At) > (1099511627776 : Int)) → (k260 true)) ∧ ((¬ (((lget h i69).At) > (1099511627776 : Int))) → (((((lget h i69).To) < (-1099511627776 : Int)) → (k260 true)) ∧ ((¬ (((lget h i69).To) < (-1099511627776 : Int))) → (k260 (decide (((lget h i69).To) > (1099511627776 : Int)))))))))))))))))))) ∧ ((¬ (i69 < (h.length : Int))) → ((a.length * 16 ≤ 140737488355328) ∧ (patch_Apply_p a h (fun (r376 : (List ByteArray)) (r377 : PErr) => ((r376.length ≤ 9223372036854775807) → (rectolaw12_Of_p h (fun (r389 : (List S_rectoref11_Hunk)) => ((r389.length ≤ 9223372036854775807) → (rectoref11_Apply_p a r389 (fun (r398 : (List ByteArray)) (r399 : S_rectoref3_Wrong) => ((r398.length ≤ 9223372036854775807) → ((r399.Parts.length ≤ 9223372036854775807) → ((inR .i64 r399.Err) → (∃ k446 : Bool → Prop, (∀ (s445 : Bool), k446 s445 → Q s445) ∧ (rectolaw2_Tells_p r377 r399 (fun (r471 : Bool) => (((r471 = true) → (rectoref11_Equal_p r376 r398 (fun (r482 : Bool) => (((r482 = true) → (rectoref11_Equal_p a a (fun (r493 : Bool) => (k446 r493)))) ∧ ((r482 = false) → (k446 false)))))) ∧ ((r471 = false) → (k446 false))))))))))))))))))))))))) ∧ (rectolaw12_few_p a ([] : List ByteArray) (fun (r46 : Bool) => (((r46 = true) → (k25 (decide ((h.length : Int) > (10 : Int))))) ∧ ((r46 = false) → (k25 true))))))))))))
set_option maxRecDepth 20000 in
set_option maxHeartbeats 4000000 in
theorem rectolaw12_PatchHunks_w {X : List Nat} {w : World} {a : (List ByteArray)} {h : (List S_patch_Hunk)} {aa1 : Option Addr} {ca2 : Nat} {ah4 : Option Addr} {ch5 : Nat} {Q : Bool → Prop} (hX0 : Old X w) (ha3 : Sl rStr X w aa1 ca2 a) (hh6 : Sl r_patch_Hunk X w ah4 ch5 h) (gv0 : GV X w 0 [(.iface 202 (.agg #[typeHandle Tryd.prog 26]))]) (gv1 : GV X w 1 (Lib.pow10Tab.map (Value.int .u64))) (hp : rectolaw12_PatchHunks_p a h Q) :
    Calls Tryd.prog 6 #[(.slice aa1 a.length ca2), (.slice ah4 h.length ch5)] w (Ret fun v w' => ∃ (r0 : Bool), Q r0 ∧ Evo [] w w' ∧ v = (.bool r0)) := by
  have hXo := hX0
  have E0 : Evo [] w w := RB.refl _ _ _
  have hS : Sub X X := Sub.refl _
  unfold rectolaw12_PatchHunks_p at hp
  refine enter_ Tryd.func6 rfl 101 [(0, (.slice aa1 a.length ca2)), (1, (.slice ah4 h.length ch5))] (by kernel_rfl) (fun Qe hQ => ?_)
  replace hp := hp (Sl.len ha3)
  replace hp := hp (Sl.len hh6)
  refine seq_ (fun _ K7 => ?_)
  refine reg_ ?_
  refine sq (o_pv (.bool false) rfl (by kernel_rfl) ?_)
  refine nil_ ?_
  refine then_normal (K7 _ _ _ _ ?_)
  refine seq_ (fun _ K8 => ?_)
  refine seq_ (fun _ K9 => ?_)
  refine reg_ ?_
  refine sq (o_call 17 #[] rfl (x_call Tryd.call17 (by kernel_rfl)) (rectolaw12_known_w (X := [])  (Old.nil _) (GV.less gv1 (Sub.nil _)) hp) ?_)
  rintro _ w11 ⟨r10, hp, e12, rfl⟩
  have s13 := Step.of0 X e12
  refine sq (o_pv (.bool (!r10)) rfl (by kernel_rfl) ?_)
  refine nil_ ?_
  refine then_normal (K9 _ _ _ _ ?_)
  refine cond_b (!r10) (by kernel_rfl) (fun h14 => ?_) (fun h14 => ?_)
  ·
    replace hp := hp.1 h14
    refine seq_ (fun _ K15 => ?_)
    refine reg_ ?_
    refine sq (o_pv (.bool false) rfl (by kernel_rfl) ?_)
    refine nil_ ?_
    refine then_normal (K15 _ _ _ _ ?_)
    refine wp_ret ?_
    refine then_ret ?_
    have E16 := (Evo.then0 E0 e12)
    refine end_ret hQ (.bool false) (by kernel_rfl) ?_
    exact ⟨false, hp, E16, rfl⟩
  ·
    replace hp := hp.2 h14
    refine wp_skip ?_
    refine then_normal (K8 _ _ _ _ ?_)
    refine seq_ (fun _ K17 => ?_)
    refine seq_ (fun _ K18 => ?_)
    have ha32 := (Sl.step ha3 s13)
    have hh33 := (Sl.step hh6 s13)
    have gv34 := (GV.step gv0 s13)
    have gv35 := (GV.step gv1 s13)
    have hXo36 := (Old.step hXo s13)
    have E37 := (Evo.then0 E0 e12)
    have hS38 := (Sub.trans hS (Step.up s13))
    obtain ⟨k25, hk26, hp⟩ := hp
    refine ground_ ?_
    refine join_ 8355840 (fun lq w27 => ∃ (X28 : List Nat) (s24 : Bool), (lq = [(22, (.bool s24))]) ∧ (Evo [] w w27) ∧ (Old X28 w27) ∧ (Sub X X28) ∧ (GV X28 w27 0 [(.iface 202 (.agg #[typeHandle Tryd.prog 26]))]) ∧ (GV X28 w27 1 (Lib.pow10Tab.map (Value.int .u64))) ∧ (Sl rStr X28 w27 aa1 ca2 a) ∧ (Sl r_patch_Hunk X28 w27 ah4 ch5 h) ∧ (k25 s24)) (fun Kj29 hJ30 => ?_) ?_
    ·
      refine reg_ ?_
      refine sq (o_pv (.slice aa1 a.length ca2) rfl (by kernel_rfl) ?_)
      refine sq (o_call 18 #[(.slice aa1 a.length ca2), (.slice none (([] : List ByteArray)).length 0)] rfl (x_call Tryd.call18 (by rw []; kernel_rfl)) (rectolaw12_few_w (X := []) (a := a) (b := ([] : List ByteArray)) (Old.nil _) (Sl.less ha32 (Sub.nil _)) Sl.nil hp) ?_)
      rintro _ w47 ⟨r46, hp, e48, rfl⟩
      have s49 := Step.of0 X e48
      cases r46
      ·
        replace hp := hp.2 rfl
        refine sq (o_pv (.bool true) rfl (by kernel_rfl) ?_)
        refine sq (o_pv (.bool true) rfl (by kernel_rfl) ?_)
        refine sq (o_not (by kernel_rfl) ?_)
        refine sq (o_not (by kernel_rfl) ?_)
        refine sq (o_not (by kernel_rfl) ?_)
        refine sq (o_pv (.bool true) rfl (by kernel_rfl) ?_)
        refine nil_ ?_
        have E50 := (Evo.then0 E37 e48)
        have hXo51 := (Old.step hXo36 s49)
        have hS52 := (Sub.trans hS38 (Step.up s49))
        have gv53 := (GV.step gv34 s49)
        have gv54 := (GV.step gv35 s49)
        have ha55 := (Sl.step ha32 s49)
        have hh56 := (Sl.step hh33 s49)
        refine then_normal (hJ30 _ _ _ ⟨[(22, (.bool true))], fit_mk (fun _ _ => rfl) (by kernel_rfl) (vs_cons (by kernel_rfl) vs_nil), ?_⟩)
        exact ⟨X, true, rfl, E50, hXo51, hS52, gv53, gv54, ha55, hh56, hp⟩
      ·
        replace hp := hp.1 rfl
        refine sq (o_pv (.bool false) rfl (by kernel_rfl) ?_)
        refine sq (o_pv (.bool false) rfl (by kernel_rfl) ?_)
        refine sq (o_pv (.slice ah4 h.length ch5) (by kernel_rfl) (by kernel_rfl) ?_)
        refine sq (o_pv (.int .i64 (h.length : Int)) (by kernel_rfl) (by kernel_rfl) ?_)
        refine sq (o_pv (.bool (decide ((h.length : Int) > (10 : Int)))) (by kernel_rfl) (by kernel_rfl) ?_)
        refine sq (o_pv (.bool (decide ((h.length : Int) > (10 : Int)))) rfl (by kernel_rfl) ?_)
        refine nil_ ?_
        have E57 := (Evo.then0 E37 e48)
        have hXo58 := (Old.step hXo36 s49)
        have hS59 := (Sub.trans hS38 (Step.up s49))
        have gv60 := (GV.step gv34 s49)
        have gv61 := (GV.step gv35 s49)
        have ha62 := (Sl.step ha32 s49)
        have hh63 := (Sl.step hh33 s49)
        refine then_normal (hJ30 _ _ _ ⟨[(22, (.bool (decide ((h.length : Int) > (10 : Int)))))], fit_mk (fun _ _ => rfl) (by kernel_rfl) (vs_cons (by kernel_rfl) vs_nil), ?_⟩)
        exact ⟨X, (decide ((h.length : Int) > (10 : Int))), rfl, E57, hXo58, hS59, gv60, gv61, ha62, hh63, hp⟩
    ·
      rintro _ w27 g64 ⟨X28, s24, rfl, E39, hXo40, hS41, gv42, gv43, ha44, hh45, hv31⟩
      replace hp := hk26 s24 hv31
      refine then_normal (K18 _ _ _ _ ?_)
      refine cond_b s24 (by kernel_rfl) (fun h65 => ?_) (fun h65 => ?_)
      ·
        replace hp := hp.1 h65
        refine seq_ (fun _ K66 => ?_)
        refine reg_ ?_
        refine sq (o_pv (.bool true) rfl (by kernel_rfl) ?_)
        refine nil_ ?_
        refine then_normal (K66 _ _ _ _ ?_)
        refine wp_ret ?_
        refine then_ret ?_
        refine end_ret hQ (.bool true) (by kernel_rfl) ?_
        exact ⟨true, hp, E39, rfl⟩
      ·
        replace hp := hp.2 h65
        refine wp_skip ?_
        refine then_normal (K17 _ _ _ _ ?_)
        refine seq_ (fun _ K67 => ?_)
        refine seq_ (fun _ K68 => ?_)
        refine reg_ ?_
        refine sq (o_pv (.int .i64 (0 : Int)) rfl (by kernel_rfl) ?_)
        refine nil_ ?_
        refine then_normal (K68 _ _ _ _ ?_)
        refine wp_block ?_
        obtain ⟨I205, m206, hI207, hp⟩ := hp
        refine loop_ 4722366482869636825328 (fun kq lq w209 => ∃ (X210 : List Nat) (i69 : Int), (lq = [(5, (.int .i64 i69))]) ∧ (kq = m206 i69) ∧ (Evo [] w w209) ∧ (Old X210 w209) ∧ (Sub X X210) ∧ (GV X210 w209 0 [(.iface 202 (.agg #[typeHandle Tryd.prog 26]))]) ∧ (GV X210 w209 1 (Lib.pow10Tab.map (Value.int .u64))) ∧ (Sl rStr X210 w209 aa1 ca2 a) ∧ (Sl r_patch_Hunk X210 w209 ah4 ch5 h) ∧ (inR .i64 i69) ∧ (I205 i69)) (m206 (0 : Int)) [(5, (.int .i64 (0 : Int)))] (vs_cons (by kernel_rfl) vs_nil) ⟨X28, (0 : Int), rfl, rfl, E39, hXo40, hS41, gv42, gv43, ha44, hh45, (by decide), hI207⟩ ?_
        rintro _ _ w209 g212 ⟨X210, i69, rfl, rfl, E215, hXo216, hS217, gv218, gv219, ha220, hh221, ri70, hI208⟩ Kl213 hA214
        replace hp := hp i69 hI208 ri70
        refine seq_ (fun _ K222 => ?_)
        refine seq_ (fun _ K223 => ?_)
        refine reg_ ?_
        refine sq (o_pv (.int .i64 i69) rfl (by kernel_rfl) ?_)
        refine sq (o_pv (.slice ah4 h.length ch5) rfl (by kernel_rfl) ?_)
        refine sq (o_pv (.int .i64 (h.length : Int)) rfl (by kernel_rfl) ?_)
        refine sq (o_pv (.bool (decide (i69 < (h.length : Int)))) rfl (by kernel_rfl) ?_)
        refine nil_ ?_
        refine then_normal (K223 _ _ _ _ ?_)
        refine cond_d (i69 < (h.length : Int)) (by kernel_rfl) (fun h224 => ?_) (fun h224 => ?_)
        ·
          replace hp := hp.1 h224
          refine wp_skip ?_
          refine then_normal (K222 _ _ _ _ ?_)
          refine seq_ (fun _ K225 => ?_)
          refine wp_block ?_
          refine seq_ (fun _ K226 => ?_)
          refine reg_ ?_
          refine sq (o_pv (.slice ah4 h.length ch5) rfl (by kernel_rfl) ?_)
          refine sq (o_pv (.int .i64 i69) rfl (by kernel_rfl) ?_)
          obtain ⟨h227, hp⟩ := hp
          obtain ⟨b228, o229, cs230, ha231, nx232, lt233, ok234, hc235⟩ := Sl.atI hh221 i69 h227
          obtain ⟨aeLines240, ceLines241, rfl, reAt236, reDel237, reTo238, reAdd239, heLines242⟩ := r_patch_Hunk_open ok234
          replace hp := hp reAt236
          replace hp := hp reDel237
          replace hp := hp reTo238
          replace hp := hp reAdd239
          replace hp := hp (Sl.len heLines242)
          refine sq (o_pv (.pointer (some ⟨b228, o229 + i69.toNat * 5, none⟩)) rfl (x_ixA (m := h.length) (c := ch5) (k := .i64) (i := i69) Tryd.underlying44 Tryd.sizeOf62 (by rw [← ha231]; kernel_rfl) (by kernel_rfl) h227) ?_)
          refine sq (o_pv (.agg #[(.int .i64 ((lget h i69).At)), (.int .i64 ((lget h i69).Del)), (.int .i64 ((lget h i69).To)), (.int .i64 ((lget h i69).Add)), (.slice aeLines240 (((lget h i69).Lines).length) ceLines241)]) rfl (x_loadN [(.int .i64 ((lget h i69).At)), (.int .i64 ((lget h i69).Del)), (.int .i64 ((lget h i69).To)), (.int .i64 ((lget h i69).Add)), (.slice aeLines240 (((lget h i69).Lines).length) ceLines241)] (by kernel_rfl) Tryd.isAgg62 Tryd.sizeOf62 hc235) ?_)
          refine sq (o_newX [(.int .i64 (0 : Int)), (.int .i64 (0 : Int)), (.int .i64 (0 : Int)), (.int .i64 (0 : Int)), (.slice none 0 0)] 62 (X := X210) (B := w.heap.size) E215.size rfl (by kernel_rfl) ?_)
          intro b243 w244 X245 s246 k247 n248
          have E249 := (Evo.then0 E215 (Step.evo s246))
          refine sq (o_stB (o := 0) (v := (.agg #[(.int .i64 ((lget h i69).At)), (.int .i64 ((lget h i69).Del)), (.int .i64 ((lget h i69).To)), (.int .i64 ((lget h i69).Add)), (.slice aeLines240 (((lget h i69).Lines).length) ceLines241)])) [(.int .i64 ((lget h i69).At)), (.int .i64 ((lget h i69).Del)), (.int .i64 ((lget h i69).To)), (.int .i64 ((lget h i69).Add)), (.slice aeLines240 (((lget h i69).Lines).length) ceLines241)] rfl k247 (by kernel_rfl) (by kernel_rfl) Tryd.sizeOf62 rfl rfl rfl ?_)
          intro w250 s251 k252
          refine nil_ ?_
          refine then_normal (K226 _ _ _ _ ?_)
          refine seq_ (fun _ K253 => ?_)
          refine seq_ (fun _ K254 => ?_)
          have E267 := (Evo.thenW E249 (Step.evo s251) k247.2.2)
          have hXo268 := (Old.step (Old.step hXo216 s246) s251)
          have hS269 := (Sub.trans (Sub.trans hS217 (Step.up s246)) (Step.up s251))
          have gv270 := (GV.step (GV.step gv218 s246) s251)
          have gv271 := (GV.step (GV.step gv219 s246) s251)
          have ha272 := (Sl.step (Sl.step ha220 s246) s251)
          have hh273 := (Sl.step (Sl.step hh221 s246) s251)
          have heLines274 := (Sl.step (Sl.step heLines242 s246) s251)
          obtain ⟨k260, hk261, hp⟩ := hp
          refine ground_ ?_
          refine join_ 144115179485921280 (fun lq w262 => ∃ (X263 : List Nat) (s259 : Bool), (lq = [(56, (.bool s259))]) ∧ (Evo [] w w262) ∧ (Old X263 w262) ∧ (Sub X X263) ∧ (GV X263 w262 0 [(.iface 202 (.agg #[typeHandle Tryd.prog 26]))]) ∧ (GV X263 w262 1 (Lib.pow10Tab.map (Value.int .u64))) ∧ (Sl rStr X263 w262 aa1 ca2 a) ∧ (Sl r_patch_Hunk X263 w262 ah4 ch5 h) ∧ (Sl r_diff_Edit X263 w262 aeLines240 ceLines241 ((lget h i69).Lines)) ∧ (OB ([]) w.heap.size X263 w262 b243 [(.int .i64 ((lget h i69).At)), (.int .i64 ((lget h i69).Del)), (.int .i64 ((lget h i69).To)), (.int .i64 ((lget h i69).Add)), (.slice aeLines240 (((lget h i69).Lines).length) ceLines241)] 62) ∧ (k260 s259)) (fun Kj264 hJ265 => ?_) ?_
          ·
            refine reg_ ?_
            refine sq (o_pv (.pointer (some ⟨b243, 4, none⟩)) rfl (by kernel_rfl) ?_)
            refine sq (o_pv (.slice aeLines240 (((lget h i69).Lines).length) ceLines241) rfl (x_load1 (by kernel_rfl) Tryd.isAgg46 (k252.2.1.cell' 4 rfl)) ?_)
            refine sq (o_pv (.int .i64 (((lget h i69).Lines).length : Int)) rfl (by kernel_rfl) ?_)
            by_cases h284 : (((lget h i69).Lines).length : Int) > (50 : Int)
            ·
              replace hp := hp.1 h284
              refine sq (o_pv (.bool true) rfl (x_dt (p := (((lget h i69).Lines).length : Int) > (50 : Int)) (by kernel_rfl) h284) ?_)
              refine sq (o_pv (.bool true) rfl (by kernel_rfl) ?_)
              refine sq (o_not (by kernel_rfl) ?_)
              refine sq (o_not (by kernel_rfl) ?_)
              refine sq (o_not (by kernel_rfl) ?_)
              refine sq (o_pv (.bool true) rfl (by kernel_rfl) ?_)
              refine sq (o_pv (.bool true) rfl (by kernel_rfl) ?_)
              refine sq (o_not (by kernel_rfl) ?_)
              refine sq (o_not (by kernel_rfl) ?_)
              refine sq (o_not (by kernel_rfl) ?_)
              refine sq (o_pv (.bool true) rfl (by kernel_rfl) ?_)
              refine sq (o_pv (.bool true) rfl (by kernel_rfl) ?_)
              refine sq (o_not (by kernel_rfl) ?_)
              refine sq (o_not (by kernel_rfl) ?_)
              refine sq (o_not (by kernel_rfl) ?_)
              refine sq (o_pv (.bool true) rfl (by kernel_rfl) ?_)
              refine sq (o_pv (.bool true) rfl (by kernel_rfl) ?_)
              refine sq (o_not (by kernel_rfl) ?_)
              refine sq (o_not (by kernel_rfl) ?_)
              refine sq (o_not (by kernel_rfl) ?_)
              refine sq (o_pv (.bool true) rfl (by kernel_rfl) ?_)
              refine nil_ ?_
              refine then_normal (hJ265 _ _ _ ⟨[(56, (.bool true))], fit_mk (fun _ _ => rfl) (by kernel_rfl) (vs_cons (by kernel_rfl) vs_nil), ?_⟩)
              exact ⟨X245, true, rfl, E267, hXo268, hS269, gv270, gv271, ha272, hh273, heLines274, k252, hp⟩
            ·
              replace hp := hp.2 h284
              refine sq (o_pv (.bool false) rfl (x_df (p := (((lget h i69).Lines).length : Int) > (50 : Int)) (by kernel_rfl) h284) ?_)
              refine sq (o_pv (.bool false) rfl (by kernel_rfl) ?_)
              refine sq (o_pv (.pointer (some ⟨b243, 0, none⟩)) (by kernel_rfl) (by kernel_rfl) ?_)
              refine sq (o_pv (.int .i64 ((lget h i69).At)) (by kernel_rfl) (x_load1 (by kernel_rfl) Tryd.isAgg3 (k252.2.1.cell' 0 rfl)) ?_)
              by_cases h285 : ((lget h i69).At) < (-1099511627776 : Int)
              ·
                replace hp := hp.1 h285
                refine sq (o_pv (.bool true) (by kernel_rfl) (x_dt (p := ((lget h i69).At) < (-1099511627776 : Int)) (by kernel_rfl) h285) ?_)
                refine sq (o_pv (.bool true) rfl (by kernel_rfl) ?_)
                refine sq (o_pv (.bool true) rfl (by kernel_rfl) ?_)
                refine sq (o_not (by kernel_rfl) ?_)
                refine sq (o_not (by kernel_rfl) ?_)
                refine sq (o_not (by kernel_rfl) ?_)
                refine sq (o_pv (.bool true) rfl (by kernel_rfl) ?_)
                refine sq (o_pv (.bool true) rfl (by kernel_rfl) ?_)
                refine sq (o_not (by kernel_rfl) ?_)
                refine sq (o_not (by kernel_rfl) ?_)
                refine sq (o_not (by kernel_rfl) ?_)
                refine sq (o_pv (.bool true) rfl (by kernel_rfl) ?_)
                refine sq (o_pv (.bool true) rfl (by kernel_rfl) ?_)
                refine sq (o_not (by kernel_rfl) ?_)
                refine sq (o_not (by kernel_rfl) ?_)
                refine sq (o_not (by kernel_rfl) ?_)
                refine sq (o_pv (.bool true) rfl (by kernel_rfl) ?_)
                refine nil_ ?_
                refine then_normal (hJ265 _ _ _ ⟨[(56, (.bool true))], fit_mk (fun _ _ => rfl) (by kernel_rfl) (vs_cons (by kernel_rfl) vs_nil), ?_⟩)
                exact ⟨X245, true, rfl, E267, hXo268, hS269, gv270, gv271, ha272, hh273, heLines274, k252, hp⟩
              ·
                replace hp := hp.2 h285
                refine sq (o_pv (.bool false) (by kernel_rfl) (x_df (p := ((lget h i69).At) < (-1099511627776 : Int)) (by kernel_rfl) h285) ?_)
                refine sq (o_pv (.bool false) rfl (by kernel_rfl) ?_)
                refine sq (o_pv (.bool false) rfl (by kernel_rfl) ?_)
                refine sq (o_pv (.pointer (some ⟨b243, 0, none⟩)) (by kernel_rfl) (by kernel_rfl) ?_)
                refine sq (o_pv (.int .i64 ((lget h i69).At)) (by kernel_rfl) (x_load1 (by kernel_rfl) Tryd.isAgg3 (k252.2.1.cell' 0 rfl)) ?_)
                by_cases h286 : ((lget h i69).At) > (1099511627776 : Int)
                ·
                  replace hp := hp.1 h286
                  refine sq (o_pv (.bool true) (by kernel_rfl) (x_dt (p := ((lget h i69).At) > (1099511627776 : Int)) (by kernel_rfl) h286) ?_)
                  refine sq (o_pv (.bool true) rfl (by kernel_rfl) ?_)
                  refine sq (o_pv (.bool true) rfl (by kernel_rfl) ?_)
                  refine sq (o_not (by kernel_rfl) ?_)
                  refine sq (o_not (by kernel_rfl) ?_)
                  refine sq (o_not (by kernel_rfl) ?_)
                  refine sq (o_pv (.bool true) rfl (by kernel_rfl) ?_)
                  refine sq (o_pv (.bool true) rfl (by kernel_rfl) ?_)
                  refine sq (o_not (by kernel_rfl) ?_)
                  refine sq (o_not (by kernel_rfl) ?_)
                  refine sq (o_not (by kernel_rfl) ?_)
                  refine sq (o_pv (.bool true) rfl (by kernel_rfl) ?_)
                  refine nil_ ?_
                  refine then_normal (hJ265 _ _ _ ⟨[(56, (.bool true))], fit_mk (fun _ _ => rfl) (by kernel_rfl) (vs_cons (by kernel_rfl) vs_nil), ?_⟩)
                  exact ⟨X245, true, rfl, E267, hXo268, hS269, gv270, gv271, ha272, hh273, heLines274, k252, hp⟩
                ·
                  replace hp := hp.2 h286
                  refine sq (o_pv (.bool false) (by kernel_rfl) (x_df (p := ((lget h i69).At) > (1099511627776 : Int)) (by kernel_rfl) h286) ?_)
                  refine sq (o_pv (.bool false) rfl (by kernel_rfl) ?_)
                  refine sq (o_pv (.bool false) rfl (by kernel_rfl) ?_)
                  refine sq (o_pv (.pointer (some ⟨b243, 2, none⟩)) (by kernel_rfl) (by kernel_rfl) ?_)
                  refine sq (o_pv (.int .i64 ((lget h i69).To)) (by kernel_rfl) (x_load1 (by kernel_rfl) Tryd.isAgg3 (k252.2.1.cell' 2 rfl)) ?_)
                  by_cases h287 : ((lget h i69).To) < (-1099511627776 : Int)
                  ·
                    replace hp := hp.1 h287
                    refine sq (o_pv (.bool true) (by kernel_rfl) (x_dt (p := ((lget h i69).To) < (-1099511627776 : Int)) (by kernel_rfl) h287) ?_)
                    refine sq (o_pv (.bool true) rfl (by kernel_rfl) ?_)
                    refine sq (o_pv (.bool true) rfl (by kernel_rfl) ?_)
                    refine sq (o_not (by kernel_rfl) ?_)
                    refine sq (o_not (by kernel_rfl) ?_)
                    refine sq (o_not (by kernel_rfl) ?_)
                    refine sq (o_pv (.bool true) rfl (by kernel_rfl) ?_)
                    refine nil_ ?_
                    refine then_normal (hJ265 _ _ _ ⟨[(56, (.bool true))], fit_mk (fun _ _ => rfl) (by kernel_rfl) (vs_cons (by kernel_rfl) vs_nil), ?_⟩)
                    exact ⟨X245, true, rfl, E267, hXo268, hS269, gv270, gv271, ha272, hh273, heLines274, k252, hp⟩
                  ·
                    replace hp := hp.2 h287
                    refine sq (o_pv (.bool false) (by kernel_rfl) (x_df (p := ((lget h i69).To) < (-1099511627776 : Int)) (by kernel_rfl) h287) ?_)
                    refine sq (o_pv (.bool false) rfl (by kernel_rfl) ?_)
                    refine sq (o_pv (.bool false) rfl (by kernel_rfl) ?_)
                    refine sq (o_pv (.pointer (some ⟨b243, 2, none⟩)) (by kernel_rfl) (by kernel_rfl) ?_)
                    refine sq (o_pv (.int .i64 ((lget h i69).To)) (by kernel_rfl) (x_load1 (by kernel_rfl) Tryd.isAgg3 (k252.2.1.cell' 2 rfl)) ?_)
                    refine sq (o_pv (.bool (decide (((lget h i69).To) > (1099511627776 : Int)))) (by kernel_rfl) (by kernel_rfl) ?_)
                    refine sq (o_pv (.bool (decide (((lget h i69).To) > (1099511627776 : Int)))) rfl (by kernel_rfl) ?_)
                    refine nil_ ?_
                    refine then_normal (hJ265 _ _ _ ⟨[(56, (.bool (decide (((lget h i69).To) > (1099511627776 : Int)))))], fit_mk (fun _ _ => rfl) (by kernel_rfl) (vs_cons (by kernel_rfl) vs_nil), ?_⟩)
                    exact ⟨X245, (decide (((lget h i69).To) > (1099511627776 : Int))), rfl, E267, hXo268, hS269, gv270, gv271, ha272, hh273, heLines274, k252, hp⟩
          ·
            rintro _ w262 g288 ⟨X263, s259, rfl, E275, hXo276, hS277, gv278, gv279, ha280, hh281, heLines282, k283, hv266⟩
            replace hp := hk261 s259 hv266
            refine then_normal (K254 _ _ _ _ ?_)
            refine cond_b s259 (by kernel_rfl) (fun h289 => ?_) (fun h289 => ?_)
            ·
              replace hp := hp.1 h289
              refine seq_ (fun _ K290 => ?_)
              refine reg_ ?_
              refine sq (o_pv (.bool true) rfl (by kernel_rfl) ?_)
              refine nil_ ?_
              refine then_normal (K290 _ _ _ _ ?_)
              refine wp_ret ?_
              refine then_ret ?_
              refine blk_ret ?_
              refine then_ret ?_
              refine then_ret ?_
              refine blk_ret ?_
              refine then_ret ?_
              refine end_ret hQ (.bool true) (by kernel_rfl) ?_
              exact ⟨true, hp, E275, rfl⟩
            ·
              replace hp := hp.2 h289
              refine wp_skip ?_
              refine then_normal (K253 _ _ _ _ ?_)
              refine seq_ (fun _ K291 => ?_)
              refine reg_ ?_
              refine sq (o_pv (.int .i64 (0 : Int)) rfl (by kernel_rfl) ?_)
              refine nil_ ?_
              refine then_normal (K291 _ _ _ _ ?_)
              refine wp_block ?_
              obtain ⟨I315, m316, hI317, hp⟩ := hp
              refine loop_ 4722222367681569357968 (fun kq lq w319 => ∃ (X320 : List Nat) (k292 : Int), (lq = [(7, (.int .i64 k292))]) ∧ (kq = m316 k292) ∧ (Evo [] w w319) ∧ (Old X320 w319) ∧ (Sub X X320) ∧ (GV X320 w319 0 [(.iface 202 (.agg #[typeHandle Tryd.prog 26]))]) ∧ (GV X320 w319 1 (Lib.pow10Tab.map (Value.int .u64))) ∧ (Sl rStr X320 w319 aa1 ca2 a) ∧ (Sl r_patch_Hunk X320 w319 ah4 ch5 h) ∧ (Sl r_diff_Edit X320 w319 aeLines240 ceLines241 ((lget h i69).Lines)) ∧ (OB ([]) w.heap.size X320 w319 b243 [(.int .i64 ((lget h i69).At)), (.int .i64 ((lget h i69).Del)), (.int .i64 ((lget h i69).To)), (.int .i64 ((lget h i69).Add)), (.slice aeLines240 (((lget h i69).Lines).length) ceLines241)] 62) ∧ (inR .i64 k292) ∧ (I315 k292)) (m316 (0 : Int)) [(7, (.int .i64 (0 : Int)))] (vs_cons (by kernel_rfl) vs_nil) ⟨X263, (0 : Int), rfl, rfl, E275, hXo276, hS277, gv278, gv279, ha280, hh281, heLines282, k283, (by decide), hI317⟩ ?_
              rintro _ _ w319 g322 ⟨X320, k292, rfl, rfl, E325, hXo326, hS327, gv328, gv329, ha330, hh331, heLines332, k333, rk293, hI318⟩ Kl323 hA324
              replace hp := hp k292 hI318 rk293
              refine seq_ (fun _ K334 => ?_)
              refine seq_ (fun _ K335 => ?_)
              refine reg_ ?_
              refine sq (o_pv (.int .i64 k292) rfl (by kernel_rfl) ?_)
              refine sq (o_pv (.pointer (some ⟨b243, 4, none⟩)) rfl (by kernel_rfl) ?_)
              refine sq (o_pv (.slice aeLines240 (((lget h i69).Lines).length) ceLines241) rfl (x_load1 (by kernel_rfl) Tryd.isAgg46 (k333.2.1.cell' 4 rfl)) ?_)
              refine sq (o_pv (.int .i64 (((lget h i69).Lines).length : Int)) rfl (by kernel_rfl) ?_)
              refine sq (o_pv (.bool (decide (k292 < (((lget h i69).Lines).length : Int)))) rfl (by kernel_rfl) ?_)
              refine nil_ ?_
              refine then_normal (K335 _ _ _ _ ?_)
              refine cond_d (k292 < (((lget h i69).Lines).length : Int)) (by kernel_rfl) (fun h336 => ?_) (fun h336 => ?_)
              ·
                replace hp := hp.1 h336
                refine wp_skip ?_
                refine then_normal (K334 _ _ _ _ ?_)
                refine seq_ (fun _ K337 => ?_)
                refine wp_block ?_
                refine seq_ (fun _ K338 => ?_)
                refine reg_ ?_
                refine sq (o_pv (.pointer (some ⟨b243, 4, none⟩)) rfl (by kernel_rfl) ?_)
                refine sq (o_pv (.slice aeLines240 (((lget h i69).Lines).length) ceLines241) rfl (x_load1 (by kernel_rfl) Tryd.isAgg46 (k333.2.1.cell' 4 rfl)) ?_)
                refine sq (o_pv (.int .i64 k292) rfl (by kernel_rfl) ?_)
                obtain ⟨h339, hp⟩ := hp
                obtain ⟨b340, o341, cs342, ha343, nx344, lt345, ok346, hc347⟩ := Sl.atI heLines332 k292 h339
                obtain ⟨rfl, reOp348, zeLine349⟩ := r_diff_Edit_open ok346
                replace hp := hp reOp348
                replace hp := hp zeLine349
                refine sq (o_pv (.pointer (some ⟨b340, o341 + k292.toNat * 2, none⟩)) rfl (x_ixA (m := ((lget h i69).Lines).length) (c := ceLines241) (k := .i64) (i := k292) Tryd.underlying46 Tryd.sizeOf64 (by rw [← ha343]; kernel_rfl) (by kernel_rfl) h339) ?_)
                refine sq (o_pv (.pointer (some ⟨b340, o341 + k292.toNat * 2 + 1, none⟩)) rfl (by kernel_rfl) ?_)
                refine sq (o_pv (.string ((lget ((lget h i69).Lines) k292).Line)) rfl (x_load1 (by kernel_rfl) Tryd.isAgg9 (hc347 1 _ rfl)) ?_)
                refine sq (o_pv (.int .i64 (((lget ((lget h i69).Lines) k292).Line).size : Int)) rfl (by kernel_rfl) ?_)
                refine sq (o_pv (.bool (decide ((((lget ((lget h i69).Lines) k292).Line).size : Int) > (300 : Int)))) rfl (by kernel_rfl) ?_)
                refine nil_ ?_
                refine then_normal (K338 _ _ _ _ ?_)
                refine cond_d ((((lget ((lget h i69).Lines) k292).Line).size : Int) > (300 : Int)) (by kernel_rfl) (fun h350 => ?_) (fun h350 => ?_)
                ·
                  replace hp := hp.1 h350
                  refine seq_ (fun _ K351 => ?_)
                  refine reg_ ?_
                  refine sq (o_pv (.bool true) rfl (by kernel_rfl) ?_)
                  refine nil_ ?_
                  refine then_normal (K351 _ _ _ _ ?_)
                  refine wp_ret ?_
                  refine blk_ret ?_
                  refine then_ret ?_
                  refine then_ret ?_
                  refine blk_ret ?_
                  refine blk_ret ?_
                  refine then_ret ?_
                  refine then_ret ?_
                  refine blk_ret ?_
                  refine then_ret ?_
                  refine end_ret hQ (.bool true) (by kernel_rfl) ?_
                  exact ⟨true, hp, E325, rfl⟩
                ·
                  replace hp := hp.2 h350
                  refine wp_skip ?_
                  refine blk_normal ?_
                  refine then_normal (K337 _ _ _ _ ?_)
                  refine reg_ ?_
                  refine sq (o_pv (.int .i64 k292) rfl (by kernel_rfl) ?_)
                  obtain ⟨h352, hp⟩ := hp
                  refine sq (o_pv (.int .i64 (k292 + (1 : Int))) rfl (x_add2 (k := .i64) (a := k292) (b := (1 : Int)) (k292 + (1 : Int)) (by kernel_rfl) (by kernel_rfl) (wrap_inR h352)) ?_)
                  refine sq (o_pv (.int .i64 (k292 + (1 : Int))) rfl (by kernel_rfl) ?_)
                  refine nil_ ?_
                  refine then_normal (hA324 _ _ _ ⟨_, [(7, (.int .i64 (k292 + (1 : Int))))], hp.2, fit_mk (AgB.mix _ _ _) (by kernel_rfl) (vs_cons (by kernel_rfl) vs_nil), ?_⟩)
                  exact ⟨X320, (k292 + (1 : Int)), rfl, rfl, E325, hXo326, hS327, gv328, gv329, ha330, hh331, heLines332, k333, h352, hp.1⟩
              ·
                replace hp := hp.2 h336
                refine wp_exit ?_
                refine then_exit ?_
                refine then_exit ?_
                refine blk_exit ?_
                refine blk_normal ?_
                refine then_normal (K225 _ _ _ _ ?_)
                refine reg_ ?_
                refine sq (o_pv (.int .i64 i69) rfl (by kernel_rfl) ?_)
                obtain ⟨h353, hp⟩ := hp
                refine sq (o_pv (.int .i64 (i69 + (1 : Int))) rfl (x_add2 (k := .i64) (a := i69) (b := (1 : Int)) (i69 + (1 : Int)) (by kernel_rfl) (by kernel_rfl) (wrap_inR h353)) ?_)
                refine sq (o_pv (.int .i64 (i69 + (1 : Int))) rfl (by kernel_rfl) ?_)
                refine nil_ ?_
                refine then_normal (hA214 _ _ _ ⟨_, [(5, (.int .i64 (i69 + (1 : Int))))], hp.2, fit_mk (AgB.nest (AgB.nest (AgB.look (AgB.mix _ _ _) (by kernel_rfl)) (by kernel_rfl) (by kernel_rfl)) (by kernel_rfl) (by kernel_rfl)) (by kernel_rfl) (vs_cons (by kernel_rfl) vs_nil), ?_⟩)
                exact ⟨X320, (i69 + (1 : Int)), rfl, rfl, E325, hXo326, hS327, gv328, gv329, ha330, hh331, h353, hp.1⟩
        ·
          replace hp := hp.2 h224
          refine wp_exit ?_
          refine then_exit ?_
          refine then_exit ?_
          refine blk_exit ?_
          refine then_normal (K67 _ _ _ _ ?_)
          refine seq_ (fun _ K354 => ?_)
          refine reg_ ?_
          refine sq (o_rowX (R := rStr) [] ([] : List ByteArray) 9 0 (X := X210) (B := w.heap.size) E215.size rfl (by kernel_rfl) Flat.nil rfl (by decide) ?_)
          intro b355 w356 X357 s358 O359 n360
          refine sq (o_pv (.slice aa1 a.length ca2) rfl (by kernel_rfl) ?_)
          obtain ⟨h361, hp⟩ := hp
          have ha362 := (Sl.step ha220 s358)
          have E363 := (Evo.then0 E215 (Step.evo s358))
          refine sq (o_appX (R := rStr) (X := X357) (B := w.heap.size) (L := ([] : List ByteArray)) (M := a) rfl elT39 rfl E363.size O359 (Sl.src ha362) rfl (by kernel_rfl) (by kernel_rfl) (by simpa using h361) ?_)
          intro a364 n365 c366 w367 X368 s369 O370 gr371
          rw [List.nil_append] at O370
          refine sq (o_pv (.slice a364 n365 c366) rfl (by kernel_rfl) ?_)
          refine nil_ ?_
          refine then_normal (K354 _ _ _ _ ?_)
          refine seq_ (fun _ K372 => ?_)
          refine reg_ ?_
          refine sq (o_pv (.slice aa1 a.length ca2) rfl (by kernel_rfl) ?_)
          refine sq (o_pv (.slice ah4 h.length ch5) rfl (by kernel_rfl) ?_)
          have ha373 := (Sl.step ha362 s369)
          have hh374 := (Sl.step (Sl.step hh221 s358) s369)
          have hXo375 := (Old.step (Old.step hXo216 s358) s369)
          refine sq (o_call 28 #[(.slice aa1 a.length ca2), (.slice ah4 h.length ch5)] rfl (x_call Tryd.call28 (by kernel_rfl)) (patch_Apply_w (X := X368) (a := a) (h := h) hXo375 ha373 hh374 hp) ?_)
          rintro _ w378 ⟨r376, r377, hp, e379, ar381, cr382, vr384, rfl, hr383, hr385⟩
          have s380 := Step.of0 X368 e379
          replace hp := hp (Sl.len hr383)
          refine sq (o_pv (.tuple #[(.slice ar381 r376.length cr382), vr384]) rfl (by kernel_rfl) ?_)
          refine sq (o_pv (.slice ar381 r376.length cr382) rfl (by kernel_rfl) ?_)
          refine sq (o_pv vr384 rfl (by kernel_rfl) ?_)
          refine sq (o_pv (.slice ar381 r376.length cr382) rfl (by kernel_rfl) ?_)
          refine sq (o_pv vr384 rfl (by kernel_rfl) ?_)
          refine nil_ ?_
          refine then_normal (K372 _ _ _ _ ?_)
          refine seq_ (fun _ K386 => ?_)
          refine reg_ ?_
          refine sq (o_pv (.slice aa1 a.length ca2) rfl (by kernel_rfl) ?_)
          refine sq (o_pv (.slice ah4 h.length ch5) rfl (by kernel_rfl) ?_)
          have hh387 := (Sl.step hh374 s380)
          have hXo388 := (Old.step hXo375 s380)
          refine sq (o_call 31 #[(.slice ah4 h.length ch5)] rfl (x_call Tryd.call31 (by kernel_rfl)) (rectolaw12_Of_w (X := X368) (h := h) hXo388 hh387 hp) ?_)
          rintro _ w390 ⟨r389, hp, e391, ar393, cr394, rfl, hr395⟩
          have s392 := Step.of0 X368 e391
          replace hp := hp (Sl.len hr395)
          have ha396 := (Sl.step (Sl.step ha373 s380) s392)
          have hXo397 := (Old.step hXo388 s392)
          refine sq (o_call 30 #[(.slice aa1 a.length ca2), (.slice ar393 r389.length cr394)] rfl (x_call Tryd.call30 (by kernel_rfl)) (rectoref11_Apply_w (X := X368) (a := a) (h := r389) hXo397 ha396 hr395 hp) ?_)
          rintro _ w400 ⟨r398, r399, hp, e401, ar403, cr404, arParts406, crParts407, rfl, hr405, hrParts408, rrErr409⟩
          have s402 := Step.of0 X368 e401
          replace hp := hp (Sl.len hr405)
          replace hp := hp (Sl.len hrParts408)
          replace hp := hp rrErr409
          refine sq (o_pv (.tuple #[(.slice ar403 r398.length cr404), (.agg #[(.slice arParts406 r399.Parts.length crParts407), (.int .i64 r399.Err)])]) rfl (by kernel_rfl) ?_)
          refine sq (o_pv (.slice ar403 r398.length cr404) rfl (by kernel_rfl) ?_)
          refine sq (o_pv (.agg #[(.slice arParts406 r399.Parts.length crParts407), (.int .i64 r399.Err)]) rfl (by kernel_rfl) ?_)
          have O416 := (OS.step0 (OS.step0 (OS.step0 O370 s380) s392) s402)
          have E417 := (Evo.then0 (Evo.then0 (Evo.then0 (Evo.thenW E363 (Step.evo s369) O359.2.2) e379) e391) e401)
          refine sq (o_newX [(.slice none 0 0), (.int .i64 (0 : Int))] 34 (X := X368) (B := w.heap.size) E417.size rfl (by kernel_rfl) ?_)
          intro b410 w411 X412 s413 k414 n415
          have p418 := n415 _ (OS.old O416)
          refine sq (o_pv (.slice ar403 r398.length cr404) rfl (by kernel_rfl) ?_)
          have O419 := (OS.step0 O416 s413)
          have E420 := (Evo.then0 E417 (Step.evo s413))
          refine sq (o_stB (o := 0) (v := (.agg #[(.slice arParts406 r399.Parts.length crParts407), (.int .i64 r399.Err)])) [(.slice arParts406 r399.Parts.length crParts407), (.int .i64 r399.Err)] rfl k414 (by kernel_rfl) (by kernel_rfl) Tryd.sizeOf34 rfl rfl rfl ?_)
          intro w421 s422 k423
          refine nil_ ?_
          refine then_normal (K386 _ _ _ _ ?_)
          refine seq_ (fun _ K424 => ?_)
          have E453 := (Evo.thenW E420 (Step.evo s422) k414.2.2)
          have hXo454 := (Old.step (Old.step (Old.step hXo397 s402) s413) s422)
          have hS455 := (Sub.trans (Sub.trans (Sub.trans (Sub.trans (Sub.trans (Sub.trans (Sub.trans hS217 (Step.up s358)) (Step.up s369)) (Step.up s380)) (Step.up s392)) (Step.up s402)) (Step.up s413)) (Step.up s422))
          have gv456 := (GV.step (GV.step (GV.step (GV.step (GV.step (GV.step (GV.step gv218 s358) s369) s380) s392) s402) s413) s422)
          have gv457 := (GV.step (GV.step (GV.step (GV.step (GV.step (GV.step (GV.step gv219 s358) s369) s380) s392) s402) s413) s422)
          have ha458 := (Sl.step (Sl.step (Sl.step ha396 s402) s413) s422)
          have hh459 := (Sl.step (Sl.step (Sl.step (Sl.step hh387 s392) s402) s413) s422)
          have O460 := (OS.step O419 s422 p418)
          have hr461 := (Sl.step (Sl.step (Sl.step (Sl.step hr383 s392) s402) s413) s422)
          have hr462 := (Rep.step (rErr 94 115 119) (Rep.step (rErr 94 115 119) (Rep.step (rErr 94 115 119) (Rep.step (rErr 94 115 119) hr385 s392) s402) s413) s422)
          have hr463 := (Sl.step (Sl.step (Sl.step hr395 s402) s413) s422)
          have hr464 := (Sl.step (Sl.step hr405 s413) s422)
          have hrParts465 := (Sl.step (Sl.step hrParts408 s413) s422)
          obtain ⟨k446, hk447, hp⟩ := hp
          refine ground_ ?_
          refine join_ 2534991715446637457924681629712 (fun lq w448 => ∃ (X449 : List Nat) (s445 : Bool), (lq = [(4, (.bool s445))]) ∧ (Evo [] w w448) ∧ (Old X449 w448) ∧ (Sub X X449) ∧ (GV X449 w448 0 [(.iface 202 (.agg #[typeHandle Tryd.prog 26]))]) ∧ (GV X449 w448 1 (Lib.pow10Tab.map (Value.int .u64))) ∧ (k446 s445)) (fun Kj450 hJ451 => ?_) ?_
          ·
            refine reg_ ?_
            refine sq (o_pv vr384 rfl (by kernel_rfl) ?_)
            refine sq (o_pv (.agg #[(.slice arParts406 r399.Parts.length crParts407), (.int .i64 r399.Err)]) rfl (x_loadN [(.slice arParts406 r399.Parts.length crParts407), (.int .i64 r399.Err)] (by kernel_rfl) Tryd.isAgg34 Tryd.sizeOf34 (k423.2.1.cells' 0 rfl)) ?_)
            refine sq (o_call 15 #[vr384, (.agg #[(.slice arParts406 r399.Parts.length crParts407), (.int .i64 r399.Err)])] rfl (x_call Tryd.call15 (by kernel_rfl)) (rectolaw2_Tells_w (X := []) (err := r377) (w_ := r399) (Old.nil _) (Rep.less (rErr 94 115 119) hr462 (Sub.nil _)) (Sl.less hrParts465 (Sub.nil _)) rrErr409 (GV.less gv456 (Sub.nil _)) (GV.less gv457 (Sub.nil _)) hp) ?_)
            rintro _ w472 ⟨r471, hp, e473, rfl⟩
            have s474 := Step.of0 X412 e473
            cases r471
            ·
              replace hp := hp.2 rfl
              refine sq (o_pv (.bool false) rfl (by kernel_rfl) ?_)
              refine sq (o_not (by kernel_rfl) ?_)
              refine sq (o_not (by kernel_rfl) ?_)
              refine sq (o_not (by kernel_rfl) ?_)
              refine sq (o_pv (.bool false) rfl (by kernel_rfl) ?_)
              refine sq (o_pv (.bool false) rfl (by kernel_rfl) ?_)
              refine sq (o_not (by kernel_rfl) ?_)
              refine sq (o_not (by kernel_rfl) ?_)
              refine sq (o_not (by kernel_rfl) ?_)
              refine sq (o_pv (.bool false) rfl (by kernel_rfl) ?_)
              refine sq (o_pv (.bool false) rfl (by kernel_rfl) ?_)
              refine nil_ ?_
              have E475 := (Evo.then0 E453 e473)
              have hXo476 := (Old.step hXo454 s474)
              have hS477 := (Sub.trans hS455 (Step.up s474))
              have gv478 := (GV.step gv456 s474)
              have gv479 := (GV.step gv457 s474)
              refine then_normal (hJ451 _ _ _ ⟨[(4, (.bool false))], fit_mk (fun _ _ => rfl) (by kernel_rfl) (vs_cons (by kernel_rfl) vs_nil), ?_⟩)
              exact ⟨X412, false, rfl, E475, hXo476, hS477, gv478, gv479, hp⟩
            ·
              replace hp := hp.1 rfl
              refine sq (o_pv (.bool true) rfl (by kernel_rfl) ?_)
              refine sq (o_pv (.slice ar381 r376.length cr382) (by kernel_rfl) (by kernel_rfl) ?_)
              refine sq (o_pv (.slice ar403 r398.length cr404) (by kernel_rfl) (by kernel_rfl) ?_)
              have hr480 := (Sl.step hr461 s474)
              have hr481 := (Sl.step hr464 s474)
              refine sq (o_call 29 #[(.slice ar381 r376.length cr382), (.slice ar403 r398.length cr404)] (by kernel_rfl) (x_call Tryd.call29 (by kernel_rfl)) (rectoref11_Equal_w (X := []) (a := r376) (b := r398) (Old.nil _) (Sl.less hr480 (Sub.nil _)) (Sl.less hr481 (Sub.nil _)) hp) ?_)
              rintro _ w483 ⟨r482, hp, e484, rfl⟩
              have s485 := Step.of0 X412 e484
              cases r482
              ·
                replace hp := hp.2 rfl
                refine sq (o_pv (.bool false) rfl (by kernel_rfl) ?_)
                refine sq (o_pv (.bool false) rfl (by kernel_rfl) ?_)
                refine sq (o_not (by kernel_rfl) ?_)
                refine sq (o_not (by kernel_rfl) ?_)
                refine sq (o_not (by kernel_rfl) ?_)
                refine sq (o_pv (.bool false) rfl (by kernel_rfl) ?_)
                refine sq (o_pv (.bool false) rfl (by kernel_rfl) ?_)
                refine nil_ ?_
                have E486 := (Evo.then0 (Evo.then0 E453 e473) e484)
                have hXo487 := (Old.step (Old.step hXo454 s474) s485)
                have hS488 := (Sub.trans (Sub.trans hS455 (Step.up s474)) (Step.up s485))
                have gv489 := (GV.step (GV.step gv456 s474) s485)
                have gv490 := (GV.step (GV.step gv457 s474) s485)
                refine then_normal (hJ451 _ _ _ ⟨[(4, (.bool false))], fit_mk (fun _ _ => rfl) (by kernel_rfl) (vs_cons (by kernel_rfl) vs_nil), ?_⟩)
                exact ⟨X412, false, rfl, E486, hXo487, hS488, gv489, gv490, hp⟩
              ·
                replace hp := hp.1 rfl
                refine sq (o_pv (.bool true) rfl (by kernel_rfl) ?_)
                refine sq (o_pv (.bool true) rfl (by kernel_rfl) ?_)
                refine sq (o_pv (.slice aa1 a.length ca2) (by kernel_rfl) (by kernel_rfl) ?_)
                refine sq (o_pv (.slice a364 n365 c366) (by kernel_rfl) (by kernel_rfl) ?_)
                have ha491 := (Sl.step (Sl.step ha458 s474) s485)
                have O492 := (OS.step0 (OS.step0 O460 s474) s485)
                refine sq (o_call 29 #[(.slice aa1 a.length ca2), (.slice a364 a.length c366)] (by kernel_rfl) (x_call Tryd.call29 (by rw [← show n365 = a.length from O492.1]; kernel_rfl)) (rectoref11_Equal_w (X := []) (a := a) (b := a) (Old.nil _) (Sl.less ha491 (Sub.nil _)) (OS.rd O492) hp) ?_)
                rintro _ w494 ⟨r493, hp, e495, rfl⟩
                have s496 := Step.of0 X412 e495
                refine sq (o_pv (.bool r493) rfl (by kernel_rfl) ?_)
                refine sq (o_pv (.bool r493) rfl (by kernel_rfl) ?_)
                refine nil_ ?_
                have E497 := (Evo.then0 (Evo.then0 (Evo.then0 E453 e473) e484) e495)
                have hXo498 := (Old.step (Old.step (Old.step hXo454 s474) s485) s496)
                have hS499 := (Sub.trans (Sub.trans (Sub.trans hS455 (Step.up s474)) (Step.up s485)) (Step.up s496))
                have gv500 := (GV.step (GV.step (GV.step gv456 s474) s485) s496)
                have gv501 := (GV.step (GV.step (GV.step gv457 s474) s485) s496)
                refine then_normal (hJ451 _ _ _ ⟨[(4, (.bool r493))], fit_mk (fun _ _ => rfl) (by kernel_rfl) (vs_cons (by kernel_rfl) vs_nil), ?_⟩)
                exact ⟨X412, r493, rfl, E497, hXo498, hS499, gv500, gv501, hp⟩
          ·
            rintro _ w448 g502 ⟨X449, s445, rfl, E466, hXo467, hS468, gv469, gv470, hv452⟩
            replace hp := hk447 s445 hv452
            refine then_normal (K424 _ _ _ _ ?_)
            refine wp_ret ?_
            refine end_ret hQ (.bool s445) (by kernel_rfl) ?_
            exact ⟨s445, hp, E466, rfl⟩

end Go.Proofs.YtjejeipdndddpaaDoor
