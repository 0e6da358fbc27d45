/- Walks of functions: what each asks and computes, as a plain predicate, and the contract from it. -/
import Derived.Test.YtjejeipdndddpaaChecked
import Derived.Test.YtjejeipdndddpaaSh5
namespace Go.Proofs.Ytjejeipdndddpaa
open Go


def rectolaw2_ShaAgain_p (b : (List Int)) (Q : Bool → Prop) : Prop :=
  ((b.length ≤ 9223372036854775807) → (rectolaw2_known_p  (fun (r7 : Bool) => ((((!r7) = true) → Q false) ∧ (((!r7) = false) → ((((b.length : Int) > (300 : Int)) → Q true) ∧ ((¬ ((b.length : Int) > (300 : Int))) → ((∀ y ∈ b, inR .u8 y) → (sha_Sum_p b (fun (r23 : (List Int)) => ((okArr .u8 32 r23) → (sha_Sum_p (bytesL (strOfNums b)) (fun (r46 : (List Int)) => ((okArr .u8 32 r46) → (∃ k103 : Bool → Prop, (∀ (s102 : Bool), k103 s102 → Q s102) ∧ ((((r23 : List Int) = r46) → ((∀ y ∈ b, inR .u8 y) → ((((strOfNums b : ByteArray) = strOfNums b) → (sha_ID_String_p r23 (fun (r122 : ByteArray) => ((r122.size ≤ maxLen) → ((((r122.size : Int) = (64 : Int)) → (sha_Shared_p r23 r46 (fun (r130 : Int) => ((inR .i64 r130) → (((r130 = (64 : Int)) → (sha_Short_p ([r23, r46]) r23 (0 : Int) (fun (r148 : Int) => ((inR .i64 r148) → (k103 (decide (r148 = (0 : Int)))))))) ∧ ((¬ (r130 = (64 : Int))) → (k103 false))))))) ∧ ((¬ ((r122.size : Int) = (64 : Int))) → (k103 false))))))) ∧ ((¬ ((strOfNums b : ByteArray) = strOfNums b)) → (k103 false))))) ∧ ((¬ ((r23 : List Int) = r46)) → (k103 false))))))))))))))))))
set_option maxRecDepth 20000 in
set_option maxHeartbeats 4000000 in
theorem rectolaw2_ShaAgain_w {X : List Nat} {w : World} {b : (List Int)} {ab1 : Option Addr} {cb2 : Nat} {Q : Bool → Prop} (hX0 : Old X w) (hb3 : Sl (rInt .u8) X w ab1 cb2 b) (hp : rectolaw2_ShaAgain_p b Q) :
    Calls Try.prog 5 #[(.slice ab1 b.length cb2)] w (Ret fun v w' => ∃ (r0 : Bool), Q r0 ∧ Evo [] w w' ∧ v = (.bool r0)) := by
  have hXo := hX0
  have E0 : Evo [] w w := RB.refl _ _ _
  have hS : Sub X X := Sub.refl _
  unfold rectolaw2_ShaAgain_p at hp
  refine enter_ Try.func5 rfl 47 [(0, (.slice ab1 b.length cb2))] (by kernel_rfl) (fun Qe hQ => ?_)
  replace hp := hp (Sl.len hb3)
  refine seq_ (fun _ K4 => ?_)
  refine reg_ ?_
  refine sq (o_pv (.bool false) rfl (by kernel_rfl) ?_)
  refine nil_ ?_
  refine then_normal (K4 _ _ _ _ ?_)
  refine seq_ (fun _ K5 => ?_)
  refine seq_ (fun _ K6 => ?_)
  refine reg_ ?_
  refine sq (o_call 7 #[] rfl (x_call Try.call7 (by kernel_rfl)) (rectolaw2_known_w (X := [])  (Old.nil _) hp) ?_)
  rintro _ w8 ⟨r7, hp, e9, rfl⟩
  have s10 := Step.of0 X e9
  refine sq (o_pv (.bool (!r7)) rfl (by kernel_rfl) ?_)
  refine nil_ ?_
  refine then_normal (K6 _ _ _ _ ?_)
  refine cond_b (!r7) (by kernel_rfl) (fun h11 => ?_) (fun h11 => ?_)
  ·
    replace hp := hp.1 h11
    refine seq_ (fun _ K12 => ?_)
    refine reg_ ?_
    refine sq (o_pv (.bool false) rfl (by kernel_rfl) ?_)
    refine nil_ ?_
    refine then_normal (K12 _ _ _ _ ?_)
    refine wp_ret ?_
    refine then_ret ?_
    have E13 := (Evo.then0 E0 e9)
    refine end_ret hQ (.bool false) (by kernel_rfl) ?_
    exact ⟨false, hp, E13, rfl⟩
  ·
    replace hp := hp.2 h11
    refine wp_skip ?_
    refine then_normal (K5 _ _ _ _ ?_)
    refine seq_ (fun _ K14 => ?_)
    refine seq_ (fun _ K15 => ?_)
    refine reg_ ?_
    refine sq (o_pv (.slice ab1 b.length cb2) rfl (by kernel_rfl) ?_)
    refine sq (o_pv (.int .i64 (b.length : Int)) rfl (by kernel_rfl) ?_)
    refine sq (o_pv (.bool (decide ((b.length : Int) > (300 : Int)))) rfl (by kernel_rfl) ?_)
    refine nil_ ?_
    refine then_normal (K15 _ _ _ _ ?_)
    refine cond_d ((b.length : Int) > (300 : Int)) (by kernel_rfl) (fun h16 => ?_) (fun h16 => ?_)
    ·
      replace hp := hp.1 h16
      refine seq_ (fun _ K17 => ?_)
      refine reg_ ?_
      refine sq (o_pv (.bool true) rfl (by kernel_rfl) ?_)
      refine nil_ ?_
      refine then_normal (K17 _ _ _ _ ?_)
      refine wp_ret ?_
      refine then_ret ?_
      have E18 := (Evo.then0 E0 e9)
      refine end_ret hQ (.bool true) (by kernel_rfl) ?_
      exact ⟨true, hp, E18, rfl⟩
    ·
      replace hp := hp.2 h16
      refine wp_skip ?_
      refine then_normal (K14 _ _ _ _ ?_)
      refine seq_ (fun _ K19 => ?_)
      refine reg_ ?_
      refine sq (o_pv (.slice ab1 b.length cb2) rfl (by kernel_rfl) ?_)
      have hb21 := (Sl.step hb3 s10)
      have hl20 := Sl.len hb21
      replace hp := hp (Sl.u8s hb21)
      refine sq (o_pv (.string (strOfNums b)) rfl (x_b2s_sl (a := ab1) (len := b.length) (c := cb2) b Try.underlying22 Try.underlying5 Try.underlying9 (by kernel_rfl) rfl hb21) ?_)
      refine sq (o_pv (.string (strOfNums b)) rfl (by kernel_rfl) ?_)
      refine nil_ ?_
      refine then_normal (K19 _ _ _ _ ?_)
      refine seq_ (fun _ K22 => ?_)
      refine reg_ ?_
      refine sq (o_pv (.slice ab1 b.length cb2) rfl (by kernel_rfl) ?_)
      refine sq (o_call 8 #[(.slice ab1 b.length cb2)] rfl (x_call Try.call8 (by kernel_rfl)) (sha_Sum_w (X := []) (b := b) (Old.nil _) (Sl.less hb21 (Sub.nil _)) hp) ?_)
      rintro _ w24 ⟨r23, hp, e25, rfl, kr27⟩
      have s26 := Step.of0 X e25
      replace hp := hp kr27
      have E34 := (Evo.then0 (Evo.then0 E0 e9) e25)
      refine sq (o_newX ((List.replicate 32 (0 : Int)).map (Value.int .u8)) 25 (X := X) (B := w.heap.size) E34.size rfl (by kernel_rfl) ?_)
      intro b28 w29 X30 s31 k32 n33
      have E35 := (Evo.then0 E34 (Step.evo s31))
      refine sq (o_stW (k := .u8) (e := (List.replicate 32 (0 : Int))) (e' := r23) rfl k32 (by kernel_rfl) (by kernel_rfl) Try.sizeOf25 (okArr_rep _ _) kr27 ?_)
      intro w36 s37 k38
      refine nil_ ?_
      refine then_normal (K22 _ _ _ _ ?_)
      refine seq_ (fun _ K39 => ?_)
      refine reg_ ?_
      refine sq (o_pv (.string (strOfNums b)) rfl (by kernel_rfl) ?_)
      have hXo45 := (Old.step (Old.step (Old.step (Old.step hXo s10) s26) s31) s37)
      refine sq (o_s2b (X := X30) (sv := (strOfNums b)) hXo45 rfl Try.underlying9 Try.underlying22 Try.underlying5 (by kernel_rfl) (strOfNums_le hl20) ?_)
      intro a40 c41 w42 s43 h44
      refine sq (o_call 8 #[(.slice a40 (bytesL (strOfNums b)).length c41)] rfl (x_call Try.call8 (by rw []; kernel_rfl)) (sha_Sum_w (X := []) (b := bytesL (strOfNums b)) (Old.nil _) (Sl.less h44 (Sub.nil _)) hp) ?_)
      rintro _ w47 ⟨r46, hp, e48, rfl, kr50⟩
      have s49 := Step.of0 X30 e48
      replace hp := hp kr50
      have k57 := (OB.step0 (OB.step0 k38 s43) s49)
      have E58 := (Evo.then0 (Evo.then0 (Evo.thenW E35 (Step.evo s37) k32.2.2) (Step.evo s43)) e48)
      refine sq (o_newX ((List.replicate 32 (0 : Int)).map (Value.int .u8)) 25 (X := X30) (B := w.heap.size) E58.size rfl (by kernel_rfl) ?_)
      intro b51 w52 X53 s54 k55 n56
      have p59 := n56 _ (OB.old k57)
      have k60 := (OB.step0 k57 s54)
      have E61 := (Evo.then0 E58 (Step.evo s54))
      refine sq (o_stW (k := .u8) (e := (List.replicate 32 (0 : Int))) (e' := r46) rfl k55 (by kernel_rfl) (by kernel_rfl) Try.sizeOf25 (okArr_rep _ _) kr50 ?_)
      intro w62 s63 k64
      refine nil_ ?_
      refine then_normal (K39 _ _ _ _ ?_)
      refine seq_ (fun _ K65 => ?_)
      have hb110 := (Sl.step (Sl.step (Sl.step (Sl.step (Sl.step (Sl.step (Sl.step hb21 s26) s31) s37) s43) s49) s54) s63)
      have hXo111 := (Old.step (Old.step (Old.step (Old.step hXo45 s43) s49) s54) s63)
      have E112 := (Evo.thenW E61 (Step.evo s63) k55.2.2)
      have hS113 := (Sub.trans (Sub.trans (Sub.trans (Sub.trans (Sub.trans (Sub.trans (Sub.trans (Sub.trans hS (Step.up s10)) (Step.up s26)) (Step.up s31)) (Step.up s37)) (Step.up s43)) (Step.up s49)) (Step.up s54)) (Step.up s63))
      have k114 := (OB.step k60 s63 p59)
      have h115 := (Sl.step (Sl.step (Sl.step h44 s49) s54) s63)
      obtain ⟨k103, hk104, hp⟩ := hp
      refine ground_ ?_
      refine join_ 140737488093188 (fun lq w105 => ∃ (X106 : List Nat) (s102 : Bool), (lq = [(2, (.bool s102))]) ∧ (Evo [] w w105) ∧ (Old X106 w105) ∧ (Sub X X106) ∧ (k103 s102)) (fun Kj107 hJ108 => ?_) ?_
      ·
        refine reg_ ?_
        refine sq (o_pv (.agg (r23.map (Value.int .u8)).toArray) rfl (x_loadA r23 (by kernel_rfl) Try.isAgg25 Try.sizeOf25 kr27 (Blk.awhole k114.2.1)) ?_)
        refine sq (o_pv (.agg (r46.map (Value.int .u8)).toArray) rfl (x_loadA r46 (by kernel_rfl) Try.isAgg25 Try.sizeOf25 kr50 (Blk.awhole k64.2.1)) ?_)
        by_cases h119 : (r23 : List Int) = r46
        ·
          replace hp := hp.1 h119
          refine sq (o_pv (.bool true) rfl (x_dt (p := (r23 : List Int) = r46) (x_arreq (i := Try.t5) (k := .u8) (xs := r23) (ys := r46) Try.underlying25 Try.underlying5 (by kernel_rfl) (by kernel_rfl) (by kernel_rfl) Try.isAgg5 kr27 kr50 (by kernel_rfl) (by kernel_rfl)) h119) ?_)
          refine sq (o_pv (.bool true) rfl (by kernel_rfl) ?_)
          refine sq (o_pv (.slice ab1 b.length cb2) (by kernel_rfl) (by kernel_rfl) ?_)
          have hl120 := Sl.len hb110
          replace hp := hp (Sl.u8s hb110)
          refine sq (o_pv (.string (strOfNums b)) (by kernel_rfl) (x_b2s_sl (a := ab1) (len := b.length) (c := cb2) b Try.underlying22 Try.underlying5 Try.underlying9 (by kernel_rfl) rfl hb110) ?_)
          refine sq (o_pv (.string (strOfNums b)) (by kernel_rfl) (by kernel_rfl) ?_)
          by_cases h121 : (strOfNums b : ByteArray) = strOfNums b
          ·
            replace hp := hp.1 h121
            refine sq (o_pv (.bool true) (by kernel_rfl) (x_dt (p := (strOfNums b : ByteArray) = strOfNums b) (x_streq (by kernel_rfl) (by kernel_rfl)) h121) ?_)
            refine sq (o_pv (.bool true) rfl (by kernel_rfl) ?_)
            refine sq (o_pv (.bool true) rfl (by kernel_rfl) ?_)
            refine sq (o_pv (.agg (r23.map (Value.int .u8)).toArray) (by kernel_rfl) (x_loadA r23 (by kernel_rfl) Try.isAgg25 Try.sizeOf25 kr27 (Blk.awhole k114.2.1)) ?_)
            refine sq (o_call 10 #[(.agg (r23.map (Value.int .u8)).toArray)] (by kernel_rfl) (x_call Try.call10 (by kernel_rfl)) (sha_ID_String_w (X := []) (id := r23) (Old.nil _) kr27 hp) ?_)
            rintro _ w123 ⟨r122, hp, e124, rfl, zr126⟩
            have s125 := Step.of0 X53 e124
            replace hp := hp zr126
            refine sq (o_pv (.int .i64 (r122.size : Int)) (by kernel_rfl) (by kernel_rfl) ?_)
            by_cases h127 : (r122.size : Int) = (64 : Int)
            ·
              replace hp := hp.1 h127
              refine sq (o_pv (.bool true) (by kernel_rfl) (x_dt (p := (r122.size : Int) = (64 : Int)) (by kernel_rfl) h127) ?_)
              refine sq (o_pv (.bool true) rfl (by kernel_rfl) ?_)
              refine sq (o_pv (.bool true) rfl (by kernel_rfl) ?_)
              have k128 := (OB.step0 k114 s125)
              refine sq (o_pv (.agg (r23.map (Value.int .u8)).toArray) (by kernel_rfl) (x_loadA r23 (by kernel_rfl) Try.isAgg25 Try.sizeOf25 kr27 (Blk.awhole k128.2.1)) ?_)
              have k129 := (OB.step0 k64 s125)
              refine sq (o_pv (.agg (r46.map (Value.int .u8)).toArray) (by kernel_rfl) (x_loadA r46 (by kernel_rfl) Try.isAgg25 Try.sizeOf25 kr50 (Blk.awhole k129.2.1)) ?_)
              refine sq (o_call 13 #[(.agg (r23.map (Value.int .u8)).toArray), (.agg (r46.map (Value.int .u8)).toArray)] (by kernel_rfl) (x_call Try.call13 (by kernel_rfl)) (sha_Shared_w (X := []) (a := r23) (b := r46) (Old.nil _) kr27 kr50 hp) ?_)
              rintro _ w131 ⟨r130, hp, e132, rfl, rr134⟩
              have s133 := Step.of0 X53 e132
              replace hp := hp rr134
              by_cases h135 : r130 = (64 : Int)
              ·
                replace hp := hp.1 h135
                refine sq (o_pv (.bool true) (by kernel_rfl) (x_dt (p := r130 = (64 : Int)) (by kernel_rfl) h135) ?_)
                refine sq (o_pv (.bool true) rfl (by kernel_rfl) ?_)
                refine sq (o_pv (.bool true) rfl (by kernel_rfl) ?_)
                have k136 := (OB.step0 k128 s133)
                refine sq (o_pv (.agg (r23.map (Value.int .u8)).toArray) (by kernel_rfl) (x_loadA r23 (by kernel_rfl) Try.isAgg25 Try.sizeOf25 kr27 (Blk.awhole k136.2.1)) ?_)
                have k137 := (OB.step0 k129 s133)
                refine sq (o_pv (.agg (r46.map (Value.int .u8)).toArray) (by kernel_rfl) (x_loadA r46 (by kernel_rfl) Try.isAgg25 Try.sizeOf25 kr50 (Blk.awhole k137.2.1)) ?_)
                have E144 := (Evo.then0 (Evo.then0 E112 e124) e132)
                refine sq (o_rowX (R := (rArr .u8 32)) (List.flatten [(r23.map (Value.int .u8)), (r46.map (Value.int .u8))]) [r23, r46] 25 2 (X := X53) (B := w.heap.size) E144.size (by kernel_rfl) (x_rowG (bts := 32) (z := .agg (List.replicate 32 (Value.int .u8 0)).toArray) [(r23.map (Value.int .u8)), (r46.map (Value.int .u8))] Try.underlying36 (by kernel_rfl) Try.sizeOf25 (by kernel_rfl) (List.forall_mem_cons.2 ⟨by rw [List.length_map]; exact kr27.1, (List.forall_mem_cons.2 ⟨by rw [List.length_map]; exact kr50.1, (fun _ h => by cases h)⟩)⟩) rfl rfl) (Flat.cons (cs := (r23.map (Value.int .u8))) (rArr_mk kr27) (Flat.cons (cs := (r46.map (Value.int .u8))) (rArr_mk kr50) Flat.nil)) rfl (by decide) ?_)
                intro b138 w139 X140 s141 O142 n143
                have p145 := n143 _ (OB.old k136)
                have p146 := n143 _ (OB.old k137)
                have k147 := (OB.step0 k136 s141)
                refine sq (o_pv (.agg (r23.map (Value.int .u8)).toArray) (by kernel_rfl) (x_loadA r23 (by kernel_rfl) Try.isAgg25 Try.sizeOf25 kr27 (Blk.awhole k147.2.1)) ?_)
                refine sq (o_call 15 #[(.slice (some ⟨b138, 0, none⟩) ([r23, r46]).length 2), (.agg (r23.map (Value.int .u8)).toArray), (.int .i64 (0 : Int))] (by kernel_rfl) (x_call Try.call15 (by rw [← show 2 = ([r23, r46]).length from O142.1]; kernel_rfl)) (sha_Short_w (X := []) (all := [r23, r46]) (id := r23) (least := (0 : Int)) (Old.nil _) (OS.rd O142) kr27 (by decide) hp) ?_)
                rintro _ w149 ⟨r148, hp, e150, rfl, rr152⟩
                have s151 := Step.of0 X140 e150
                replace hp := hp rr152
                refine sq (o_pv (.bool (decide (r148 = (0 : Int)))) (by kernel_rfl) (by kernel_rfl) ?_)
                refine sq (o_pv (.bool (decide (r148 = (0 : Int)))) rfl (by kernel_rfl) ?_)
                refine sq (o_pv (.bool (decide (r148 = (0 : Int)))) rfl (by kernel_rfl) ?_)
                refine nil_ ?_
                have E153 := (Evo.then0 (Evo.then0 E144 (Step.evo s141)) e150)
                have hXo154 := (Old.step (Old.step (Old.step (Old.step hXo111 s125) s133) s141) s151)
                have hS155 := (Sub.trans (Sub.trans (Sub.trans (Sub.trans hS113 (Step.up s125)) (Step.up s133)) (Step.up s141)) (Step.up s151))
                refine then_normal (hJ108 _ _ _ ⟨[(2, (.bool (decide (r148 = (0 : Int)))))], fit_mk (fun _ _ => rfl) (by kernel_rfl) (vs_cons (by kernel_rfl) vs_nil), ?_⟩)
                exact ⟨X140, (decide (r148 = (0 : Int))), rfl, E153, hXo154, hS155, hp⟩
              ·
                replace hp := hp.2 h135
                refine sq (o_pv (.bool false) (by kernel_rfl) (x_df (p := r130 = (64 : Int)) (by kernel_rfl) h135) ?_)
                refine sq (o_pv (.bool false) rfl (by kernel_rfl) ?_)
                refine sq (o_pv (.bool false) rfl (by kernel_rfl) ?_)
                refine sq (o_not (by kernel_rfl) ?_)
                refine sq (o_not (by kernel_rfl) ?_)
                refine sq (o_not (by kernel_rfl) ?_)
                refine sq (o_not (by kernel_rfl) ?_)
                refine sq (o_not (by kernel_rfl) ?_)
                refine sq (o_not (by kernel_rfl) ?_)
                refine sq (o_pv (.bool false) rfl (by kernel_rfl) ?_)
                refine sq (o_pv (.bool false) rfl (by kernel_rfl) ?_)
                refine nil_ ?_
                have E156 := (Evo.then0 (Evo.then0 E112 e124) e132)
                have hXo157 := (Old.step (Old.step hXo111 s125) s133)
                have hS158 := (Sub.trans (Sub.trans hS113 (Step.up s125)) (Step.up s133))
                refine then_normal (hJ108 _ _ _ ⟨[(2, (.bool false))], fit_mk (fun _ _ => rfl) (by kernel_rfl) (vs_cons (by kernel_rfl) vs_nil), ?_⟩)
                exact ⟨X53, false, rfl, E156, hXo157, hS158, hp⟩
            ·
              replace hp := hp.2 h127
              refine sq (o_pv (.bool false) (by kernel_rfl) (x_df (p := (r122.size : Int) = (64 : Int)) (by kernel_rfl) h127) ?_)
              refine sq (o_pv (.bool false) rfl (by kernel_rfl) ?_)
              refine sq (o_pv (.bool false) rfl (by kernel_rfl) ?_)
              refine sq (o_not (by kernel_rfl) ?_)
              refine sq (o_not (by kernel_rfl) ?_)
              refine sq (o_not (by kernel_rfl) ?_)
              refine sq (o_not (by kernel_rfl) ?_)
              refine sq (o_pv (.bool false) rfl (by kernel_rfl) ?_)
              refine sq (o_pv (.bool false) rfl (by kernel_rfl) ?_)
              refine sq (o_not (by kernel_rfl) ?_)
              refine sq (o_not (by kernel_rfl) ?_)
              refine sq (o_not (by kernel_rfl) ?_)
              refine sq (o_not (by kernel_rfl) ?_)
              refine sq (o_not (by kernel_rfl) ?_)
              refine sq (o_not (by kernel_rfl) ?_)
              refine sq (o_pv (.bool false) rfl (by kernel_rfl) ?_)
              refine sq (o_pv (.bool false) rfl (by kernel_rfl) ?_)
              refine nil_ ?_
              have E159 := (Evo.then0 E112 e124)
              have hXo160 := (Old.step hXo111 s125)
              have hS161 := (Sub.trans hS113 (Step.up s125))
              refine then_normal (hJ108 _ _ _ ⟨[(2, (.bool false))], fit_mk (fun _ _ => rfl) (by kernel_rfl) (vs_cons (by kernel_rfl) vs_nil), ?_⟩)
              exact ⟨X53, false, rfl, E159, hXo160, hS161, hp⟩
          ·
            replace hp := hp.2 h121
            refine sq (o_pv (.bool false) (by kernel_rfl) (x_df (p := (strOfNums b : ByteArray) = strOfNums b) (x_streq (by kernel_rfl) (by kernel_rfl)) h121) ?_)
            refine sq (o_pv (.bool false) rfl (by kernel_rfl) ?_)
            refine sq (o_pv (.bool false) rfl (by kernel_rfl) ?_)
            refine sq (o_not (by kernel_rfl) ?_)
            refine sq (o_not (by kernel_rfl) ?_)
            refine sq (o_not (by kernel_rfl) ?_)
            refine sq (o_not (by kernel_rfl) ?_)
            refine sq (o_pv (.bool false) rfl (by kernel_rfl) ?_)
            refine sq (o_pv (.bool false) rfl (by kernel_rfl) ?_)
            refine sq (o_not (by kernel_rfl) ?_)
            refine sq (o_not (by kernel_rfl) ?_)
            refine sq (o_not (by kernel_rfl) ?_)
            refine sq (o_not (by kernel_rfl) ?_)
            refine sq (o_pv (.bool false) rfl (by kernel_rfl) ?_)
            refine sq (o_pv (.bool false) rfl (by kernel_rfl) ?_)
            refine sq (o_not (by kernel_rfl) ?_)
            refine sq (o_not (by kernel_rfl) ?_)
            refine sq (o_not (by kernel_rfl) ?_)
            refine sq (o_not (by kernel_rfl) ?_)
            refine sq (o_not (by kernel_rfl) ?_)
            refine sq (o_not (by kernel_rfl) ?_)
            refine sq (o_pv (.bool false) rfl (by kernel_rfl) ?_)
            refine sq (o_pv (.bool false) rfl (by kernel_rfl) ?_)
            refine nil_ ?_
            refine then_normal (hJ108 _ _ _ ⟨[(2, (.bool false))], fit_mk (fun _ _ => rfl) (by kernel_rfl) (vs_cons (by kernel_rfl) vs_nil), ?_⟩)
            exact ⟨X53, false, rfl, E112, hXo111, hS113, hp⟩
        ·
          replace hp := hp.2 h119
          refine sq (o_pv (.bool false) rfl (x_df (p := (r23 : List Int) = r46) (x_arreq (i := Try.t5) (k := .u8) (xs := r23) (ys := r46) Try.underlying25 Try.underlying5 (by kernel_rfl) (by kernel_rfl) (by kernel_rfl) Try.isAgg5 kr27 kr50 (by kernel_rfl) (by kernel_rfl)) h119) ?_)
          refine sq (o_pv (.bool false) rfl (by kernel_rfl) ?_)
          refine sq (o_not (by kernel_rfl) ?_)
          refine sq (o_not (by kernel_rfl) ?_)
          refine sq (o_not (by kernel_rfl) ?_)
          refine sq (o_not (by kernel_rfl) ?_)
          refine sq (o_pv (.bool false) rfl (by kernel_rfl) ?_)
          refine sq (o_pv (.bool false) rfl (by kernel_rfl) ?_)
          refine sq (o_not (by kernel_rfl) ?_)
          refine sq (o_not (by kernel_rfl) ?_)
          refine sq (o_not (by kernel_rfl) ?_)
          refine sq (o_not (by kernel_rfl) ?_)
          refine sq (o_pv (.bool false) rfl (by kernel_rfl) ?_)
          refine sq (o_pv (.bool false) rfl (by kernel_rfl) ?_)
          refine sq (o_not (by kernel_rfl) ?_)
          refine sq (o_not (by kernel_rfl) ?_)
          refine sq (o_not (by kernel_rfl) ?_)
          refine sq (o_not (by kernel_rfl) ?_)
          refine sq (o_pv (.bool false) rfl (by kernel_rfl) ?_)
          refine sq (o_pv (.bool false) rfl (by kernel_rfl) ?_)
          refine sq (o_not (by kernel_rfl) ?_)
          refine sq (o_not (by kernel_rfl) ?_)
          refine sq (o_not (by kernel_rfl) ?_)
          refine sq (o_not (by kernel_rfl) ?_)
          refine sq (o_not (by kernel_rfl) ?_)
          refine sq (o_not (by kernel_rfl) ?_)
          refine sq (o_pv (.bool false) rfl (by kernel_rfl) ?_)
          refine sq (o_pv (.bool false) rfl (by kernel_rfl) ?_)
          refine nil_ ?_
          refine then_normal (hJ108 _ _ _ ⟨[(2, (.bool false))], fit_mk (fun _ _ => rfl) (by kernel_rfl) (vs_cons (by kernel_rfl) vs_nil), ?_⟩)
          exact ⟨X53, false, rfl, E112, hXo111, hS113, hp⟩
      ·
        rintro _ w105 g162 ⟨X106, s102, rfl, E116, hXo117, hS118, hv109⟩
        replace hp := hk104 s102 hv109
        refine then_normal (K65 _ _ _ _ ?_)
        refine wp_ret ?_
        refine end_ret hQ (.bool s102) (by kernel_rfl) ?_
        exact ⟨s102, hp, E116, rfl⟩

end Go.Proofs.Ytjejeipdndddpaa
