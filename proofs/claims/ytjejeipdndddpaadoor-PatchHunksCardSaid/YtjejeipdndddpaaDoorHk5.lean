/- Walks of functions: what each asks and computes, as a plain predicate, and the contract from it. -/
import Derived.Test.YtjejeipdndddpaaDoorChecked
import Derived.Test.YtjejeipdndddpaaDoorHk4
namespace Go.Proofs.YtjejeipdndddpaaDoor
open Go


def api_Errno_Error_p (e : Int) (Q : ByteArray → Prop) : Prop :=
  ((inR .i64 e) → (((e = (0 : Int)) → Q (ByteArray.mk #[111, 107])) ∧ ((¬ (e = (0 : Int))) → (((e = (1 : Int)) → Q (ByteArray.mk #[97, 114, 103])) ∧ ((¬ (e = (1 : Int))) → (((e = (2 : Int)) → Q (ByteArray.mk #[102, 111, 114, 109])) ∧ ((¬ (e = (2 : Int))) → (((e = (3 : Int)) → Q (ByteArray.mk #[115, 104, 111, 114, 116])) ∧ ((¬ (e = (3 : Int))) → (((e = (4 : Int)) → Q (ByteArray.mk #[108, 111, 110, 103])) ∧ ((¬ (e = (4 : Int))) → (((e = (5 : Int)) → Q (ByteArray.mk #[110, 97, 109, 101])) ∧ ((¬ (e = (5 : Int))) → (((e = (6 : Int)) → Q (ByteArray.mk #[116, 119, 105, 99, 101])) ∧ ((¬ (e = (6 : Int))) → (((e = (7 : Int)) → Q (ByteArray.mk #[115, 116, 97, 116, 101])) ∧ ((¬ (e = (7 : Int))) → (((e = (8 : Int)) → Q (ByteArray.mk #[100, 105, 114, 116, 121])) ∧ ((¬ (e = (8 : Int))) → (((e = (9 : Int)) → Q (ByteArray.mk #[99, 111, 110, 102, 108, 105, 99, 116])) ∧ ((¬ (e = (9 : Int))) → (((e = (10 : Int)) → Q (ByteArray.mk #[115, 97, 109, 101])) ∧ ((¬ (e = (10 : Int))) → (((e = (11 : Int)) → Q (ByteArray.mk #[119, 97, 121])) ∧ ((¬ (e = (11 : Int))) → (((e = (12 : Int)) → Q (ByteArray.mk #[115, 117, 109])) ∧ ((¬ (e = (12 : Int))) → (((e = (13 : Int)) → Q (ByteArray.mk #[100, 111, 119, 110])) ∧ ((¬ (e = (13 : Int))) → (((e = (14 : Int)) → Q (ByteArray.mk #[113, 117, 111, 116, 97])) ∧ ((¬ (e = (14 : Int))) → Q (ByteArray.mk #[101, 114, 114, 111, 114]))))))))))))))))))))))))))))))))
set_option maxRecDepth 20000 in
set_option maxHeartbeats 4000000 in
theorem api_Errno_Error_w {X : List Nat} {w : World} {e : Int} {Q : ByteArray → Prop} (hX0 : Old X w) (re1 : inR .i64 e) (hp : api_Errno_Error_p e Q) :
    Calls Tryd.prog 175 #[(.int .i64 e)] w (Ret fun v w' => ∃ (r0 : ByteArray), Q r0 ∧ Evo [] w w' ∧ v = (.string r0) ∧ r0.size ≤ maxLen) := by
  have hXo := hX0
  have E0 : Evo [] w w := RB.refl _ _ _
  have hS : Sub X X := Sub.refl _
  unfold api_Errno_Error_p at hp
  refine enter_ Tryd.func175 rfl 34 [(0, (.int .i64 e))] (by kernel_rfl) (fun Qe hQ => ?_)
  replace hp := hp re1
  refine seq_ (fun _ K2 => ?_)
  refine reg_ ?_
  refine sq (o_pv (.string (ByteArray.mk #[])) rfl (by kernel_rfl) ?_)
  refine nil_ ?_
  refine then_normal (K2 _ _ _ _ ?_)
  refine seq_ (fun _ K3 => ?_)
  refine seq_ (fun _ K4 => ?_)
  refine reg_ ?_
  refine sq (o_pv (.int .i64 e) rfl (by kernel_rfl) ?_)
  refine nil_ ?_
  refine then_normal (K4 _ _ _ _ ?_)
  refine wp_block ?_
  refine seq_ (fun _ K5 => ?_)
  refine reg_ ?_
  refine sq (o_pv (.bool (decide (e = (0 : Int)))) rfl (by kernel_rfl) ?_)
  refine sq (o_pv (.bool (decide (e = (0 : Int)))) rfl (by kernel_rfl) ?_)
  refine nil_ ?_
  refine then_normal (K5 _ _ _ _ ?_)
  refine cond_d (e = (0 : Int)) (by kernel_rfl) (fun h6 => ?_) (fun h6 => ?_)
  ·
    replace hp := hp.1 h6
    refine seq_ (fun _ K7 => ?_)
    refine reg_ ?_
    refine sq (o_pv (.string (ByteArray.mk #[111, 107])) rfl (by kernel_rfl) ?_)
    refine nil_ ?_
    refine then_normal (K7 _ _ _ _ ?_)
    refine wp_ret ?_
    refine blk_ret ?_
    refine then_ret ?_
    refine end_ret hQ (.string (ByteArray.mk #[111, 107])) (by kernel_rfl) ?_
    exact ⟨(ByteArray.mk #[111, 107]), hp, E0, rfl, (by decide)⟩
  ·
    replace hp := hp.2 h6
    refine seq_ (fun _ K8 => ?_)
    refine reg_ ?_
    refine sq (o_pv (.bool (decide (e = (1 : Int)))) rfl (by kernel_rfl) ?_)
    refine sq (o_pv (.bool (decide (e = (1 : Int)))) rfl (by kernel_rfl) ?_)
    refine nil_ ?_
    refine then_normal (K8 _ _ _ _ ?_)
    refine cond_d (e = (1 : Int)) (by kernel_rfl) (fun h9 => ?_) (fun h9 => ?_)
    ·
      replace hp := hp.1 h9
      refine seq_ (fun _ K10 => ?_)
      refine reg_ ?_
      refine sq (o_pv (.string (ByteArray.mk #[97, 114, 103])) rfl (by kernel_rfl) ?_)
      refine nil_ ?_
      refine then_normal (K10 _ _ _ _ ?_)
      refine wp_ret ?_
      refine blk_ret ?_
      refine then_ret ?_
      refine end_ret hQ (.string (ByteArray.mk #[97, 114, 103])) (by kernel_rfl) ?_
      exact ⟨(ByteArray.mk #[97, 114, 103]), hp, E0, rfl, (by decide)⟩
    ·
      replace hp := hp.2 h9
      refine seq_ (fun _ K11 => ?_)
      refine reg_ ?_
      refine sq (o_pv (.bool (decide (e = (2 : Int)))) rfl (by kernel_rfl) ?_)
      refine sq (o_pv (.bool (decide (e = (2 : Int)))) rfl (by kernel_rfl) ?_)
      refine nil_ ?_
      refine then_normal (K11 _ _ _ _ ?_)
      refine cond_d (e = (2 : Int)) (by kernel_rfl) (fun h12 => ?_) (fun h12 => ?_)
      ·
        replace hp := hp.1 h12
        refine seq_ (fun _ K13 => ?_)
        refine reg_ ?_
        refine sq (o_pv (.string (ByteArray.mk #[102, 111, 114, 109])) rfl (by kernel_rfl) ?_)
        refine nil_ ?_
        refine then_normal (K13 _ _ _ _ ?_)
        refine wp_ret ?_
        refine blk_ret ?_
        refine then_ret ?_
        refine end_ret hQ (.string (ByteArray.mk #[102, 111, 114, 109])) (by kernel_rfl) ?_
        exact ⟨(ByteArray.mk #[102, 111, 114, 109]), hp, E0, rfl, (by decide)⟩
      ·
        replace hp := hp.2 h12
        refine seq_ (fun _ K14 => ?_)
        refine reg_ ?_
        refine sq (o_pv (.bool (decide (e = (3 : Int)))) rfl (by kernel_rfl) ?_)
        refine sq (o_pv (.bool (decide (e = (3 : Int)))) rfl (by kernel_rfl) ?_)
        refine nil_ ?_
        refine then_normal (K14 _ _ _ _ ?_)
        refine cond_d (e = (3 : Int)) (by kernel_rfl) (fun h15 => ?_) (fun h15 => ?_)
        ·
          replace hp := hp.1 h15
          refine seq_ (fun _ K16 => ?_)
          refine reg_ ?_
          refine sq (o_pv (.string (ByteArray.mk #[115, 104, 111, 114, 116])) rfl (by kernel_rfl) ?_)
          refine nil_ ?_
          refine then_normal (K16 _ _ _ _ ?_)
          refine wp_ret ?_
          refine blk_ret ?_
          refine then_ret ?_
          refine end_ret hQ (.string (ByteArray.mk #[115, 104, 111, 114, 116])) (by kernel_rfl) ?_
          exact ⟨(ByteArray.mk #[115, 104, 111, 114, 116]), hp, E0, rfl, (by decide)⟩
        ·
          replace hp := hp.2 h15
          refine seq_ (fun _ K17 => ?_)
          refine reg_ ?_
          refine sq (o_pv (.bool (decide (e = (4 : Int)))) rfl (by kernel_rfl) ?_)
          refine sq (o_pv (.bool (decide (e = (4 : Int)))) rfl (by kernel_rfl) ?_)
          refine nil_ ?_
          refine then_normal (K17 _ _ _ _ ?_)
          refine cond_d (e = (4 : Int)) (by kernel_rfl) (fun h18 => ?_) (fun h18 => ?_)
          ·
            replace hp := hp.1 h18
            refine seq_ (fun _ K19 => ?_)
            refine reg_ ?_
            refine sq (o_pv (.string (ByteArray.mk #[108, 111, 110, 103])) rfl (by kernel_rfl) ?_)
            refine nil_ ?_
            refine then_normal (K19 _ _ _ _ ?_)
            refine wp_ret ?_
            refine blk_ret ?_
            refine then_ret ?_
            refine end_ret hQ (.string (ByteArray.mk #[108, 111, 110, 103])) (by kernel_rfl) ?_
            exact ⟨(ByteArray.mk #[108, 111, 110, 103]), hp, E0, rfl, (by decide)⟩
          ·
            replace hp := hp.2 h18
            refine seq_ (fun _ K20 => ?_)
            refine reg_ ?_
            refine sq (o_pv (.bool (decide (e = (5 : Int)))) rfl (by kernel_rfl) ?_)
            refine sq (o_pv (.bool (decide (e = (5 : Int)))) rfl (by kernel_rfl) ?_)
            refine nil_ ?_
            refine then_normal (K20 _ _ _ _ ?_)
            refine cond_d (e = (5 : Int)) (by kernel_rfl) (fun h21 => ?_) (fun h21 => ?_)
            ·
              replace hp := hp.1 h21
              refine seq_ (fun _ K22 => ?_)
              refine reg_ ?_
              refine sq (o_pv (.string (ByteArray.mk #[110, 97, 109, 101])) rfl (by kernel_rfl) ?_)
              refine nil_ ?_
              refine then_normal (K22 _ _ _ _ ?_)
              refine wp_ret ?_
              refine blk_ret ?_
              refine then_ret ?_
              refine end_ret hQ (.string (ByteArray.mk #[110, 97, 109, 101])) (by kernel_rfl) ?_
              exact ⟨(ByteArray.mk #[110, 97, 109, 101]), hp, E0, rfl, (by decide)⟩
            ·
              replace hp := hp.2 h21
              refine seq_ (fun _ K23 => ?_)
              refine reg_ ?_
              refine sq (o_pv (.bool (decide (e = (6 : Int)))) rfl (by kernel_rfl) ?_)
              refine sq (o_pv (.bool (decide (e = (6 : Int)))) rfl (by kernel_rfl) ?_)
              refine nil_ ?_
              refine then_normal (K23 _ _ _ _ ?_)
              refine cond_d (e = (6 : Int)) (by kernel_rfl) (fun h24 => ?_) (fun h24 => ?_)
              ·
                replace hp := hp.1 h24
                refine seq_ (fun _ K25 => ?_)
                refine reg_ ?_
                refine sq (o_pv (.string (ByteArray.mk #[116, 119, 105, 99, 101])) rfl (by kernel_rfl) ?_)
                refine nil_ ?_
                refine then_normal (K25 _ _ _ _ ?_)
                refine wp_ret ?_
                refine blk_ret ?_
                refine then_ret ?_
                refine end_ret hQ (.string (ByteArray.mk #[116, 119, 105, 99, 101])) (by kernel_rfl) ?_
                exact ⟨(ByteArray.mk #[116, 119, 105, 99, 101]), hp, E0, rfl, (by decide)⟩
              ·
                replace hp := hp.2 h24
                refine seq_ (fun _ K26 => ?_)
                refine reg_ ?_
                refine sq (o_pv (.bool (decide (e = (7 : Int)))) rfl (by kernel_rfl) ?_)
                refine sq (o_pv (.bool (decide (e = (7 : Int)))) rfl (by kernel_rfl) ?_)
                refine nil_ ?_
                refine then_normal (K26 _ _ _ _ ?_)
                refine cond_d (e = (7 : Int)) (by kernel_rfl) (fun h27 => ?_) (fun h27 => ?_)
                ·
                  replace hp := hp.1 h27
                  refine seq_ (fun _ K28 => ?_)
                  refine reg_ ?_
                  refine sq (o_pv (.string (ByteArray.mk #[115, 116, 97, 116, 101])) rfl (by kernel_rfl) ?_)
                  refine nil_ ?_
                  refine then_normal (K28 _ _ _ _ ?_)
                  refine wp_ret ?_
                  refine blk_ret ?_
                  refine then_ret ?_
                  refine end_ret hQ (.string (ByteArray.mk #[115, 116, 97, 116, 101])) (by kernel_rfl) ?_
                  exact ⟨(ByteArray.mk #[115, 116, 97, 116, 101]), hp, E0, rfl, (by decide)⟩
                ·
                  replace hp := hp.2 h27
                  refine seq_ (fun _ K29 => ?_)
                  refine reg_ ?_
                  refine sq (o_pv (.bool (decide (e = (8 : Int)))) rfl (by kernel_rfl) ?_)
                  refine sq (o_pv (.bool (decide (e = (8 : Int)))) rfl (by kernel_rfl) ?_)
                  refine nil_ ?_
                  refine then_normal (K29 _ _ _ _ ?_)
                  refine cond_d (e = (8 : Int)) (by kernel_rfl) (fun h30 => ?_) (fun h30 => ?_)
                  ·
                    replace hp := hp.1 h30
                    refine seq_ (fun _ K31 => ?_)
                    refine reg_ ?_
                    refine sq (o_pv (.string (ByteArray.mk #[100, 105, 114, 116, 121])) rfl (by kernel_rfl) ?_)
                    refine nil_ ?_
                    refine then_normal (K31 _ _ _ _ ?_)
                    refine wp_ret ?_
                    refine blk_ret ?_
                    refine then_ret ?_
                    refine end_ret hQ (.string (ByteArray.mk #[100, 105, 114, 116, 121])) (by kernel_rfl) ?_
                    exact ⟨(ByteArray.mk #[100, 105, 114, 116, 121]), hp, E0, rfl, (by decide)⟩
                  ·
                    replace hp := hp.2 h30
                    refine seq_ (fun _ K32 => ?_)
                    refine reg_ ?_
                    refine sq (o_pv (.bool (decide (e = (9 : Int)))) rfl (by kernel_rfl) ?_)
                    refine sq (o_pv (.bool (decide (e = (9 : Int)))) rfl (by kernel_rfl) ?_)
                    refine nil_ ?_
                    refine then_normal (K32 _ _ _ _ ?_)
                    refine cond_d (e = (9 : Int)) (by kernel_rfl) (fun h33 => ?_) (fun h33 => ?_)
                    ·
                      replace hp := hp.1 h33
                      refine seq_ (fun _ K34 => ?_)
                      refine reg_ ?_
                      refine sq (o_pv (.string (ByteArray.mk #[99, 111, 110, 102, 108, 105, 99, 116])) rfl (by kernel_rfl) ?_)
                      refine nil_ ?_
                      refine then_normal (K34 _ _ _ _ ?_)
                      refine wp_ret ?_
                      refine blk_ret ?_
                      refine then_ret ?_
                      refine end_ret hQ (.string (ByteArray.mk #[99, 111, 110, 102, 108, 105, 99, 116])) (by kernel_rfl) ?_
                      exact ⟨(ByteArray.mk #[99, 111, 110, 102, 108, 105, 99, 116]), hp, E0, rfl, (by decide)⟩
                    ·
                      replace hp := hp.2 h33
                      refine seq_ (fun _ K35 => ?_)
                      refine reg_ ?_
                      refine sq (o_pv (.bool (decide (e = (10 : Int)))) rfl (by kernel_rfl) ?_)
                      refine sq (o_pv (.bool (decide (e = (10 : Int)))) rfl (by kernel_rfl) ?_)
                      refine nil_ ?_
                      refine then_normal (K35 _ _ _ _ ?_)
                      refine cond_d (e = (10 : Int)) (by kernel_rfl) (fun h36 => ?_) (fun h36 => ?_)
                      ·
                        replace hp := hp.1 h36
                        refine seq_ (fun _ K37 => ?_)
                        refine reg_ ?_
                        refine sq (o_pv (.string (ByteArray.mk #[115, 97, 109, 101])) rfl (by kernel_rfl) ?_)
                        refine nil_ ?_
                        refine then_normal (K37 _ _ _ _ ?_)
                        refine wp_ret ?_
                        refine blk_ret ?_
                        refine then_ret ?_
                        refine end_ret hQ (.string (ByteArray.mk #[115, 97, 109, 101])) (by kernel_rfl) ?_
                        exact ⟨(ByteArray.mk #[115, 97, 109, 101]), hp, E0, rfl, (by decide)⟩
                      ·
                        replace hp := hp.2 h36
                        refine seq_ (fun _ K38 => ?_)
                        refine reg_ ?_
                        refine sq (o_pv (.bool (decide (e = (11 : Int)))) rfl (by kernel_rfl) ?_)
                        refine sq (o_pv (.bool (decide (e = (11 : Int)))) rfl (by kernel_rfl) ?_)
                        refine nil_ ?_
                        refine then_normal (K38 _ _ _ _ ?_)
                        refine cond_d (e = (11 : Int)) (by kernel_rfl) (fun h39 => ?_) (fun h39 => ?_)
                        ·
                          replace hp := hp.1 h39
                          refine seq_ (fun _ K40 => ?_)
                          refine reg_ ?_
                          refine sq (o_pv (.string (ByteArray.mk #[119, 97, 121])) rfl (by kernel_rfl) ?_)
                          refine nil_ ?_
                          refine then_normal (K40 _ _ _ _ ?_)
                          refine wp_ret ?_
                          refine blk_ret ?_
                          refine then_ret ?_
                          refine end_ret hQ (.string (ByteArray.mk #[119, 97, 121])) (by kernel_rfl) ?_
                          exact ⟨(ByteArray.mk #[119, 97, 121]), hp, E0, rfl, (by decide)⟩
                        ·
                          replace hp := hp.2 h39
                          refine seq_ (fun _ K41 => ?_)
                          refine reg_ ?_
                          refine sq (o_pv (.bool (decide (e = (12 : Int)))) rfl (by kernel_rfl) ?_)
                          refine sq (o_pv (.bool (decide (e = (12 : Int)))) rfl (by kernel_rfl) ?_)
                          refine nil_ ?_
                          refine then_normal (K41 _ _ _ _ ?_)
                          refine cond_d (e = (12 : Int)) (by kernel_rfl) (fun h42 => ?_) (fun h42 => ?_)
                          ·
                            replace hp := hp.1 h42
                            refine seq_ (fun _ K43 => ?_)
                            refine reg_ ?_
                            refine sq (o_pv (.string (ByteArray.mk #[115, 117, 109])) rfl (by kernel_rfl) ?_)
                            refine nil_ ?_
                            refine then_normal (K43 _ _ _ _ ?_)
                            refine wp_ret ?_
                            refine blk_ret ?_
                            refine then_ret ?_
                            refine end_ret hQ (.string (ByteArray.mk #[115, 117, 109])) (by kernel_rfl) ?_
                            exact ⟨(ByteArray.mk #[115, 117, 109]), hp, E0, rfl, (by decide)⟩
                          ·
                            replace hp := hp.2 h42
                            refine seq_ (fun _ K44 => ?_)
                            refine reg_ ?_
                            refine sq (o_pv (.bool (decide (e = (13 : Int)))) rfl (by kernel_rfl) ?_)
                            refine sq (o_pv (.bool (decide (e = (13 : Int)))) rfl (by kernel_rfl) ?_)
                            refine nil_ ?_
                            refine then_normal (K44 _ _ _ _ ?_)
                            refine cond_d (e = (13 : Int)) (by kernel_rfl) (fun h45 => ?_) (fun h45 => ?_)
                            ·
                              replace hp := hp.1 h45
                              refine seq_ (fun _ K46 => ?_)
                              refine reg_ ?_
                              refine sq (o_pv (.string (ByteArray.mk #[100, 111, 119, 110])) rfl (by kernel_rfl) ?_)
                              refine nil_ ?_
                              refine then_normal (K46 _ _ _ _ ?_)
                              refine wp_ret ?_
                              refine blk_ret ?_
                              refine then_ret ?_
                              refine end_ret hQ (.string (ByteArray.mk #[100, 111, 119, 110])) (by kernel_rfl) ?_
                              exact ⟨(ByteArray.mk #[100, 111, 119, 110]), hp, E0, rfl, (by decide)⟩
                            ·
                              replace hp := hp.2 h45
                              refine seq_ (fun _ K47 => ?_)
                              refine reg_ ?_
                              refine sq (o_pv (.bool (decide (e = (14 : Int)))) rfl (by kernel_rfl) ?_)
                              refine sq (o_pv (.bool (decide (e = (14 : Int)))) rfl (by kernel_rfl) ?_)
                              refine nil_ ?_
                              refine then_normal (K47 _ _ _ _ ?_)
                              refine cond_d (e = (14 : Int)) (by kernel_rfl) (fun h48 => ?_) (fun h48 => ?_)
                              ·
                                replace hp := hp.1 h48
                                refine seq_ (fun _ K49 => ?_)
                                refine reg_ ?_
                                refine sq (o_pv (.string (ByteArray.mk #[113, 117, 111, 116, 97])) rfl (by kernel_rfl) ?_)
                                refine nil_ ?_
                                refine then_normal (K49 _ _ _ _ ?_)
                                refine wp_ret ?_
                                refine blk_ret ?_
                                refine then_ret ?_
                                refine end_ret hQ (.string (ByteArray.mk #[113, 117, 111, 116, 97])) (by kernel_rfl) ?_
                                exact ⟨(ByteArray.mk #[113, 117, 111, 116, 97]), hp, E0, rfl, (by decide)⟩
                              ·
                                replace hp := hp.2 h48
                                refine wp_skip ?_
                                refine blk_normal ?_
                                refine then_normal (K3 _ _ _ _ ?_)
                                refine seq_ (fun _ K50 => ?_)
                                refine reg_ ?_
                                refine sq (o_pv (.string (ByteArray.mk #[101, 114, 114, 111, 114])) rfl (by kernel_rfl) ?_)
                                refine nil_ ?_
                                refine then_normal (K50 _ _ _ _ ?_)
                                refine wp_ret ?_
                                refine end_ret hQ (.string (ByteArray.mk #[101, 114, 114, 111, 114])) (by kernel_rfl) ?_
                                exact ⟨(ByteArray.mk #[101, 114, 114, 111, 114]), hp, E0, rfl, (by decide)⟩

def rectoref3_Decimal_p0 (R : Int → (ByteArray → Prop) → Prop) (n_ : Int) (Q : ByteArray → Prop) : Prop :=
  ((inR .i64 n_) → (((n_ < (0 : Int)) → (((n_ = (-9223372036854775808 : Int)) → Q (ByteArray.mk #[45, 57, 50, 50, 51, 51, 55, 50, 48, 51, 54, 56, 53, 52, 55, 55, 53, 56, 48, 56])) ∧ ((¬ (n_ = (-9223372036854775808 : Int))) → ((inR .i64 ((0 : Int) - n_)) ∧ (R ((0 : Int) - n_) (fun (r12 : ByteArray) => ((r12.size ≤ maxLen) → ((((ByteArray.mk #[45]) ++ r12).size ≤ maxLen) ∧ Q ((ByteArray.mk #[45]) ++ r12))))))))) ∧ ((¬ (n_ < (0 : Int))) → ((0 ≤ n_) ∧ ((inR .i64 ((48 : Int) + (n_ % (10 : Int)))) ∧ (∃ (I53 : Int → ByteArray → Prop) (m54 : Int → ByteArray → Nat), (I53 n_ (strOfNums ([iwrap .u8 ((48 : Int) + (n_ % (10 : Int)))]))) ∧ (∀ (n_30 : Int) (s32 : ByteArray), (I53 n_30 s32) → (inR .i64 n_30) → (s32.size ≤ maxLen) → (((n_30 ≥ (10 : Int)) → ((0 ≤ n_30) ∧ ((0 ≤ (n_30 / (10 : Int))) ∧ ((inR .i64 ((48 : Int) + ((n_30 / (10 : Int)) % (10 : Int)))) ∧ ((((strOfNums ([iwrap .u8 ((48 : Int) + ((n_30 / (10 : Int)) % (10 : Int)))])) ++ s32).size ≤ maxLen) ∧ ((I53 (n_30 / (10 : Int)) ((strOfNums ([iwrap .u8 ((48 : Int) + ((n_30 / (10 : Int)) % (10 : Int)))])) ++ s32)) ∧ m54 (n_30 / (10 : Int)) ((strOfNums ([iwrap .u8 ((48 : Int) + ((n_30 / (10 : Int)) % (10 : Int)))])) ++ s32) < m54 n_30 s32)))))) ∧ ((¬ (n_30 ≥ (10 : Int))) → Q s32)))))))))
set_option maxRecDepth 20000 in
set_option maxHeartbeats 4000000 in
theorem rectoref3_Decimal_w0 {R : Int → (ByteArray → Prop) → Prop} (hR : ∀ {X : List Nat} {w : World} {n_ : Int} {Q : ByteArray → Prop} (hX0 : Old X w) (rn_1 : inR .i64 n_) (_hp : R n_ Q), Calls Tryd.prog 70 #[(.int .i64 n_)] w (Ret fun v w' => ∃ (r0 : ByteArray), Q r0 ∧ Evo [] w w' ∧ v = (.string r0) ∧ r0.size ≤ maxLen)) {X : List Nat} {w : World} {n_ : Int} {Q : ByteArray → Prop} (hX0 : Old X w) (rn_1 : inR .i64 n_) (hp : rectoref3_Decimal_p0 R n_ Q) :
    Calls Tryd.prog 70 #[(.int .i64 n_)] w (Ret fun v w' => ∃ (r0 : ByteArray), Q r0 ∧ Evo [] w w' ∧ v = (.string r0) ∧ r0.size ≤ maxLen) := by
  have hXo := hX0
  have E0 : Evo [] w w := RB.refl _ _ _
  have hS : Sub X X := Sub.refl _
  unfold rectoref3_Decimal_p0 at hp
  refine enter_ Tryd.func70 rfl 31 [(0, (.int .i64 n_))] (by kernel_rfl) (fun Qe hQ => ?_)
  replace hp := hp rn_1
  refine seq_ (fun _ K2 => ?_)
  refine reg_ ?_
  refine sq (o_pv (.string (ByteArray.mk #[])) rfl (by kernel_rfl) ?_)
  refine nil_ ?_
  refine then_normal (K2 _ _ _ _ ?_)
  refine seq_ (fun _ K3 => ?_)
  refine seq_ (fun _ K4 => ?_)
  refine reg_ ?_
  refine sq (o_pv (.int .i64 n_) rfl (by kernel_rfl) ?_)
  refine sq (o_pv (.bool (decide (n_ < (0 : Int)))) rfl (by kernel_rfl) ?_)
  refine nil_ ?_
  refine then_normal (K4 _ _ _ _ ?_)
  refine cond_d (n_ < (0 : Int)) (by kernel_rfl) (fun h5 => ?_) (fun h5 => ?_)
  ·
    replace hp := hp.1 h5
    refine seq_ (fun _ K6 => ?_)
    refine seq_ (fun _ K7 => ?_)
    refine reg_ ?_
    refine sq (o_pv (.int .i64 n_) rfl (by kernel_rfl) ?_)
    refine sq (o_pv (.bool (decide (n_ = (-9223372036854775808 : Int)))) rfl (by kernel_rfl) ?_)
    refine nil_ ?_
    refine then_normal (K7 _ _ _ _ ?_)
    refine cond_d (n_ = (-9223372036854775808 : Int)) (by kernel_rfl) (fun h8 => ?_) (fun h8 => ?_)
    ·
      replace hp := hp.1 h8
      refine seq_ (fun _ K9 => ?_)
      refine reg_ ?_
      refine sq (o_pv (.string (ByteArray.mk #[45, 57, 50, 50, 51, 51, 55, 50, 48, 51, 54, 56, 53, 52, 55, 55, 53, 56, 48, 56])) rfl (by kernel_rfl) ?_)
      refine nil_ ?_
      refine then_normal (K9 _ _ _ _ ?_)
      refine wp_ret ?_
      refine then_ret ?_
      refine then_ret ?_
      refine end_ret hQ (.string (ByteArray.mk #[45, 57, 50, 50, 51, 51, 55, 50, 48, 51, 54, 56, 53, 52, 55, 55, 53, 56, 48, 56])) (by kernel_rfl) ?_
      exact ⟨(ByteArray.mk #[45, 57, 50, 50, 51, 51, 55, 50, 48, 51, 54, 56, 53, 52, 55, 55, 53, 56, 48, 56]), hp, E0, rfl, (by decide)⟩
    ·
      replace hp := hp.2 h8
      refine wp_skip ?_
      refine then_normal (K6 _ _ _ _ ?_)
      refine seq_ (fun _ K10 => ?_)
      refine reg_ ?_
      refine sq (o_pv (.int .i64 n_) rfl (by kernel_rfl) ?_)
      obtain ⟨h11, hp⟩ := hp
      refine sq (o_pv (.int .i64 ((0 : Int) - n_)) rfl (x_sub2 (k := .i64) (a := (0 : Int)) (b := n_) ((0 : Int) - n_) (by kernel_rfl) (by kernel_rfl) (wrap_inR h11)) ?_)
      refine sq (o_call 70 #[(.int .i64 ((0 : Int) - n_))] rfl (x_call Tryd.call70 (by kernel_rfl)) (hR (X := []) (n_ := (0 : Int) - n_) (Old.nil _) h11 hp) ?_)
      rintro _ w13 ⟨r12, hp, e14, rfl, zr16⟩
      have s15 := Step.of0 X e14
      replace hp := hp zr16
      obtain ⟨h17, hp⟩ := hp
      refine sq (o_pv (.string ((ByteArray.mk #[45]) ++ r12)) rfl (x_cat (by kernel_rfl) (by kernel_rfl) h17) ?_)
      refine sq (o_pv (.string ((ByteArray.mk #[45]) ++ r12)) rfl (by kernel_rfl) ?_)
      refine nil_ ?_
      refine then_normal (K10 _ _ _ _ ?_)
      refine wp_ret ?_
      refine then_ret ?_
      have E18 := (Evo.then0 E0 e14)
      refine end_ret hQ (.string ((ByteArray.mk #[45]) ++ r12)) (by kernel_rfl) ?_
      exact ⟨((ByteArray.mk #[45]) ++ r12), hp, E18, rfl, h17⟩
  ·
    replace hp := hp.2 h5
    refine wp_skip ?_
    refine then_normal (K3 _ _ _ _ ?_)
    refine seq_ (fun _ K19 => ?_)
    refine reg_ ?_
    refine sq (o_pv (.int .i64 n_) rfl (by kernel_rfl) ?_)
    obtain ⟨h20, hp⟩ := hp
    refine sq (o_pv (.int .i64 (n_ % (10 : Int))) rfl (x_rem2 (k := .i64) (a := n_) (b := (10 : Int)) (n_ % (10 : Int)) (by kernel_rfl) (by kernel_rfl) h20 (by decide) rfl (wrap_inR (inR_rem h20 (by decide) rn_1 (by decide)))) ?_)
    obtain ⟨h21, hp⟩ := hp
    refine sq (o_pv (.int .i64 ((48 : Int) + (n_ % (10 : Int)))) rfl (x_add2 (k := .i64) (a := (48 : Int)) (b := n_ % (10 : Int)) ((48 : Int) + (n_ % (10 : Int))) (by kernel_rfl) (by kernel_rfl) (wrap_inR h21)) ?_)
    refine sq (o_pv (.int .u8 (iwrap .u8 ((48 : Int) + (n_ % (10 : Int))))) rfl (x_convw (k := .i64) Tryd.underlying3 Tryd.underlying5 (by kernel_rfl)) ?_)
    refine sq (o_rowX (R := (rInt .u8)) [(.int .u8 (iwrap .u8 ((48 : Int) + (n_ % (10 : Int)))))] [iwrap .u8 ((48 : Int) + (n_ % (10 : Int)))] 5 1 (X := X) (B := w.heap.size) E0.size rfl (by kernel_rfl) (Flat.cons (cs := [(.int .u8 (iwrap .u8 ((48 : Int) + (n_ % (10 : Int)))))]) (rInt_mk (inR_iwrap _ _)) Flat.nil) rfl (by decide) ?_)
    intro b22 w23 X24 s25 O26 n27
    have hl28 := OS.len O26
    refine sq (o_pv (.string (strOfNums ([iwrap .u8 ((48 : Int) + (n_ % (10 : Int)))]))) rfl (x_b2s_sl (a := (some ⟨b22, 0, none⟩)) (len := 1) (c := 1) ([iwrap .u8 ((48 : Int) + (n_ % (10 : Int)))]) Tryd.underlying91 Tryd.underlying5 Tryd.underlying9 (by kernel_rfl) O26.1 (OS.rd O26)) ?_)
    refine sq (o_pv (.string (strOfNums ([iwrap .u8 ((48 : Int) + (n_ % (10 : Int)))]))) rfl (by kernel_rfl) ?_)
    refine nil_ ?_
    refine then_normal (K19 _ _ _ _ ?_)
    refine seq_ (fun _ K29 => ?_)
    refine wp_block ?_
    have hXo63 := (Old.step hXo s25)
    have E64 := (Evo.then0 E0 (Step.evo s25))
    have hS65 := (Sub.trans hS (Step.up s25))
    obtain ⟨I53, m54, hI55, hp⟩ := hp
    refine loop_ 1073479689 (fun kq lq w57 => ∃ (X58 : List Nat) (n_30 : Int) (s32 : ByteArray), (lq = [(0, (.int .i64 n_30)), (3, (.string s32))]) ∧ (kq = m54 n_30 s32) ∧ (Evo [] w w57) ∧ (Old X58 w57) ∧ (Sub X X58) ∧ (inR .i64 n_30) ∧ (s32.size ≤ maxLen) ∧ (I53 n_30 s32)) (m54 n_ (strOfNums ([iwrap .u8 ((48 : Int) + (n_ % (10 : Int)))]))) [(0, (.int .i64 n_)), (3, (.string (strOfNums ([iwrap .u8 ((48 : Int) + (n_ % (10 : Int)))]))))] (vs_cons (by kernel_rfl) (vs_cons (by kernel_rfl) vs_nil)) ⟨X24, n_, (strOfNums ([iwrap .u8 ((48 : Int) + (n_ % (10 : Int)))])), rfl, rfl, E64, hXo63, hS65, rn_1, (strOfNums_le hl28), hI55⟩ ?_
    rintro _ _ w57 g60 ⟨X58, n_30, s32, rfl, rfl, E66, hXo67, hS68, rn_31, zs33, hI56⟩ Kl61 hA62
    replace hp := hp n_30 s32 hI56 rn_31 zs33
    refine seq_ (fun _ K69 => ?_)
    refine seq_ (fun _ K70 => ?_)
    refine reg_ ?_
    refine sq (o_pv (.int .i64 n_30) rfl (by kernel_rfl) ?_)
    refine sq (o_pv (.bool (decide (n_30 ≥ (10 : Int)))) rfl (by kernel_rfl) ?_)
    refine nil_ ?_
    refine then_normal (K70 _ _ _ _ ?_)
    refine cond_d (n_30 ≥ (10 : Int)) (by kernel_rfl) (fun h71 => ?_) (fun h71 => ?_)
    ·
      replace hp := hp.1 h71
      refine wp_skip ?_
      refine then_normal (K69 _ _ _ _ ?_)
      refine wp_block ?_
      refine seq_ (fun _ K72 => ?_)
      refine reg_ ?_
      refine sq (o_pv (.int .i64 n_30) rfl (by kernel_rfl) ?_)
      obtain ⟨h73, hp⟩ := hp
      refine sq (o_pv (.int .i64 (n_30 / (10 : Int))) rfl (x_quo2 (k := .i64) (a := n_30) (b := (10 : Int)) (n_30 / (10 : Int)) (by kernel_rfl) (by kernel_rfl) h73 (by decide) rfl (wrap_inR (inR_quo h73 (by decide) rn_31 (by decide)))) ?_)
      refine sq (o_pv (.int .i64 (n_30 / (10 : Int))) rfl (by kernel_rfl) ?_)
      refine nil_ ?_
      refine then_normal (K72 _ _ _ _ ?_)
      refine reg_ ?_
      refine sq (o_pv (.int .i64 (n_30 / (10 : Int))) rfl (by kernel_rfl) ?_)
      obtain ⟨h74, hp⟩ := hp
      refine sq (o_pv (.int .i64 ((n_30 / (10 : Int)) % (10 : Int))) rfl (x_rem2 (k := .i64) (a := n_30 / (10 : Int)) (b := (10 : Int)) ((n_30 / (10 : Int)) % (10 : Int)) (by kernel_rfl) (by kernel_rfl) h74 (by decide) rfl (wrap_inR (inR_rem h74 (by decide) (inR_quo h73 (by decide) rn_31 (by decide)) (by decide)))) ?_)
      obtain ⟨h75, hp⟩ := hp
      refine sq (o_pv (.int .i64 ((48 : Int) + ((n_30 / (10 : Int)) % (10 : Int)))) rfl (x_add2 (k := .i64) (a := (48 : Int)) (b := (n_30 / (10 : Int)) % (10 : Int)) ((48 : Int) + ((n_30 / (10 : Int)) % (10 : Int))) (by kernel_rfl) (by kernel_rfl) (wrap_inR h75)) ?_)
      refine sq (o_pv (.int .u8 (iwrap .u8 ((48 : Int) + ((n_30 / (10 : Int)) % (10 : Int))))) rfl (x_convw (k := .i64) Tryd.underlying3 Tryd.underlying5 (by kernel_rfl)) ?_)
      refine sq (o_rowX (R := (rInt .u8)) [(.int .u8 (iwrap .u8 ((48 : Int) + ((n_30 / (10 : Int)) % (10 : Int)))))] [iwrap .u8 ((48 : Int) + ((n_30 / (10 : Int)) % (10 : Int)))] 5 1 (X := X58) (B := w.heap.size) E66.size rfl (by kernel_rfl) (Flat.cons (cs := [(.int .u8 (iwrap .u8 ((48 : Int) + ((n_30 / (10 : Int)) % (10 : Int)))))]) (rInt_mk (inR_iwrap _ _)) Flat.nil) rfl (by decide) ?_)
      intro b76 w77 X78 s79 O80 n81
      have hl82 := OS.len O80
      refine sq (o_pv (.string (strOfNums ([iwrap .u8 ((48 : Int) + ((n_30 / (10 : Int)) % (10 : Int)))]))) rfl (x_b2s_sl (a := (some ⟨b76, 0, none⟩)) (len := 1) (c := 1) ([iwrap .u8 ((48 : Int) + ((n_30 / (10 : Int)) % (10 : Int)))]) Tryd.underlying91 Tryd.underlying5 Tryd.underlying9 (by kernel_rfl) O80.1 (OS.rd O80)) ?_)
      refine sq (o_pv (.string s32) rfl (by kernel_rfl) ?_)
      obtain ⟨h83, hp⟩ := hp
      refine sq (o_pv (.string ((strOfNums ([iwrap .u8 ((48 : Int) + ((n_30 / (10 : Int)) % (10 : Int)))])) ++ s32)) rfl (x_cat (by kernel_rfl) (by kernel_rfl) h83) ?_)
      refine sq (o_pv (.string ((strOfNums ([iwrap .u8 ((48 : Int) + ((n_30 / (10 : Int)) % (10 : Int)))])) ++ s32)) rfl (by kernel_rfl) ?_)
      refine nil_ ?_
      refine blk_normal ?_
      have E84 := (Evo.then0 E66 (Step.evo s79))
      have hXo85 := (Old.step hXo67 s79)
      have hS86 := (Sub.trans hS68 (Step.up s79))
      refine then_normal (hA62 _ _ _ ⟨_, [(0, (.int .i64 (n_30 / (10 : Int)))), (3, (.string ((strOfNums ([iwrap .u8 ((48 : Int) + ((n_30 / (10 : Int)) % (10 : Int)))])) ++ s32)))], hp.2, fit_mk (AgB.mix _ _ _) (by kernel_rfl) (vs_cons (by kernel_rfl) (vs_cons (by kernel_rfl) vs_nil)), ?_⟩)
      exact ⟨X78, (n_30 / (10 : Int)), ((strOfNums ([iwrap .u8 ((48 : Int) + ((n_30 / (10 : Int)) % (10 : Int)))])) ++ s32), rfl, rfl, E84, hXo85, hS86, (inR_quo h73 (by decide) rn_31 (by decide)), h83, hp.1⟩
    ·
      replace hp := hp.2 h71
      refine wp_exit ?_
      refine then_exit ?_
      refine then_exit ?_
      refine blk_exit ?_
      refine then_normal (K29 _ _ _ _ ?_)
      refine seq_ (fun _ K87 => ?_)
      refine reg_ ?_
      refine sq (o_pv (.string s32) rfl (by kernel_rfl) ?_)
      refine sq (o_pv (.string s32) rfl (by kernel_rfl) ?_)
      refine nil_ ?_
      refine then_normal (K87 _ _ _ _ ?_)
      refine wp_ret ?_
      refine end_ret hQ (.string s32) (by kernel_rfl) ?_
      exact ⟨s32, hp, E66, rfl, zs33⟩
def rectoref3_Decimal_pk : Nat → Int → (ByteArray → Prop) → Prop
  | 0 => fun _ _ => False
  | k + 1 => rectoref3_Decimal_p0 (rectoref3_Decimal_pk k)
theorem rectoref3_Decimal_wk : ∀ (k : Nat) {X : List Nat} {w : World} {n_ : Int} {Q : ByteArray → Prop} (hX0 : Old X w) (rn_1 : inR .i64 n_) (_hp : rectoref3_Decimal_pk k n_ Q), Calls Tryd.prog 70 #[(.int .i64 n_)] w (Ret fun v w' => ∃ (r0 : ByteArray), Q r0 ∧ Evo [] w w' ∧ v = (.string r0) ∧ r0.size ≤ maxLen) := by
  intro k
  induction k with
  | zero => intro _ _ _ _ _ _ hp; exact hp.elim
  | succ k ih => intro X w n_ Q hX0 rn_1 hp; exact rectoref3_Decimal_w0 (R := rectoref3_Decimal_pk k) (fun hX0 rn_1 hp => ih hX0 rn_1 hp) hX0 rn_1 hp
def rectoref3_Decimal_p (n_ : Int) (Q : ByteArray → Prop) : Prop := ∃ k, rectoref3_Decimal_pk k n_ Q
theorem rectoref3_Decimal_w {X : List Nat} {w : World} {n_ : Int} {Q : ByteArray → Prop} (hX0 : Old X w) (rn_1 : inR .i64 n_) (hp : rectoref3_Decimal_p n_ Q) :
    Calls Tryd.prog 70 #[(.int .i64 n_)] w (Ret fun v w' => ∃ (r0 : ByteArray), Q r0 ∧ Evo [] w w' ∧ v = (.string r0) ∧ r0.size ≤ maxLen) := by
  obtain ⟨k, hp⟩ := hp
  exact rectoref3_Decimal_wk k hX0 rn_1 hp

def rectoref3_Word_p (e : Int) (Q : ByteArray → Prop) : Prop :=
  ((inR .i64 e) → ((((e < (0 : Int)) ∨ (e ≥ (([(ByteArray.mk #[111, 107]), (ByteArray.mk #[97, 114, 103]), (ByteArray.mk #[102, 111, 114, 109]), (ByteArray.mk #[115, 104, 111, 114, 116]), (ByteArray.mk #[108, 111, 110, 103]), (ByteArray.mk #[110, 97, 109, 101]), (ByteArray.mk #[116, 119, 105, 99, 101]), (ByteArray.mk #[115, 116, 97, 116, 101]), (ByteArray.mk #[100, 105, 114, 116, 121]), (ByteArray.mk #[99, 111, 110, 102, 108, 105, 99, 116]), (ByteArray.mk #[115, 97, 109, 101]), (ByteArray.mk #[119, 97, 121]), (ByteArray.mk #[115, 117, 109]), (ByteArray.mk #[100, 111, 119, 110]), (ByteArray.mk #[113, 117, 111, 116, 97])]).length : Int))) → Q (ByteArray.mk #[101, 114, 114, 111, 114])) ∧ ((¬ ((e < (0 : Int)) ∨ (e ≥ (([(ByteArray.mk #[111, 107]), (ByteArray.mk #[97, 114, 103]), (ByteArray.mk #[102, 111, 114, 109]), (ByteArray.mk #[115, 104, 111, 114, 116]), (ByteArray.mk #[108, 111, 110, 103]), (ByteArray.mk #[110, 97, 109, 101]), (ByteArray.mk #[116, 119, 105, 99, 101]), (ByteArray.mk #[115, 116, 97, 116, 101]), (ByteArray.mk #[100, 105, 114, 116, 121]), (ByteArray.mk #[99, 111, 110, 102, 108, 105, 99, 116]), (ByteArray.mk #[115, 97, 109, 101]), (ByteArray.mk #[119, 97, 121]), (ByteArray.mk #[115, 117, 109]), (ByteArray.mk #[100, 111, 119, 110]), (ByteArray.mk #[113, 117, 111, 116, 97])]).length : Int)))) → ((inL ([(ByteArray.mk #[111, 107]), (ByteArray.mk #[97, 114, 103]), (ByteArray.mk #[102, 111, 114, 109]), (ByteArray.mk #[115, 104, 111, 114, 116]), (ByteArray.mk #[108, 111, 110, 103]), (ByteArray.mk #[110, 97, 109, 101]), (ByteArray.mk #[116, 119, 105, 99, 101]), (ByteArray.mk #[115, 116, 97, 116, 101]), (ByteArray.mk #[100, 105, 114, 116, 121]), (ByteArray.mk #[99, 111, 110, 102, 108, 105, 99, 116]), (ByteArray.mk #[115, 97, 109, 101]), (ByteArray.mk #[119, 97, 121]), (ByteArray.mk #[115, 117, 109]), (ByteArray.mk #[100, 111, 119, 110]), (ByteArray.mk #[113, 117, 111, 116, 97])]) e) ∧ (((lget ([(ByteArray.mk #[111, 107]), (ByteArray.mk #[97, 114, 103]), (ByteArray.mk #[102, 111, 114, 109]), (ByteArray.mk #[115, 104, 111, 114, 116]), (ByteArray.mk #[108, 111, 110, 103]), (ByteArray.mk #[110, 97, 109, 101]), (ByteArray.mk #[116, 119, 105, 99, 101]), (ByteArray.mk #[115, 116, 97, 116, 101]), (ByteArray.mk #[100, 105, 114, 116, 121]), (ByteArray.mk #[99, 111, 110, 102, 108, 105, 99, 116]), (ByteArray.mk #[115, 97, 109, 101]), (ByteArray.mk #[119, 97, 121]), (ByteArray.mk #[115, 117, 109]), (ByteArray.mk #[100, 111, 119, 110]), (ByteArray.mk #[113, 117, 111, 116, 97])]) e).size ≤ maxLen) → Q (lget ([(ByteArray.mk #[111, 107]), (ByteArray.mk #[97, 114, 103]), (ByteArray.mk #[102, 111, 114, 109]), (ByteArray.mk #[115, 104, 111, 114, 116]), (ByteArray.mk #[108, 111, 110, 103]), (ByteArray.mk #[110, 97, 109, 101]), (ByteArray.mk #[116, 119, 105, 99, 101]), (ByteArray.mk #[115, 116, 97, 116, 101]), (ByteArray.mk #[100, 105, 114, 116, 121]), (ByteArray.mk #[99, 111, 110, 102, 108, 105, 99, 116]), (ByteArray.mk #[115, 97, 109, 101]), (ByteArray.mk #[119, 97, 121]), (ByteArray.mk #[115, 117, 109]), (ByteArray.mk #[100, 111, 119, 110]), (ByteArray.mk #[113, 117, 111, 116, 97])]) e))))))
set_option maxRecDepth 20000 in
set_option maxHeartbeats 4000000 in
theorem rectoref3_Word_w {X : List Nat} {w : World} {e : Int} {Q : ByteArray → Prop} (hX0 : Old X w) (re1 : inR .i64 e) (hp : rectoref3_Word_p e Q) :
    Calls Tryd.prog 96 #[(.int .i64 e)] w (Ret fun v w' => ∃ (r0 : ByteArray), Q r0 ∧ Evo [] w w' ∧ v = (.string r0) ∧ r0.size ≤ maxLen) := by
  have hXo := hX0
  have E0 : Evo [] w w := RB.refl _ _ _
  have hS : Sub X X := Sub.refl _
  unfold rectoref3_Word_p at hp
  refine enter_ Tryd.func96 rfl 17 [(0, (.int .i64 e))] (by kernel_rfl) (fun Qe hQ => ?_)
  replace hp := hp re1
  refine seq_ (fun _ K2 => ?_)
  refine reg_ ?_
  refine sq (o_pv (.string (ByteArray.mk #[])) rfl (by kernel_rfl) ?_)
  refine nil_ ?_
  refine then_normal (K2 _ _ _ _ ?_)
  refine seq_ (fun _ K3 => ?_)
  refine reg_ ?_
  refine sq (o_rowX (R := rStr) [(.string (ByteArray.mk #[111, 107])), (.string (ByteArray.mk #[97, 114, 103])), (.string (ByteArray.mk #[102, 111, 114, 109])), (.string (ByteArray.mk #[115, 104, 111, 114, 116])), (.string (ByteArray.mk #[108, 111, 110, 103])), (.string (ByteArray.mk #[110, 97, 109, 101])), (.string (ByteArray.mk #[116, 119, 105, 99, 101])), (.string (ByteArray.mk #[115, 116, 97, 116, 101])), (.string (ByteArray.mk #[100, 105, 114, 116, 121])), (.string (ByteArray.mk #[99, 111, 110, 102, 108, 105, 99, 116])), (.string (ByteArray.mk #[115, 97, 109, 101])), (.string (ByteArray.mk #[119, 97, 121])), (.string (ByteArray.mk #[115, 117, 109])), (.string (ByteArray.mk #[100, 111, 119, 110])), (.string (ByteArray.mk #[113, 117, 111, 116, 97]))] [(ByteArray.mk #[111, 107]), (ByteArray.mk #[97, 114, 103]), (ByteArray.mk #[102, 111, 114, 109]), (ByteArray.mk #[115, 104, 111, 114, 116]), (ByteArray.mk #[108, 111, 110, 103]), (ByteArray.mk #[110, 97, 109, 101]), (ByteArray.mk #[116, 119, 105, 99, 101]), (ByteArray.mk #[115, 116, 97, 116, 101]), (ByteArray.mk #[100, 105, 114, 116, 121]), (ByteArray.mk #[99, 111, 110, 102, 108, 105, 99, 116]), (ByteArray.mk #[115, 97, 109, 101]), (ByteArray.mk #[119, 97, 121]), (ByteArray.mk #[115, 117, 109]), (ByteArray.mk #[100, 111, 119, 110]), (ByteArray.mk #[113, 117, 111, 116, 97])] 9 15 (X := X) (B := w.heap.size) E0.size rfl (by kernel_rfl) (Flat.cons (cs := [(.string (ByteArray.mk #[111, 107]))]) (rStr_mk (by decide)) (Flat.cons (cs := [(.string (ByteArray.mk #[97, 114, 103]))]) (rStr_mk (by decide)) (Flat.cons (cs := [(.string (ByteArray.mk #[102, 111, 114, 109]))]) (rStr_mk (by decide)) (Flat.cons (cs := [(.string (ByteArray.mk #[115, 104, 111, 114, 116]))]) (rStr_mk (by decide)) (Flat.cons (cs := [(.string (ByteArray.mk #[108, 111, 110, 103]))]) (rStr_mk (by decide)) (Flat.cons (cs := [(.string (ByteArray.mk #[110, 97, 109, 101]))]) (rStr_mk (by decide)) (Flat.cons (cs := [(.string (ByteArray.mk #[116, 119, 105, 99, 101]))]) (rStr_mk (by decide)) (Flat.cons (cs := [(.string (ByteArray.mk #[115, 116, 97, 116, 101]))]) (rStr_mk (by decide)) (Flat.cons (cs := [(.string (ByteArray.mk #[100, 105, 114, 116, 121]))]) (rStr_mk (by decide)) (Flat.cons (cs := [(.string (ByteArray.mk #[99, 111, 110, 102, 108, 105, 99, 116]))]) (rStr_mk (by decide)) (Flat.cons (cs := [(.string (ByteArray.mk #[115, 97, 109, 101]))]) (rStr_mk (by decide)) (Flat.cons (cs := [(.string (ByteArray.mk #[119, 97, 121]))]) (rStr_mk (by decide)) (Flat.cons (cs := [(.string (ByteArray.mk #[115, 117, 109]))]) (rStr_mk (by decide)) (Flat.cons (cs := [(.string (ByteArray.mk #[100, 111, 119, 110]))]) (rStr_mk (by decide)) (Flat.cons (cs := [(.string (ByteArray.mk #[113, 117, 111, 116, 97]))]) (rStr_mk (by decide)) Flat.nil))))))))))))))) rfl (by decide) ?_)
  intro b4 w5 X6 s7 O8 n9
  refine sq (o_pv (.slice (some ⟨b4, 0, none⟩) 15 15) rfl (by kernel_rfl) ?_)
  refine nil_ ?_
  refine then_normal (K3 _ _ _ _ ?_)
  refine seq_ (fun _ K10 => ?_)
  refine seq_ (fun _ K11 => ?_)
  refine ground_ ?_
  refine join_ 8160 (fun lq w15 => lq = [(12, (.bool (decide ((e < (0 : Int)) ∨ (e ≥ (([(ByteArray.mk #[111, 107]), (ByteArray.mk #[97, 114, 103]), (ByteArray.mk #[102, 111, 114, 109]), (ByteArray.mk #[115, 104, 111, 114, 116]), (ByteArray.mk #[108, 111, 110, 103]), (ByteArray.mk #[110, 97, 109, 101]), (ByteArray.mk #[116, 119, 105, 99, 101]), (ByteArray.mk #[115, 116, 97, 116, 101]), (ByteArray.mk #[100, 105, 114, 116, 121]), (ByteArray.mk #[99, 111, 110, 102, 108, 105, 99, 116]), (ByteArray.mk #[115, 97, 109, 101]), (ByteArray.mk #[119, 97, 121]), (ByteArray.mk #[115, 117, 109]), (ByteArray.mk #[100, 111, 119, 110]), (ByteArray.mk #[113, 117, 111, 116, 97])]).length : Int))))))] ∧ w5 = w15) (fun Kj13 hJ14 => ?_) ?_
  ·
    refine reg_ ?_
    refine sq (o_pv (.int .i64 e) rfl (by kernel_rfl) ?_)
    by_cases h17 : e < (0 : Int)
    ·
      refine sq (o_pv (.bool true) rfl (x_dt (p := e < (0 : Int)) (by kernel_rfl) h17) ?_)
      refine sq (o_pv (.bool true) rfl (by kernel_rfl) ?_)
      refine sq (o_not (by kernel_rfl) ?_)
      refine sq (o_not (by kernel_rfl) ?_)
      refine sq (o_not (by kernel_rfl) ?_)
      refine sq (o_not (by kernel_rfl) ?_)
      refine sq (o_pv (.bool true) rfl (by kernel_rfl) ?_)
      refine nil_ ?_
      refine then_normal (hJ14 _ _ _ ⟨[(12, (.bool (decide ((e < (0 : Int)) ∨ (e ≥ (([(ByteArray.mk #[111, 107]), (ByteArray.mk #[97, 114, 103]), (ByteArray.mk #[102, 111, 114, 109]), (ByteArray.mk #[115, 104, 111, 114, 116]), (ByteArray.mk #[108, 111, 110, 103]), (ByteArray.mk #[110, 97, 109, 101]), (ByteArray.mk #[116, 119, 105, 99, 101]), (ByteArray.mk #[115, 116, 97, 116, 101]), (ByteArray.mk #[100, 105, 114, 116, 121]), (ByteArray.mk #[99, 111, 110, 102, 108, 105, 99, 116]), (ByteArray.mk #[115, 97, 109, 101]), (ByteArray.mk #[119, 97, 121]), (ByteArray.mk #[115, 117, 109]), (ByteArray.mk #[100, 111, 119, 110]), (ByteArray.mk #[113, 117, 111, 116, 97])]).length : Int))))))], fit_mk (fun _ _ => rfl) (by kernel_rfl) (vs_cons (Eq.trans (b := (.bool true)) (by kernel_rfl) (dec_t (iff_true_intro (Or.inl h17))).symm) vs_nil), rfl, rfl⟩)
    ·
      refine sq (o_pv (.bool false) rfl (x_df (p := e < (0 : Int)) (by kernel_rfl) h17) ?_)
      refine sq (o_pv (.bool false) rfl (by kernel_rfl) ?_)
      refine sq (o_pv (.int .i64 e) (by kernel_rfl) (by kernel_rfl) ?_)
      refine sq (o_pv (.slice (some ⟨b4, 0, none⟩) 15 15) (by kernel_rfl) (by kernel_rfl) ?_)
      refine sq (o_pv (.int .i64 (([(ByteArray.mk #[111, 107]), (ByteArray.mk #[97, 114, 103]), (ByteArray.mk #[102, 111, 114, 109]), (ByteArray.mk #[115, 104, 111, 114, 116]), (ByteArray.mk #[108, 111, 110, 103]), (ByteArray.mk #[110, 97, 109, 101]), (ByteArray.mk #[116, 119, 105, 99, 101]), (ByteArray.mk #[115, 116, 97, 116, 101]), (ByteArray.mk #[100, 105, 114, 116, 121]), (ByteArray.mk #[99, 111, 110, 102, 108, 105, 99, 116]), (ByteArray.mk #[115, 97, 109, 101]), (ByteArray.mk #[119, 97, 121]), (ByteArray.mk #[115, 117, 109]), (ByteArray.mk #[100, 111, 119, 110]), (ByteArray.mk #[113, 117, 111, 116, 97])]).length : Int)) (by kernel_rfl) (by rw [← show 15 = ([(ByteArray.mk #[111, 107]), (ByteArray.mk #[97, 114, 103]), (ByteArray.mk #[102, 111, 114, 109]), (ByteArray.mk #[115, 104, 111, 114, 116]), (ByteArray.mk #[108, 111, 110, 103]), (ByteArray.mk #[110, 97, 109, 101]), (ByteArray.mk #[116, 119, 105, 99, 101]), (ByteArray.mk #[115, 116, 97, 116, 101]), (ByteArray.mk #[100, 105, 114, 116, 121]), (ByteArray.mk #[99, 111, 110, 102, 108, 105, 99, 116]), (ByteArray.mk #[115, 97, 109, 101]), (ByteArray.mk #[119, 97, 121]), (ByteArray.mk #[115, 117, 109]), (ByteArray.mk #[100, 111, 119, 110]), (ByteArray.mk #[113, 117, 111, 116, 97])]).length from O8.1]; kernel_rfl) ?_)
      refine sq (o_pv (.bool (decide (e ≥ (([(ByteArray.mk #[111, 107]), (ByteArray.mk #[97, 114, 103]), (ByteArray.mk #[102, 111, 114, 109]), (ByteArray.mk #[115, 104, 111, 114, 116]), (ByteArray.mk #[108, 111, 110, 103]), (ByteArray.mk #[110, 97, 109, 101]), (ByteArray.mk #[116, 119, 105, 99, 101]), (ByteArray.mk #[115, 116, 97, 116, 101]), (ByteArray.mk #[100, 105, 114, 116, 121]), (ByteArray.mk #[99, 111, 110, 102, 108, 105, 99, 116]), (ByteArray.mk #[115, 97, 109, 101]), (ByteArray.mk #[119, 97, 121]), (ByteArray.mk #[115, 117, 109]), (ByteArray.mk #[100, 111, 119, 110]), (ByteArray.mk #[113, 117, 111, 116, 97])]).length : Int)))) (by kernel_rfl) (by kernel_rfl) ?_)
      refine sq (o_pv (.bool (decide (e ≥ (([(ByteArray.mk #[111, 107]), (ByteArray.mk #[97, 114, 103]), (ByteArray.mk #[102, 111, 114, 109]), (ByteArray.mk #[115, 104, 111, 114, 116]), (ByteArray.mk #[108, 111, 110, 103]), (ByteArray.mk #[110, 97, 109, 101]), (ByteArray.mk #[116, 119, 105, 99, 101]), (ByteArray.mk #[115, 116, 97, 116, 101]), (ByteArray.mk #[100, 105, 114, 116, 121]), (ByteArray.mk #[99, 111, 110, 102, 108, 105, 99, 116]), (ByteArray.mk #[115, 97, 109, 101]), (ByteArray.mk #[119, 97, 121]), (ByteArray.mk #[115, 117, 109]), (ByteArray.mk #[100, 111, 119, 110]), (ByteArray.mk #[113, 117, 111, 116, 97])]).length : Int)))) rfl (by kernel_rfl) ?_)
      refine nil_ ?_
      refine then_normal (hJ14 _ _ _ ⟨[(12, (.bool (decide ((e < (0 : Int)) ∨ (e ≥ (([(ByteArray.mk #[111, 107]), (ByteArray.mk #[97, 114, 103]), (ByteArray.mk #[102, 111, 114, 109]), (ByteArray.mk #[115, 104, 111, 114, 116]), (ByteArray.mk #[108, 111, 110, 103]), (ByteArray.mk #[110, 97, 109, 101]), (ByteArray.mk #[116, 119, 105, 99, 101]), (ByteArray.mk #[115, 116, 97, 116, 101]), (ByteArray.mk #[100, 105, 114, 116, 121]), (ByteArray.mk #[99, 111, 110, 102, 108, 105, 99, 116]), (ByteArray.mk #[115, 97, 109, 101]), (ByteArray.mk #[119, 97, 121]), (ByteArray.mk #[115, 117, 109]), (ByteArray.mk #[100, 111, 119, 110]), (ByteArray.mk #[113, 117, 111, 116, 97])]).length : Int))))))], fit_mk (fun _ _ => rfl) (by kernel_rfl) (vs_cons (Eq.trans (b := (.bool (decide (e ≥ (([(ByteArray.mk #[111, 107]), (ByteArray.mk #[97, 114, 103]), (ByteArray.mk #[102, 111, 114, 109]), (ByteArray.mk #[115, 104, 111, 114, 116]), (ByteArray.mk #[108, 111, 110, 103]), (ByteArray.mk #[110, 97, 109, 101]), (ByteArray.mk #[116, 119, 105, 99, 101]), (ByteArray.mk #[115, 116, 97, 116, 101]), (ByteArray.mk #[100, 105, 114, 116, 121]), (ByteArray.mk #[99, 111, 110, 102, 108, 105, 99, 116]), (ByteArray.mk #[115, 97, 109, 101]), (ByteArray.mk #[119, 97, 121]), (ByteArray.mk #[115, 117, 109]), (ByteArray.mk #[100, 111, 119, 110]), (ByteArray.mk #[113, 117, 111, 116, 97])]).length : Int))))) (by kernel_rfl) (dec_d ((or_iff_right h17).trans Iff.rfl)).symm) vs_nil), rfl, rfl⟩)
  ·
    rintro _ w15 g16 ⟨rfl, hw⟩
    subst hw
    refine then_normal (K11 _ _ _ _ ?_)
    refine cond_d ((e < (0 : Int)) ∨ (e ≥ (([(ByteArray.mk #[111, 107]), (ByteArray.mk #[97, 114, 103]), (ByteArray.mk #[102, 111, 114, 109]), (ByteArray.mk #[115, 104, 111, 114, 116]), (ByteArray.mk #[108, 111, 110, 103]), (ByteArray.mk #[110, 97, 109, 101]), (ByteArray.mk #[116, 119, 105, 99, 101]), (ByteArray.mk #[115, 116, 97, 116, 101]), (ByteArray.mk #[100, 105, 114, 116, 121]), (ByteArray.mk #[99, 111, 110, 102, 108, 105, 99, 116]), (ByteArray.mk #[115, 97, 109, 101]), (ByteArray.mk #[119, 97, 121]), (ByteArray.mk #[115, 117, 109]), (ByteArray.mk #[100, 111, 119, 110]), (ByteArray.mk #[113, 117, 111, 116, 97])]).length : Int))) (by kernel_rfl) (fun h18 => ?_) (fun h18 => ?_)
    ·
      replace hp := hp.1 h18
      refine seq_ (fun _ K19 => ?_)
      refine reg_ ?_
      refine sq (o_pv (.string (ByteArray.mk #[101, 114, 114, 111, 114])) rfl (by kernel_rfl) ?_)
      refine nil_ ?_
      refine then_normal (K19 _ _ _ _ ?_)
      refine wp_ret ?_
      refine then_ret ?_
      have E20 := (Evo.then0 E0 (Step.evo s7))
      refine end_ret hQ (.string (ByteArray.mk #[101, 114, 114, 111, 114])) (by kernel_rfl) ?_
      exact ⟨(ByteArray.mk #[101, 114, 114, 111, 114]), hp, E20, rfl, (by decide)⟩
    ·
      replace hp := hp.2 h18
      refine wp_skip ?_
      refine then_normal (K10 _ _ _ _ ?_)
      refine seq_ (fun _ K21 => ?_)
      refine reg_ ?_
      refine sq (o_pv (.slice (some ⟨b4, 0, none⟩) 15 15) rfl (by kernel_rfl) ?_)
      refine sq (o_pv (.int .i64 e) rfl (by kernel_rfl) ?_)
      obtain ⟨h22, hp⟩ := hp
      obtain ⟨b23, o24, cs25, ha26, nx27, lt28, ok29, hc30⟩ := Sl.atI (OS.rd O8) e h22
      obtain ⟨rfl, ze31⟩ := ok29
      replace hp := hp ze31
      refine sq (o_pv (.pointer (some ⟨b23, o24 + e.toNat * 1, none⟩)) rfl (x_ixA (m := 15) (c := 15) (k := .i64) (i := e) Tryd.underlying39 Tryd.sizeOf9 (by rw [← ha26]; kernel_rfl) (by kernel_rfl) ⟨h22.1, by rw [O8.1]; exact h22.2⟩) ?_)
      refine sq (o_pv (.string (lget ([(ByteArray.mk #[111, 107]), (ByteArray.mk #[97, 114, 103]), (ByteArray.mk #[102, 111, 114, 109]), (ByteArray.mk #[115, 104, 111, 114, 116]), (ByteArray.mk #[108, 111, 110, 103]), (ByteArray.mk #[110, 97, 109, 101]), (ByteArray.mk #[116, 119, 105, 99, 101]), (ByteArray.mk #[115, 116, 97, 116, 101]), (ByteArray.mk #[100, 105, 114, 116, 121]), (ByteArray.mk #[99, 111, 110, 102, 108, 105, 99, 116]), (ByteArray.mk #[115, 97, 109, 101]), (ByteArray.mk #[119, 97, 121]), (ByteArray.mk #[115, 117, 109]), (ByteArray.mk #[100, 111, 119, 110]), (ByteArray.mk #[113, 117, 111, 116, 97])]) e)) rfl (x_load1 (by kernel_rfl) Tryd.isAgg9 (hc30 0 _ rfl)) ?_)
      refine sq (o_pv (.string (lget ([(ByteArray.mk #[111, 107]), (ByteArray.mk #[97, 114, 103]), (ByteArray.mk #[102, 111, 114, 109]), (ByteArray.mk #[115, 104, 111, 114, 116]), (ByteArray.mk #[108, 111, 110, 103]), (ByteArray.mk #[110, 97, 109, 101]), (ByteArray.mk #[116, 119, 105, 99, 101]), (ByteArray.mk #[115, 116, 97, 116, 101]), (ByteArray.mk #[100, 105, 114, 116, 121]), (ByteArray.mk #[99, 111, 110, 102, 108, 105, 99, 116]), (ByteArray.mk #[115, 97, 109, 101]), (ByteArray.mk #[119, 97, 121]), (ByteArray.mk #[115, 117, 109]), (ByteArray.mk #[100, 111, 119, 110]), (ByteArray.mk #[113, 117, 111, 116, 97])]) e)) rfl (by kernel_rfl) ?_)
      refine nil_ ?_
      refine then_normal (K21 _ _ _ _ ?_)
      refine wp_ret ?_
      have E32 := (Evo.then0 E0 (Step.evo s7))
      refine end_ret hQ (.string (lget ([(ByteArray.mk #[111, 107]), (ByteArray.mk #[97, 114, 103]), (ByteArray.mk #[102, 111, 114, 109]), (ByteArray.mk #[115, 104, 111, 114, 116]), (ByteArray.mk #[108, 111, 110, 103]), (ByteArray.mk #[110, 97, 109, 101]), (ByteArray.mk #[116, 119, 105, 99, 101]), (ByteArray.mk #[115, 116, 97, 116, 101]), (ByteArray.mk #[100, 105, 114, 116, 121]), (ByteArray.mk #[99, 111, 110, 102, 108, 105, 99, 116]), (ByteArray.mk #[115, 97, 109, 101]), (ByteArray.mk #[119, 97, 121]), (ByteArray.mk #[115, 117, 109]), (ByteArray.mk #[100, 111, 119, 110]), (ByteArray.mk #[113, 117, 111, 116, 97])]) e)) (by kernel_rfl) ?_
      exact ⟨(lget ([(ByteArray.mk #[111, 107]), (ByteArray.mk #[97, 114, 103]), (ByteArray.mk #[102, 111, 114, 109]), (ByteArray.mk #[115, 104, 111, 114, 116]), (ByteArray.mk #[108, 111, 110, 103]), (ByteArray.mk #[110, 97, 109, 101]), (ByteArray.mk #[116, 119, 105, 99, 101]), (ByteArray.mk #[115, 116, 97, 116, 101]), (ByteArray.mk #[100, 105, 114, 116, 121]), (ByteArray.mk #[99, 111, 110, 102, 108, 105, 99, 116]), (ByteArray.mk #[115, 97, 109, 101]), (ByteArray.mk #[119, 97, 121]), (ByteArray.mk #[115, 117, 109]), (ByteArray.mk #[100, 111, 119, 110]), (ByteArray.mk #[113, 117, 111, 116, 97])]) e), hp, E32, rfl, ze31⟩

def rectoref3_Words_p (w_ : S_rectoref3_Wrong) (Q : ByteArray → Prop) : Prop :=
  ((w_.Parts.length ≤ 9223372036854775807) → ((inR .i64 w_.Err) → (∃ (I71 : ByteArray → Int → Prop) (m72 : ByteArray → Int → Nat), (I71 (ByteArray.mk #[]) (0 : Int)) ∧ (∀ (s15 : ByteArray) (i17 : Int), (I71 s15 i17) → (s15.size ≤ maxLen) → (inR .i64 i17) → (((i17 < (w_.Parts.length : Int)) → ((inL w_.Parts i17) ∧ ((((lget w_.Parts i17).Word).size ≤ maxLen) → ((inR .i64 ((lget w_.Parts i17).At)) → (((s15 ++ ((lget w_.Parts i17).Word)).size ≤ maxLen) ∧ ((((s15 ++ ((lget w_.Parts i17).Word)) ++ (ByteArray.mk #[32])).size ≤ maxLen) ∧ ((inL w_.Parts i17) ∧ ((((lget w_.Parts i17).Word).size ≤ maxLen) → ((inR .i64 ((lget w_.Parts i17).At)) → (rectoref3_Decimal_p ((lget w_.Parts i17).At) (fun (r129 : ByteArray) => ((r129.size ≤ maxLen) → (((((s15 ++ ((lget w_.Parts i17).Word)) ++ (ByteArray.mk #[32])) ++ r129).size ≤ maxLen) ∧ ((((((s15 ++ ((lget w_.Parts i17).Word)) ++ (ByteArray.mk #[32])) ++ r129) ++ (ByteArray.mk #[58, 32])).size ≤ maxLen) ∧ ((inR .i64 (i17 + (1 : Int))) ∧ ((I71 ((((s15 ++ ((lget w_.Parts i17).Word)) ++ (ByteArray.mk #[32])) ++ r129) ++ (ByteArray.mk #[58, 32])) (i17 + (1 : Int))) ∧ m72 ((((s15 ++ ((lget w_.Parts i17).Word)) ++ (ByteArray.mk #[32])) ++ r129) ++ (ByteArray.mk #[58, 32])) (i17 + (1 : Int)) < m72 s15 i17)))))))))))))))) ∧ ((¬ (i17 < (w_.Parts.length : Int))) → (rectoref3_Word_p w_.Err (fun (r144 : ByteArray) => ((r144.size ≤ maxLen) → (((s15 ++ r144).size ≤ maxLen) ∧ Q (s15 ++ r144)))))))))))
set_option maxRecDepth 20000 in
set_option maxHeartbeats 4000000 in
theorem rectoref3_Words_w {X : List Nat} {w : World} {w_ : S_rectoref3_Wrong} {aw_Parts1 : Option Addr} {cw_Parts2 : Nat} {Q : ByteArray → Prop} (hX0 : Old X w) (hw_Parts3 : Sl r_rectoref3_Part X w aw_Parts1 cw_Parts2 w_.Parts) (rw_Err4 : inR .i64 w_.Err) (hp : rectoref3_Words_p w_ Q) :
    Calls Tryd.prog 57 #[(.agg #[(.slice aw_Parts1 w_.Parts.length cw_Parts2), (.int .i64 w_.Err)])] w (Ret fun v w' => ∃ (r0 : ByteArray), Q r0 ∧ Evo [] w w' ∧ v = (.string r0) ∧ r0.size ≤ maxLen) := by
  have hXo := hX0
  have E0 : Evo [] w w := RB.refl _ _ _
  have hS : Sub X X := Sub.refl _
  unfold rectoref3_Words_p at hp
  refine enter_ Tryd.func57 rfl 35 [(0, (.agg #[(.slice aw_Parts1 w_.Parts.length cw_Parts2), (.int .i64 w_.Err)]))] (by kernel_rfl) (fun Qe hQ => ?_)
  replace hp := hp (Sl.len hw_Parts3)
  replace hp := hp rw_Err4
  refine seq_ (fun _ K5 => ?_)
  refine reg_ ?_
  refine sq (o_newX [(.slice aw_Parts1 w_.Parts.length cw_Parts2), (.int .i64 w_.Err)] 34 (X := X) (B := w.heap.size) E0.size rfl (by kernel_rfl) ?_)
  intro b6 w7 X8 s9 k10 n11
  refine sq (o_pv (.string (ByteArray.mk #[])) rfl (by kernel_rfl) ?_)
  refine nil_ ?_
  refine then_normal (K5 _ _ _ _ ?_)
  refine seq_ (fun _ K12 => ?_)
  refine reg_ ?_
  refine sq (o_pv (.string (ByteArray.mk #[])) rfl (by kernel_rfl) ?_)
  refine nil_ ?_
  refine then_normal (K12 _ _ _ _ ?_)
  refine seq_ (fun _ K13 => ?_)
  refine seq_ (fun _ K14 => ?_)
  refine reg_ ?_
  refine sq (o_pv (.int .i64 (0 : Int)) rfl (by kernel_rfl) ?_)
  refine nil_ ?_
  refine then_normal (K14 _ _ _ _ ?_)
  refine wp_block ?_
  have hw_Parts81 := (Sl.step hw_Parts3 s9)
  have hXo82 := (Old.step hXo s9)
  have E83 := (Evo.then0 E0 (Step.evo s9))
  have hS84 := (Sub.trans hS (Step.up s9))
  obtain ⟨I71, m72, hI73, hp⟩ := hp
  refine loop_ 1073741816 (fun kq lq w75 => ∃ (X76 : List Nat) (s15 : ByteArray) (i17 : Int), (lq = [(3, (.string s15)), (4, (.int .i64 i17))]) ∧ (kq = m72 s15 i17) ∧ (Evo [] w w75) ∧ (Old X76 w75) ∧ (Sub X X76) ∧ (Sl r_rectoref3_Part X76 w75 aw_Parts1 cw_Parts2 w_.Parts) ∧ (OB ([]) w.heap.size X76 w75 b6 [(.slice aw_Parts1 w_.Parts.length cw_Parts2), (.int .i64 w_.Err)] 34) ∧ (s15.size ≤ maxLen) ∧ (inR .i64 i17) ∧ (I71 s15 i17)) (m72 (ByteArray.mk #[]) (0 : Int)) [(3, (.string (ByteArray.mk #[]))), (4, (.int .i64 (0 : Int)))] (vs_cons (by kernel_rfl) (vs_cons (by kernel_rfl) vs_nil)) ⟨X8, (ByteArray.mk #[]), (0 : Int), rfl, rfl, E83, hXo82, hS84, hw_Parts81, k10, (by decide), (by decide), hI73⟩ ?_
  rintro _ _ w75 g78 ⟨X76, s15, i17, rfl, rfl, E85, hXo86, hS87, hw_Parts88, k89, zs16, ri18, hI74⟩ Kl79 hA80
  replace hp := hp s15 i17 hI74 zs16 ri18
  refine seq_ (fun _ K90 => ?_)
  refine seq_ (fun _ K91 => ?_)
  refine reg_ ?_
  refine sq (o_pv (.int .i64 i17) rfl (by kernel_rfl) ?_)
  refine sq (o_pv (.pointer (some ⟨b6, 0, none⟩)) rfl (by kernel_rfl) ?_)
  refine sq (o_pv (.slice aw_Parts1 w_.Parts.length cw_Parts2) rfl (x_load1 (by kernel_rfl) Tryd.isAgg32 (k89.2.1.cell' 0 rfl)) ?_)
  refine sq (o_pv (.int .i64 (w_.Parts.length : Int)) rfl (by kernel_rfl) ?_)
  refine sq (o_pv (.bool (decide (i17 < (w_.Parts.length : Int)))) rfl (by kernel_rfl) ?_)
  refine nil_ ?_
  refine then_normal (K91 _ _ _ _ ?_)
  refine cond_d (i17 < (w_.Parts.length : Int)) (by kernel_rfl) (fun h92 => ?_) (fun h92 => ?_)
  ·
    replace hp := hp.1 h92
    refine wp_skip ?_
    refine then_normal (K90 _ _ _ _ ?_)
    refine seq_ (fun _ K93 => ?_)
    refine wp_block ?_
    refine reg_drawn (RB w75.heap.size []) 18 (by kernel_rfl) (fun w94 hd95 => ?_)
    have e96 := Evo.of_drew hd95
    have z97 : w94.heap.size = w75.heap.size := by rw [hd95]
    clear hd95
    have s99 := Step.of0 X76 e96
    have er98 := RB.refl w75.heap.size [] w94
    have E100 := (Evo.then0 E85 (Step.evo s99))
    have hXo101 := (Old.step hXo86 s99)
    have hS102 := (Sub.trans hS87 (Step.up s99))
    have hw_Parts103 := (Sl.step hw_Parts88 s99)
    have k104 := (OB.step0 k89 s99)
    refine r_take 0 (.string s15) (RB.pre _ _) rfl (by kernel_rfl) (fun _ _ _ h => hQ.panic _ _ _ _ _ h) (.inl ⟨rfl, fun wq hq => (by kernel_rfl)⟩) ?_
    refine r_take 1 (.pointer (some ⟨b6, 0, none⟩)) (RB.pre _ _) rfl (by kernel_rfl) (fun _ _ _ h => hQ.panic _ _ _ _ _ h) (.inl ⟨rfl, fun wq hq => (by kernel_rfl)⟩) ?_
    refine r_take 2 (.slice aw_Parts1 w_.Parts.length cw_Parts2) (RB.pre _ _) rfl (by kernel_rfl) (fun _ _ _ h => hQ.panic _ _ _ _ _ h) (.inl ⟨rfl, fun wq hq => (x_load1 (by kernel_rfl) Tryd.isAgg32 ((Blk.rb k104.2.1 (RB.trans er98 hq) (Nat.lt_of_lt_of_eq (Blk.lt k104.2.1) z97) (fun h => by cases h)).cell' 0 rfl))⟩) ?_
    refine r_take 3 (.int .i64 i17) (RB.pre _ _) rfl (by kernel_rfl) (fun _ _ _ h => hQ.panic _ _ _ _ _ h) (.inl ⟨rfl, fun wq hq => (by kernel_rfl)⟩) ?_
    obtain ⟨h105, hp⟩ := hp
    obtain ⟨b106, o107, cs108, ha109, nx110, lt111, ok112, hc113⟩ := Sl.atI hw_Parts103 i17 h105
    obtain ⟨rfl, zeWord114, reAt115⟩ := r_rectoref3_Part_open ok112
    replace hp := hp zeWord114
    replace hp := hp reAt115
    refine r_take 4 (.pointer (some ⟨b106, o107 + i17.toNat * 2, none⟩)) (RB.pre _ _) rfl (by kernel_rfl) (fun _ _ _ h => hQ.panic _ _ _ _ _ h) (.inl ⟨rfl, fun wq hq => (x_ixA (m := w_.Parts.length) (c := cw_Parts2) (k := .i64) (i := i17) Tryd.underlying32 Tryd.sizeOf112 (by rw [← ha109]; kernel_rfl) (by kernel_rfl) h105)⟩) ?_
    refine r_take 5 (.pointer (some ⟨b106, o107 + i17.toNat * 2, none⟩)) (RB.pre _ _) rfl (by kernel_rfl) (fun _ _ _ h => hQ.panic _ _ _ _ _ h) (.inl ⟨rfl, fun wq hq => (by kernel_rfl)⟩) ?_
    refine r_take 6 (.string ((lget w_.Parts i17).Word)) (RB.pre _ _) rfl (by kernel_rfl) (fun _ _ _ h => hQ.panic _ _ _ _ _ h) (.inl ⟨rfl, fun wq hq => (x_load1 (by kernel_rfl) Tryd.isAgg9 ((CellsAt.rb hc113 (RB.trans er98 hq) (Nat.lt_of_lt_of_eq lt111 z97) (fun h => by cases h)) 0 _ rfl))⟩) ?_
    obtain ⟨h116, hp⟩ := hp
    refine r_take 7 (.string (s15 ++ ((lget w_.Parts i17).Word))) (RB.pre _ _) rfl (by kernel_rfl) (fun _ _ _ h => hQ.panic _ _ _ _ _ h) (.inl ⟨rfl, fun wq hq => (x_cat (by kernel_rfl) (by kernel_rfl) h116)⟩) ?_
    obtain ⟨h117, hp⟩ := hp
    refine r_take 8 (.string ((s15 ++ ((lget w_.Parts i17).Word)) ++ (ByteArray.mk #[32]))) (RB.pre _ _) rfl (by kernel_rfl) (fun _ _ _ h => hQ.panic _ _ _ _ _ h) (.inl ⟨rfl, fun wq hq => (x_cat (by kernel_rfl) (by kernel_rfl) h117)⟩) ?_
    refine r_take 9 (.pointer (some ⟨b6, 0, none⟩)) (RB.pre _ _) rfl (by kernel_rfl) (fun _ _ _ h => hQ.panic _ _ _ _ _ h) (.inl ⟨rfl, fun wq hq => (by kernel_rfl)⟩) ?_
    refine r_take 10 (.slice aw_Parts1 w_.Parts.length cw_Parts2) (RB.pre _ _) rfl (by kernel_rfl) (fun _ _ _ h => hQ.panic _ _ _ _ _ h) (.inl ⟨rfl, fun wq hq => (x_load1 (by kernel_rfl) Tryd.isAgg32 ((Blk.rb k104.2.1 (RB.trans er98 hq) (Nat.lt_of_lt_of_eq (Blk.lt k104.2.1) z97) (fun h => by cases h)).cell' 0 rfl))⟩) ?_
    refine r_take 11 (.int .i64 i17) (RB.pre _ _) rfl (by kernel_rfl) (fun _ _ _ h => hQ.panic _ _ _ _ _ h) (.inl ⟨rfl, fun wq hq => (by kernel_rfl)⟩) ?_
    obtain ⟨h118, hp⟩ := hp
    obtain ⟨b119, o120, cs121, ha122, nx123, lt124, ok125, hc126⟩ := Sl.atI hw_Parts103 i17 h118
    obtain ⟨rfl, zeWord127, reAt128⟩ := r_rectoref3_Part_open ok125
    replace hp := hp zeWord127
    replace hp := hp reAt128
    refine r_take 12 (.pointer (some ⟨b119, o120 + i17.toNat * 2, none⟩)) (RB.pre _ _) rfl (by kernel_rfl) (fun _ _ _ h => hQ.panic _ _ _ _ _ h) (.inl ⟨rfl, fun wq hq => (x_ixA (m := w_.Parts.length) (c := cw_Parts2) (k := .i64) (i := i17) Tryd.underlying32 Tryd.sizeOf112 (by rw [← ha122]; kernel_rfl) (by kernel_rfl) h118)⟩) ?_
    refine r_take 13 (.pointer (some ⟨b119, o120 + i17.toNat * 2 + 1, none⟩)) (RB.pre _ _) rfl (by kernel_rfl) (fun _ _ _ h => hQ.panic _ _ _ _ _ h) (.inl ⟨rfl, fun wq hq => (by kernel_rfl)⟩) ?_
    refine r_take 14 (.int .i64 ((lget w_.Parts i17).At)) (RB.pre _ _) rfl (by kernel_rfl) (fun _ _ _ h => hQ.panic _ _ _ _ _ h) (.inl ⟨rfl, fun wq hq => (x_load1 (by kernel_rfl) Tryd.isAgg3 ((CellsAt.rb hc126 (RB.trans er98 hq) (Nat.lt_of_lt_of_eq lt124 z97) (fun h => by cases h)) 1 _ rfl))⟩) ?_
    refine r_ready [15] (by kernel_rfl) rfl (all_cons ⟨_, _, _, _, _, _, rfl, ?_⟩ all_nil)
    refine o_call 70 #[(.int .i64 ((lget w_.Parts i17).At))] rfl (x_call Tryd.call70 (by kernel_rfl)) (rectoref3_Decimal_w (X := []) (n_ := (lget w_.Parts i17).At) (Old.nil _) reAt128 hp) ?_
    rintro _ w130 ⟨r129, hp, e131, rfl, zr133⟩
    have rm := RB.mono (F' := []) e131 (Nat.le_trans (Nat.le_of_eq z97.symm) (RB.size er98)) (fun _ h => by cases h)
    have er134 := RB.trans er98 rm
    refine ⟨fun _ => rm, ?_⟩
    have s132 := Step.of0 X76 e131
    replace hp := hp zr133
    obtain ⟨h135, hp⟩ := hp
    refine r_take 16 (.string (((s15 ++ ((lget w_.Parts i17).Word)) ++ (ByteArray.mk #[32])) ++ r129)) (RB.pre _ _) rfl (by kernel_rfl) (fun _ _ _ h => hQ.panic _ _ _ _ _ h) (.inl ⟨rfl, fun wq hq => (x_cat (by kernel_rfl) (by kernel_rfl) h135)⟩) ?_
    obtain ⟨h136, hp⟩ := hp
    refine r_take 17 (.string ((((s15 ++ ((lget w_.Parts i17).Word)) ++ (ByteArray.mk #[32])) ++ r129) ++ (ByteArray.mk #[58, 32]))) (RB.pre _ _) rfl (by kernel_rfl) (fun _ _ _ h => hQ.panic _ _ _ _ _ h) (.inl ⟨rfl, fun wq hq => (x_cat (by kernel_rfl) (by kernel_rfl) h136)⟩) ?_
    refine r_ready [18] (by kernel_rfl) rfl (all_cons ⟨_, _, _, _, _, _, rfl, ?_⟩ all_nil)
    refine o_pv (.string ((((s15 ++ ((lget w_.Parts i17).Word)) ++ (ByteArray.mk #[32])) ++ r129) ++ (ByteArray.mk #[58, 32]))) rfl (by kernel_rfl) ?_
    refine ⟨fun h => absurd h (by decide), ?_⟩
    refine r_done (by kernel_rfl) ?_
    refine blk_normal ?_
    refine then_normal (K93 _ _ _ _ ?_)
    refine reg_ ?_
    refine sq (o_pv (.int .i64 i17) rfl (by kernel_rfl) ?_)
    obtain ⟨h137, hp⟩ := hp
    refine sq (o_pv (.int .i64 (i17 + (1 : Int))) rfl (x_add2 (k := .i64) (a := i17) (b := (1 : Int)) (i17 + (1 : Int)) (by kernel_rfl) (by kernel_rfl) (wrap_inR h137)) ?_)
    refine sq (o_pv (.int .i64 (i17 + (1 : Int))) rfl (by kernel_rfl) ?_)
    refine nil_ ?_
    have E138 := (Evo.then0 E100 e131)
    have hXo139 := (Old.step hXo101 s132)
    have hS140 := (Sub.trans hS102 (Step.up s132))
    have hw_Parts141 := (Sl.step hw_Parts103 s132)
    have k142 := (OB.step0 k104 s132)
    refine then_normal (hA80 _ _ _ ⟨_, [(3, (.string ((((s15 ++ ((lget w_.Parts i17).Word)) ++ (ByteArray.mk #[32])) ++ r129) ++ (ByteArray.mk #[58, 32])))), (4, (.int .i64 (i17 + (1 : Int))))], hp.2, fit_mk (AgB.mix _ _ _) (by kernel_rfl) (vs_cons (by kernel_rfl) (vs_cons (by kernel_rfl) vs_nil)), ?_⟩)
    exact ⟨X76, ((((s15 ++ ((lget w_.Parts i17).Word)) ++ (ByteArray.mk #[32])) ++ r129) ++ (ByteArray.mk #[58, 32])), (i17 + (1 : Int)), rfl, rfl, E138, hXo139, hS140, hw_Parts141, k142, h136, h137, hp.1⟩
  ·
    replace hp := hp.2 h92
    refine wp_exit ?_
    refine then_exit ?_
    refine then_exit ?_
    refine blk_exit ?_
    refine then_normal (K13 _ _ _ _ ?_)
    refine seq_ (fun _ K143 => ?_)
    refine reg_ ?_
    refine sq (o_pv (.string s15) rfl (by kernel_rfl) ?_)
    refine sq (o_pv (.pointer (some ⟨b6, 1, none⟩)) rfl (by kernel_rfl) ?_)
    refine sq (o_pv (.int .i64 w_.Err) rfl (x_load1 (by kernel_rfl) Tryd.isAgg3 (k89.2.1.cell' 1 rfl)) ?_)
    refine sq (o_call 96 #[(.int .i64 w_.Err)] rfl (x_call Tryd.call96 (by kernel_rfl)) (rectoref3_Word_w (X := []) (e := w_.Err) (Old.nil _) rw_Err4 hp) ?_)
    rintro _ w145 ⟨r144, hp, e146, rfl, zr148⟩
    have s147 := Step.of0 X76 e146
    replace hp := hp zr148
    obtain ⟨h149, hp⟩ := hp
    refine sq (o_pv (.string (s15 ++ r144)) rfl (x_cat (by kernel_rfl) (by kernel_rfl) h149) ?_)
    refine sq (o_pv (.string (s15 ++ r144)) rfl (by kernel_rfl) ?_)
    refine nil_ ?_
    refine then_normal (K143 _ _ _ _ ?_)
    refine wp_ret ?_
    have E150 := (Evo.then0 E85 e146)
    refine end_ret hQ (.string (s15 ++ r144)) (by kernel_rfl) ?_
    exact ⟨(s15 ++ r144), hp, E150, rfl, h149⟩

def api_Fault_Unwrap_p (f_ : S_api_Fault) (Q : PErr → Prop) : Prop :=
  ((f_.Part.size ≤ maxLen) → ((inR .i64 f_.At) → Q f_.Err))
set_option maxRecDepth 20000 in
set_option maxHeartbeats 4000000 in
theorem api_Fault_Unwrap_w {X : List Nat} {w : World} {f_ : S_api_Fault} {bf_1 : Nat} {vf_Err5 : Value} {Q : PErr → Prop} (hX0 : Old X w) (kf_2 : RO X w bf_1 [(.string f_.Part), (.int .i64 f_.At), vf_Err5] 119) (zf_Part3 : f_.Part.size ≤ maxLen) (rf_At4 : inR .i64 f_.At) (hf_Err6 : (rErr 94 115 119).ok X w ([vf_Err5]) f_.Err) (hp : api_Fault_Unwrap_p f_ Q) :
    Calls Tryd.prog 177 #[(.pointer (some ⟨bf_1, 0, none⟩))] w (Ret fun v w' => ∃ (r0 : PErr), Q r0 ∧ Evo [] w w' ∧ ∃ (vq01 : Value), v = vq01 ∧ (rErr 94 115 119).ok X w' ([vq01]) r0) := by
  have hXo := hX0
  have E0 : Evo [] w w := RB.refl _ _ _
  have hS : Sub X X := Sub.refl _
  unfold api_Fault_Unwrap_p at hp
  refine enter_ Tryd.func177 rfl 7 [(0, (.pointer (some ⟨bf_1, 0, none⟩)))] (by kernel_rfl) (fun Qe hQ => ?_)
  replace hp := hp zf_Part3
  replace hp := hp rf_At4
  refine seq_ (fun _ K7 => ?_)
  refine reg_ ?_
  refine sq (o_pv .nilIface rfl (by kernel_rfl) ?_)
  refine nil_ ?_
  refine then_normal (K7 _ _ _ _ ?_)
  refine seq_ (fun _ K8 => ?_)
  refine reg_ ?_
  refine sq (o_pv (.pointer (some ⟨bf_1, 0, none⟩)) rfl (by kernel_rfl) ?_)
  refine sq (o_pv (.pointer (some ⟨bf_1, 0, none⟩)) rfl (by kernel_rfl) ?_)
  refine sq (o_pv (.pointer (some ⟨bf_1, 2, none⟩)) rfl (by kernel_rfl) ?_)
  refine sq (o_pv vf_Err5 rfl (x_load1 (by kernel_rfl) Tryd.isAgg26 (kf_2.2.cell' 2 rfl)) ?_)
  refine sq (o_pv vf_Err5 rfl (by kernel_rfl) ?_)
  refine nil_ ?_
  refine then_normal (K8 _ _ _ _ ?_)
  refine wp_ret ?_
  refine end_ret hQ vf_Err5 (by kernel_rfl) ?_
  exact ⟨f_.Err, hp, E0, vf_Err5, rfl, (Rep.less (rErr 94 115 119) hf_Err6 hS)⟩

def errors_is_p (err : PErr) (target : Int) (targetComparable : Bool) (Q : Bool → Prop) : Prop :=
  ((inR .i64 target) → (∃ (I230 : PErr → Prop) (m231 : PErr → Nat), (I230 err) ∧ (∀ (err116 : PErr), (I230 err116) → (((err116.isNil = true) → (∃ k265 : Prop, (k265 → Q false) ∧ (((targetComparable = true) → (k265)) ∧ ((¬ (targetComparable = true)) → (k265))))) ∧ ((¬ (err116.isNil = true)) → (((err116.isNo = true) → (∀ n285 : Int, err116 = PErr.no n285 → ((inR .i64 n285) → (∃ k290 : Bool → Prop, (∀ (s289 : Bool), k290 s289 → (((s289 = true) → Q true) ∧ ((s289 = false) → Q false))) ∧ (((targetComparable = true) → (k290 (decide (n285 = target)))) ∧ ((¬ (targetComparable = true)) → (k290 false))))))) ∧ ((¬ (err116.isNo = true)) → (∀ (part312 : ByteArray) (at313 n314 : Int), err116 = PErr.fault part312 at313 n314 → ((part312.size ≤ maxLen) → ((inR .i64 at313) → ((inR .i64 n314) → (∃ k322 : Prop, (k322 → (api_Fault_Unwrap_p (S_api_Fault.mk part312 at313 (PErr.no n314)) (fun (r342 : PErr) => (((r342.isNil = true) → Q false) ∧ ((r342.isNil = false) → ((I230 r342) ∧ m231 r342 < m231 err116)))))) ∧ (((targetComparable = true) → (k322)) ∧ ((¬ (targetComparable = true)) → (k322)))))))))))))))
set_option maxRecDepth 20000 in
set_option maxHeartbeats 4000000 in
theorem errors_is_w {X : List Nat} {w : World} {err : PErr} {target : Int} {targetComparable : Bool} {verr1 : Value} {Q : Bool → Prop} (hX0 : Old X w) (herr2 : (rErr 94 115 119).ok X w ([verr1]) err) (rtarget3 : inR .i64 target) (hp : errors_is_p err target targetComparable Q) :
    Calls Tryd.prog 98 #[verr1, (.iface 94 (.int .i64 target)), (.bool targetComparable)] w (Ret fun v w' => ∃ (r0 : Bool), Q r0 ∧ Evo [] w w' ∧ v = (.bool r0)) := by
  have hXo := hX0
  have E0 : Evo [] w w := RB.refl _ _ _
  have hS : Sub X X := Sub.refl _
  unfold errors_is_p at hp
  refine enter_ Tryd.func98 rfl 54 [(0, verr1), (1, (.iface 94 (.int .i64 target))), (2, (.bool targetComparable))] (by kernel_rfl) (fun Qe hQ => ?_)
  replace hp := hp rtarget3
  refine seq_ (fun _ K4 => ?_)
  refine reg_ ?_
  refine sq (o_pv (.bool false) rfl (by kernel_rfl) ?_)
  refine nil_ ?_
  refine then_normal (K4 _ _ _ _ ?_)
  refine wp_block ?_
  obtain ⟨I230, m231, hI232, hp⟩ := hp
  refine loop_ 18014398509479873 (fun kq lq w234 => ∃ (X235 : List Nat) (err116 : PErr) (v117 : Value), (lq = [(0, v117)]) ∧ (kq = m231 err116) ∧ (Evo [] w w234) ∧ (Old X235 w234) ∧ (Sub X X235) ∧ ((rErr 94 115 119).ok X235 w234 ([v117]) err116) ∧ (I230 err116)) (m231 err) [(0, verr1)] (vs_cons (by kernel_rfl) vs_nil) ⟨X, err, verr1, rfl, rfl, E0, hXo, hS, herr2, hI232⟩ ?_
  rintro _ _ w234 g237 ⟨X235, err116, v117, rfl, rfl, E240, hXo241, hS242, h118, hI233⟩ Kl238 hA239
  replace hp := hp err116 hI233
  refine wp_block ?_
  refine seq_ (fun _ K243 => ?_)
  refine seq_ (fun _ K244 => ?_)
  by_cases h261 : err116.isNil = true
  ·
    replace hp := hp.1 h261
    have hc263 := isNil_eq h261
    rw [hc263] at h118
    obtain rfl := rErr_inv_nil h118
    obtain ⟨k265, hk266, hp⟩ := hp
    refine ground_ ?_
    refine join_ 1032192 (fun lq w267 => ∃ (X268 : List Nat), (lq = [(19, (.bool false))]) ∧ (Evo [] w w267) ∧ (Old X268 w267) ∧ (Sub X X268) ∧ (k265)) (fun Kj269 hJ270 => ?_) ?_
    ·
      refine reg_ ?_
      by_cases h275 : targetComparable = true
      ·
        replace hp := hp.1 h275
        refine sq (o_pv (.bool true) rfl (x_bt (by kernel_rfl) h275) ?_)
        refine sq (o_pv (.bool true) rfl (by kernel_rfl) ?_)
        refine sq (o_pv .nilIface (by kernel_rfl) (by kernel_rfl) ?_)
        refine sq (o_pv (.iface 94 (.int .i64 target)) (by kernel_rfl) (by kernel_rfl) ?_)
        refine sq (o_pv (.bool false) (by kernel_rfl) (x_if_nil (t := 94) (v := (.int .i64 target)) Tryd.underlying26 (by kernel_rfl) (by kernel_rfl)) ?_)
        refine sq (o_pv (.bool false) rfl (by kernel_rfl) ?_)
        refine nil_ ?_
        refine then_normal (hJ270 _ _ _ ⟨[(19, (.bool false))], fit_mk (fun _ _ => rfl) (by kernel_rfl) (vs_cons (by kernel_rfl) vs_nil), ?_⟩)
        exact ⟨X235, rfl, E240, hXo241, hS242, hp⟩
      ·
        replace hp := hp.2 h275
        refine sq (o_pv (.bool false) rfl (x_bf (by kernel_rfl) h275) ?_)
        refine sq (o_pv (.bool false) rfl (by kernel_rfl) ?_)
        refine sq (o_not (by kernel_rfl) ?_)
        refine sq (o_not (by kernel_rfl) ?_)
        refine sq (o_not (by kernel_rfl) ?_)
        refine sq (o_pv (.bool false) rfl (by kernel_rfl) ?_)
        refine nil_ ?_
        refine then_normal (hJ270 _ _ _ ⟨[(19, (.bool false))], fit_mk (fun _ _ => rfl) (by kernel_rfl) (vs_cons (by kernel_rfl) vs_nil), ?_⟩)
        exact ⟨X235, rfl, E240, hXo241, hS242, hp⟩
    ·
      rintro _ w267 g276 ⟨X268, rfl, E272, hXo273, hS274, hv271⟩
      replace hp := hk266 hv271
      refine then_normal (K244 _ _ _ _ ?_)
      refine cond_f (by kernel_rfl) ?_
      refine wp_skip ?_
      refine then_normal (K243 _ _ _ _ ?_)
      refine seq_ (fun _ K277 => ?_)
      refine seq_ (fun _ K278 => ?_)
      refine reg_ ?_
      refine sq (o_pv .nilIface rfl (by kernel_rfl) ?_)
      refine sq (o_pv (.tuple #[.nilIface, (.bool false)]) rfl (x_tassertn (by kernel_rfl) (fun w => by kernel_rfl)) ?_)
      refine sq (o_pv (.tuple #[.nilIface, (.bool false)]) rfl (by kernel_rfl) ?_)
      refine sq (o_pv .nilIface rfl (by kernel_rfl) ?_)
      refine sq (o_pv (.bool false) rfl (by kernel_rfl) ?_)
      refine sq (o_pv .nilIface rfl (by kernel_rfl) ?_)
      refine sq (o_pv (.bool false) rfl (by kernel_rfl) ?_)
      refine nil_ ?_
      refine then_normal (K278 _ _ _ _ ?_)
      refine seq_ (fun _ K279 => ?_)
      refine reg_ ?_
      refine sq (o_pv (.bool false) rfl (by kernel_rfl) ?_)
      refine sq (o_pv (.bool false) rfl (by kernel_rfl) ?_)
      refine sq (o_not (by kernel_rfl) ?_)
      refine sq (o_not (by kernel_rfl) ?_)
      refine sq (o_not (by kernel_rfl) ?_)
      refine sq (o_pv (.bool false) rfl (by kernel_rfl) ?_)
      refine nil_ ?_
      refine then_normal (K279 _ _ _ _ ?_)
      refine cond_f (by kernel_rfl) ?_
      refine wp_skip ?_
      refine then_normal (K277 _ _ _ _ ?_)
      refine seq_ (fun _ K280 => ?_)
      refine reg_ ?_
      refine sq (o_pv .nilIface rfl (by kernel_rfl) ?_)
      refine nil_ ?_
      refine then_normal (K280 _ _ _ _ ?_)
      refine wp_block ?_
      refine seq_ (fun _ K281 => ?_)
      refine reg_ ?_
      refine sq (o_pv (.tuple #[.nilIface, (.bool false)]) rfl (x_tassertn (by kernel_rfl) (fun w => by kernel_rfl)) ?_)
      refine sq (o_pv (.bool false) rfl (by kernel_rfl) ?_)
      refine sq (o_pv .nilIface rfl (by kernel_rfl) ?_)
      refine nil_ ?_
      refine then_normal (K281 _ _ _ _ ?_)
      refine cond_f (by kernel_rfl) ?_
      refine seq_ (fun _ K282 => ?_)
      refine reg_ ?_
      refine sq (o_pv (.tuple #[.nilIface, (.bool false)]) rfl (x_tassertn (by kernel_rfl) (fun w => by kernel_rfl)) ?_)
      refine sq (o_pv (.bool false) rfl (by kernel_rfl) ?_)
      refine sq (o_pv .nilIface rfl (by kernel_rfl) ?_)
      refine nil_ ?_
      refine then_normal (K282 _ _ _ _ ?_)
      refine cond_f (by kernel_rfl) ?_
      refine seq_ (fun _ K283 => ?_)
      refine reg_ ?_
      refine sq (o_pv .nilIface rfl (by kernel_rfl) ?_)
      refine nil_ ?_
      refine then_normal (K283 _ _ _ _ ?_)
      refine seq_ (fun _ K284 => ?_)
      refine reg_ ?_
      refine sq (o_pv (.bool false) rfl (by kernel_rfl) ?_)
      refine nil_ ?_
      refine then_normal (K284 _ _ _ _ ?_)
      refine wp_ret ?_
      refine blk_ret ?_
      refine blk_ret ?_
      refine then_ret ?_
      refine blk_ret ?_
      refine end_ret hQ (.bool false) (by kernel_rfl) ?_
      exact ⟨false, hp, E272, rfl⟩
  ·
    replace hp := hp.2 h261
    by_cases h262 : err116.isNo = true
    ·
      replace hp := hp.1 h262
      obtain ⟨n285, hc286⟩ := isNo_eq h262
      replace hp := hp n285 hc286
      rw [hc286] at h118
      obtain ⟨rfl, r287⟩ := rErr_inv_no h118
      replace hp := hp r287
      obtain ⟨k290, hk291, hp⟩ := hp
      refine ground_ ?_
      refine join_ 1032192 (fun lq w292 => ∃ (X293 : List Nat) (s289 : Bool), (lq = [(19, (.bool s289))]) ∧ (Evo [] w w292) ∧ (Old X293 w292) ∧ (Sub X X293) ∧ (k290 s289)) (fun Kj294 hJ295 => ?_) ?_
      ·
        refine reg_ ?_
        by_cases h300 : targetComparable = true
        ·
          replace hp := hp.1 h300
          refine sq (o_pv (.bool true) rfl (x_bt (by kernel_rfl) h300) ?_)
          refine sq (o_pv (.bool true) rfl (by kernel_rfl) ?_)
          refine sq (o_pv (.iface 94 (.int .i64 n285)) (by kernel_rfl) (by kernel_rfl) ?_)
          refine sq (o_pv (.iface 94 (.int .i64 target)) (by kernel_rfl) (by kernel_rfl) ?_)
          refine sq (o_pv (.bool (decide (n285 = target))) (by kernel_rfl) (x_if_num (k := .i64) (a := n285) (b := target) (i := Tryd.t94) Tryd.underlying26 Tryd.underlying94 (by kernel_rfl) rfl (by kernel_rfl) (by kernel_rfl)) ?_)
          refine sq (o_pv (.bool (decide (n285 = target))) rfl (by kernel_rfl) ?_)
          refine nil_ ?_
          refine then_normal (hJ295 _ _ _ ⟨[(19, (.bool (decide (n285 = target))))], fit_mk (fun _ _ => rfl) (by kernel_rfl) (vs_cons (by kernel_rfl) vs_nil), ?_⟩)
          exact ⟨X235, (decide (n285 = target)), rfl, E240, hXo241, hS242, hp⟩
        ·
          replace hp := hp.2 h300
          refine sq (o_pv (.bool false) rfl (x_bf (by kernel_rfl) h300) ?_)
          refine sq (o_pv (.bool false) rfl (by kernel_rfl) ?_)
          refine sq (o_not (by kernel_rfl) ?_)
          refine sq (o_not (by kernel_rfl) ?_)
          refine sq (o_not (by kernel_rfl) ?_)
          refine sq (o_pv (.bool false) rfl (by kernel_rfl) ?_)
          refine nil_ ?_
          refine then_normal (hJ295 _ _ _ ⟨[(19, (.bool false))], fit_mk (fun _ _ => rfl) (by kernel_rfl) (vs_cons (by kernel_rfl) vs_nil), ?_⟩)
          exact ⟨X235, false, rfl, E240, hXo241, hS242, hp⟩
      ·
        rintro _ w292 g301 ⟨X293, s289, rfl, E297, hXo298, hS299, hv296⟩
        replace hp := hk291 s289 hv296
        refine then_normal (K244 _ _ _ _ ?_)
        refine cond_b s289 (by kernel_rfl) (fun h302 => ?_) (fun h302 => ?_)
        ·
          replace hp := hp.1 h302
          refine seq_ (fun _ K303 => ?_)
          refine reg_ ?_
          refine sq (o_pv (.bool true) rfl (by kernel_rfl) ?_)
          refine nil_ ?_
          refine then_normal (K303 _ _ _ _ ?_)
          refine wp_ret ?_
          refine then_ret ?_
          refine blk_ret ?_
          refine then_ret ?_
          refine blk_ret ?_
          refine end_ret hQ (.bool true) (by kernel_rfl) ?_
          exact ⟨true, hp, E297, rfl⟩
        ·
          replace hp := hp.2 h302
          refine wp_skip ?_
          refine then_normal (K243 _ _ _ _ ?_)
          refine seq_ (fun _ K304 => ?_)
          refine seq_ (fun _ K305 => ?_)
          refine reg_ ?_
          refine sq (o_pv (.iface 94 (.int .i64 n285)) rfl (by kernel_rfl) ?_)
          refine sq (o_pv (.tuple #[.nilIface, (.bool false)]) rfl (x_tassert (t := 94) (v := (.int .i64 n285)) (by kernel_rfl) (fun v xT w => run_typeAssert_lacksB Tryd.underlying204 (by kernel_rfl) (by kernel_rfl) v xT w)) ?_)
          refine sq (o_pv (.tuple #[.nilIface, (.bool false)]) rfl (by kernel_rfl) ?_)
          refine sq (o_pv .nilIface rfl (by kernel_rfl) ?_)
          refine sq (o_pv (.bool false) rfl (by kernel_rfl) ?_)
          refine sq (o_pv .nilIface rfl (by kernel_rfl) ?_)
          refine sq (o_pv (.bool false) rfl (by kernel_rfl) ?_)
          refine nil_ ?_
          refine then_normal (K305 _ _ _ _ ?_)
          refine seq_ (fun _ K306 => ?_)
          refine reg_ ?_
          refine sq (o_pv (.bool false) rfl (by kernel_rfl) ?_)
          refine sq (o_pv (.bool false) rfl (by kernel_rfl) ?_)
          refine sq (o_not (by kernel_rfl) ?_)
          refine sq (o_not (by kernel_rfl) ?_)
          refine sq (o_not (by kernel_rfl) ?_)
          refine sq (o_pv (.bool false) rfl (by kernel_rfl) ?_)
          refine nil_ ?_
          refine then_normal (K306 _ _ _ _ ?_)
          refine cond_f (by kernel_rfl) ?_
          refine wp_skip ?_
          refine then_normal (K304 _ _ _ _ ?_)
          refine seq_ (fun _ K307 => ?_)
          refine reg_ ?_
          refine sq (o_pv (.iface 94 (.int .i64 n285)) rfl (by kernel_rfl) ?_)
          refine nil_ ?_
          refine then_normal (K307 _ _ _ _ ?_)
          refine wp_block ?_
          refine seq_ (fun _ K308 => ?_)
          refine reg_ ?_
          refine sq (o_pv (.tuple #[.nilIface, (.bool false)]) rfl (x_tassert (t := 94) (v := (.int .i64 n285)) (by kernel_rfl) (fun v xT w => run_typeAssert_lacksB Tryd.underlying207 (by kernel_rfl) (by kernel_rfl) v xT w)) ?_)
          refine sq (o_pv (.bool false) rfl (by kernel_rfl) ?_)
          refine sq (o_pv .nilIface rfl (by kernel_rfl) ?_)
          refine nil_ ?_
          refine then_normal (K308 _ _ _ _ ?_)
          refine cond_f (by kernel_rfl) ?_
          refine seq_ (fun _ K309 => ?_)
          refine reg_ ?_
          refine sq (o_pv (.tuple #[.nilIface, (.bool false)]) rfl (x_tassert (t := 94) (v := (.int .i64 n285)) (by kernel_rfl) (fun v xT w => run_typeAssert_lacksB Tryd.underlying209 (by kernel_rfl) (by kernel_rfl) v xT w)) ?_)
          refine sq (o_pv (.bool false) rfl (by kernel_rfl) ?_)
          refine sq (o_pv .nilIface rfl (by kernel_rfl) ?_)
          refine nil_ ?_
          refine then_normal (K309 _ _ _ _ ?_)
          refine cond_f (by kernel_rfl) ?_
          refine seq_ (fun _ K310 => ?_)
          refine reg_ ?_
          refine sq (o_pv (.iface 94 (.int .i64 n285)) rfl (by kernel_rfl) ?_)
          refine nil_ ?_
          refine then_normal (K310 _ _ _ _ ?_)
          refine seq_ (fun _ K311 => ?_)
          refine reg_ ?_
          refine sq (o_pv (.bool false) rfl (by kernel_rfl) ?_)
          refine nil_ ?_
          refine then_normal (K311 _ _ _ _ ?_)
          refine wp_ret ?_
          refine blk_ret ?_
          refine blk_ret ?_
          refine then_ret ?_
          refine blk_ret ?_
          refine end_ret hQ (.bool false) (by kernel_rfl) ?_
          exact ⟨false, hp, E297, rfl⟩
    ·
      replace hp := hp.2 h262
      obtain ⟨part312, at313, n314, hc315⟩ := isFault_eq h261 h262
      replace hp := hp part312 at313 n314 hc315
      rw [hc315] at h118
      obtain ⟨b316, rfl, k317, z318, r319, r320⟩ := rErr_inv_fault h118
      replace hp := hp z318
      replace hp := hp r319
      replace hp := hp r320
      obtain ⟨k322, hk323, hp⟩ := hp
      refine ground_ ?_
      refine join_ 1032192 (fun lq w324 => ∃ (X325 : List Nat), (lq = [(19, (.bool false))]) ∧ (Evo [] w w324) ∧ (Old X325 w324) ∧ (Sub X X325) ∧ (RO X325 w324 b316 [(.string part312), (.int .i64 at313), (.iface 94 (.int .i64 n314))] 119) ∧ (k322)) (fun Kj326 hJ327 => ?_) ?_
      ·
        refine reg_ ?_
        by_cases h333 : targetComparable = true
        ·
          replace hp := hp.1 h333
          refine sq (o_pv (.bool true) rfl (x_bt (by kernel_rfl) h333) ?_)
          refine sq (o_pv (.bool true) rfl (by kernel_rfl) ?_)
          refine sq (o_pv (.iface 115 (.pointer (some ⟨b316, 0, none⟩))) (by kernel_rfl) (by kernel_rfl) ?_)
          refine sq (o_pv (.iface 94 (.int .i64 target)) (by kernel_rfl) (by kernel_rfl) ?_)
          refine sq (o_pv (.bool false) (by kernel_rfl) (x_if_ne (tx := 115) (vx := (.pointer (some ⟨b316, 0, none⟩))) (ty' := 94) (vy := (.int .i64 target)) Tryd.underlying26 (by kernel_rfl) (by kernel_rfl) rfl) ?_)
          refine sq (o_pv (.bool false) rfl (by kernel_rfl) ?_)
          refine nil_ ?_
          refine then_normal (hJ327 _ _ _ ⟨[(19, (.bool false))], fit_mk (fun _ _ => rfl) (by kernel_rfl) (vs_cons (by kernel_rfl) vs_nil), ?_⟩)
          exact ⟨X235, rfl, E240, hXo241, hS242, k317, hp⟩
        ·
          replace hp := hp.2 h333
          refine sq (o_pv (.bool false) rfl (x_bf (by kernel_rfl) h333) ?_)
          refine sq (o_pv (.bool false) rfl (by kernel_rfl) ?_)
          refine sq (o_not (by kernel_rfl) ?_)
          refine sq (o_not (by kernel_rfl) ?_)
          refine sq (o_not (by kernel_rfl) ?_)
          refine sq (o_pv (.bool false) rfl (by kernel_rfl) ?_)
          refine nil_ ?_
          refine then_normal (hJ327 _ _ _ ⟨[(19, (.bool false))], fit_mk (fun _ _ => rfl) (by kernel_rfl) (vs_cons (by kernel_rfl) vs_nil), ?_⟩)
          exact ⟨X235, rfl, E240, hXo241, hS242, k317, hp⟩
      ·
        rintro _ w324 g334 ⟨X325, rfl, E329, hXo330, hS331, k332, hv328⟩
        replace hp := hk323 hv328
        refine then_normal (K244 _ _ _ _ ?_)
        refine cond_f (by kernel_rfl) ?_
        refine wp_skip ?_
        refine then_normal (K243 _ _ _ _ ?_)
        refine seq_ (fun _ K335 => ?_)
        refine seq_ (fun _ K336 => ?_)
        refine reg_ ?_
        refine sq (o_pv (.iface 115 (.pointer (some ⟨b316, 0, none⟩))) rfl (by kernel_rfl) ?_)
        refine sq (o_pv (.tuple #[.nilIface, (.bool false)]) rfl (x_tassert (t := 115) (v := (.pointer (some ⟨b316, 0, none⟩))) (by kernel_rfl) (fun v xT w => run_typeAssert_lacksB Tryd.underlying204 (by kernel_rfl) (by kernel_rfl) v xT w)) ?_)
        refine sq (o_pv (.tuple #[.nilIface, (.bool false)]) rfl (by kernel_rfl) ?_)
        refine sq (o_pv .nilIface rfl (by kernel_rfl) ?_)
        refine sq (o_pv (.bool false) rfl (by kernel_rfl) ?_)
        refine sq (o_pv .nilIface rfl (by kernel_rfl) ?_)
        refine sq (o_pv (.bool false) rfl (by kernel_rfl) ?_)
        refine nil_ ?_
        refine then_normal (K336 _ _ _ _ ?_)
        refine seq_ (fun _ K337 => ?_)
        refine reg_ ?_
        refine sq (o_pv (.bool false) rfl (by kernel_rfl) ?_)
        refine sq (o_pv (.bool false) rfl (by kernel_rfl) ?_)
        refine sq (o_not (by kernel_rfl) ?_)
        refine sq (o_not (by kernel_rfl) ?_)
        refine sq (o_not (by kernel_rfl) ?_)
        refine sq (o_pv (.bool false) rfl (by kernel_rfl) ?_)
        refine nil_ ?_
        refine then_normal (K337 _ _ _ _ ?_)
        refine cond_f (by kernel_rfl) ?_
        refine wp_skip ?_
        refine then_normal (K335 _ _ _ _ ?_)
        refine seq_ (fun _ K338 => ?_)
        refine reg_ ?_
        refine sq (o_pv (.iface 115 (.pointer (some ⟨b316, 0, none⟩))) rfl (by kernel_rfl) ?_)
        refine nil_ ?_
        refine then_normal (K338 _ _ _ _ ?_)
        refine wp_block ?_
        refine seq_ (fun _ K339 => ?_)
        refine reg_ ?_
        refine sq (o_pv (.tuple #[(.iface 115 (.pointer (some ⟨b316, 0, none⟩))), (.bool true)]) rfl (x_tasserts (t := 115) (v := (.pointer (some ⟨b316, 0, none⟩))) (by kernel_rfl) (fun v xT w => run_typeAssert_hasB Tryd.underlying207 (by kernel_rfl) v xT w)) ?_)
        refine sq (o_pv (.bool true) rfl (by kernel_rfl) ?_)
        refine sq (o_pv (.iface 115 (.pointer (some ⟨b316, 0, none⟩))) rfl (by kernel_rfl) ?_)
        refine nil_ ?_
        refine then_normal (K339 _ _ _ _ ?_)
        refine cond_t (by kernel_rfl) ?_
        refine seq_ (fun _ K340 => ?_)
        refine reg_ ?_
        refine sq (o_pv (.iface 115 (.pointer (some ⟨b316, 0, none⟩))) rfl (by kernel_rfl) ?_)
        refine nil_ ?_
        refine then_normal (K340 _ _ _ _ ?_)
        refine seq_ (fun _ K341 => ?_)
        refine reg_ ?_
        refine sq (o_pv (.iface 115 (.pointer (some ⟨b316, 0, none⟩))) rfl (by kernel_rfl) ?_)
        refine sq (o_call 177 #[(.pointer (some ⟨b316, 0, none⟩))] rfl (x_invoke (t := 115) (v := (.pointer (some ⟨b316, 0, none⟩))) (r := (.pointer (some ⟨b316, 0, none⟩))) (by kernel_rfl) (fun _ => by kernel_rfl) Tryd.call177 (by kernel_rfl)) (api_Fault_Unwrap_w (X := X325) (f_ := (S_api_Fault.mk part312 at313 (PErr.no n314))) hXo330 k332 z318 r319 (rErr_no r320) hp) ?_)
        rintro vr346 w343 ⟨r342, hp, e344, _, rfl, hr347⟩
        have s345 := Step.of0 X325 e344
        refine sq (o_pv vr346 rfl (by kernel_rfl) ?_)
        refine nil_ ?_
        refine then_normal (K341 _ _ _ _ ?_)
        refine seq_ (fun _ K348 => ?_)
        refine reg_ ?_
        refine sq (o_pv vr346 rfl (by kernel_rfl) ?_)
        refine sq (o_pv (.bool r342.isNil) rfl (x_err_eq r342 hr347 Tryd.underlying26 (by kernel_rfl)) ?_)
        refine nil_ ?_
        refine then_normal (K348 _ _ _ _ ?_)
        refine cond_b r342.isNil (by kernel_rfl) (fun h349 => ?_) (fun h349 => ?_)
        ·
          replace hp := hp.1 h349
          refine seq_ (fun _ K350 => ?_)
          refine reg_ ?_
          refine sq (o_pv (.bool false) rfl (by kernel_rfl) ?_)
          refine nil_ ?_
          refine then_normal (K350 _ _ _ _ ?_)
          refine wp_ret ?_
          refine blk_ret ?_
          refine blk_ret ?_
          refine then_ret ?_
          refine blk_ret ?_
          have E351 := (Evo.then0 E329 e344)
          refine end_ret hQ (.bool false) (by kernel_rfl) ?_
          exact ⟨false, hp, E351, rfl⟩
        ·
          replace hp := hp.2 h349
          refine wp_skip ?_
          refine blk_normal ?_
          refine blk_normal ?_
          have E352 := (Evo.then0 E329 e344)
          have hXo353 := (Old.step hXo330 s345)
          have hS354 := (Sub.trans hS331 (Step.up s345))
          refine then_normal (hA239 _ _ _ ⟨_, [(0, vr346)], hp.2, fit_mk (AgB.nest (AgB.look (AgB.mix _ _ _) (by kernel_rfl)) (by kernel_rfl) (by kernel_rfl)) (by kernel_rfl) (vs_cons (by kernel_rfl) vs_nil), ?_⟩)
          exact ⟨X325, r342, vr346, rfl, rfl, E352, hXo353, hS354, hr347, hp.1⟩

def errors_Is_p (err : PErr) (target : Int) (Q : Bool → Prop) : Prop :=
  ((inR .i64 target) → (((err.isNil = true) → (((err.isNil = true) → Q false) ∧ ((¬ (err.isNil = true)) → (((err.isNo = true) → (∀ n18 : Int, err = PErr.no n18 → ((inR .i64 n18) → Q (decide (n18 = target))))) ∧ ((¬ (err.isNo = true)) → (∀ (part21 : ByteArray) (at22 n23 : Int), err = PErr.fault part21 at22 n23 → ((part21.size ≤ maxLen) → ((inR .i64 at22) → ((inR .i64 n23) → Q false))))))))) ∧ ((¬ (err.isNil = true)) → (errors_is_p err target true (fun (r32 : Bool) => Q r32)))))
set_option maxRecDepth 20000 in
set_option maxHeartbeats 4000000 in
theorem errors_Is_w {X : List Nat} {w : World} {err : PErr} {target : Int} {verr1 : Value} {Q : Bool → Prop} (hX0 : Old X w) (herr2 : (rErr 94 115 119).ok X w ([verr1]) err) (rtarget3 : inR .i64 target) (hp : errors_Is_p err target Q) :
    Calls Tryd.prog 58 #[verr1, (.iface 94 (.int .i64 target))] w (Ret fun v w' => ∃ (r0 : Bool), Q r0 ∧ Evo [] w w' ∧ v = (.bool r0)) := by
  have hXo := hX0
  have E0 : Evo [] w w := RB.refl _ _ _
  have hS : Sub X X := Sub.refl _
  unfold errors_Is_p at hp
  refine enter_ Tryd.func58 rfl 22 [(0, verr1), (1, (.iface 94 (.int .i64 target)))] (by kernel_rfl) (fun Qe hQ => ?_)
  replace hp := hp rtarget3
  refine seq_ (fun _ K4 => ?_)
  refine reg_ ?_
  refine sq (o_pv (.bool false) rfl (by kernel_rfl) ?_)
  refine nil_ ?_
  refine then_normal (K4 _ _ _ _ ?_)
  refine seq_ (fun _ K5 => ?_)
  refine seq_ (fun _ K6 => ?_)
  refine ground_ ?_
  refine join_ 4032 (fun lq w10 => lq = [(11, (.bool (decide (err.isNil = true))))] ∧ w = w10) (fun Kj8 hJ9 => ?_) ?_
  ·
    refine reg_ ?_
    refine sq (o_pv verr1 rfl (by kernel_rfl) ?_)
    by_cases h12 : err.isNil = true
    ·
      refine sq (o_pv (.bool true) rfl (x_bt (x_err_eq err herr2 Tryd.underlying26 (by kernel_rfl)) h12) ?_)
      refine sq (o_pv (.bool true) rfl (by kernel_rfl) ?_)
      refine sq (o_not (by kernel_rfl) ?_)
      refine sq (o_not (by kernel_rfl) ?_)
      refine sq (o_pv (.bool true) rfl (by kernel_rfl) ?_)
      refine nil_ ?_
      refine then_normal (hJ9 _ _ _ ⟨[(11, (.bool (decide (err.isNil = true))))], fit_mk (fun _ _ => rfl) (by kernel_rfl) (vs_cons (Eq.trans (b := (.bool true)) (by kernel_rfl) (dec_t (iff_true_intro h12)).symm) vs_nil), rfl, rfl⟩)
    ·
      refine sq (o_pv (.bool false) rfl (x_bf (x_err_eq err herr2 Tryd.underlying26 (by kernel_rfl)) h12) ?_)
      refine sq (o_pv (.bool false) rfl (by kernel_rfl) ?_)
      refine sq (o_pv (.iface 94 (.int .i64 target)) (by kernel_rfl) (by kernel_rfl) ?_)
      refine sq (o_pv (.bool false) (by kernel_rfl) (x_inil_eq (tp := 94) (v := (.int .i64 target)) Tryd.underlying26 (by kernel_rfl) (by kernel_rfl)) ?_)
      refine sq (o_pv (.bool false) rfl (by kernel_rfl) ?_)
      refine nil_ ?_
      refine then_normal (hJ9 _ _ _ ⟨[(11, (.bool (decide (err.isNil = true))))], fit_mk (fun _ _ => rfl) (by kernel_rfl) (vs_cons (Eq.trans (b := (.bool false)) (by kernel_rfl) (dec_f (iff_false_intro h12)).symm) vs_nil), rfl, rfl⟩)
  ·
    rintro _ w10 g11 ⟨rfl, hw⟩
    subst hw
    refine then_normal (K6 _ _ _ _ ?_)
    refine cond_d (err.isNil = true) (by kernel_rfl) (fun h13 => ?_) (fun h13 => ?_)
    ·
      replace hp := hp.1 h13
      refine seq_ (fun _ K14 => ?_)
      refine reg_ ?_
      refine sq (o_pv verr1 rfl (by kernel_rfl) ?_)
      refine sq (o_pv (.iface 94 (.int .i64 target)) rfl (by kernel_rfl) ?_)
      by_cases h15 : err.isNil = true
      ·
        replace hp := hp.1 h15
        have hc17 := isNil_eq h15
        rw [hc17] at herr2
        obtain rfl := rErr_inv_nil herr2
        refine sq (o_pv (.bool false) rfl (x_if_nil (t := 94) (v := (.int .i64 target)) Tryd.underlying26 (by kernel_rfl) (by kernel_rfl)) ?_)
        refine sq (o_pv (.bool false) rfl (by kernel_rfl) ?_)
        refine nil_ ?_
        refine then_normal (K14 _ _ _ _ ?_)
        refine wp_ret ?_
        refine then_ret ?_
        refine end_ret hQ (.bool false) (by kernel_rfl) ?_
        exact ⟨false, hp, E0, rfl⟩
      ·
        replace hp := hp.2 h15
        by_cases h16 : err.isNo = true
        ·
          replace hp := hp.1 h16
          obtain ⟨n18, hc19⟩ := isNo_eq h16
          replace hp := hp n18 hc19
          rw [hc19] at herr2
          obtain ⟨rfl, r20⟩ := rErr_inv_no herr2
          replace hp := hp r20
          refine sq (o_pv (.bool (decide (n18 = target))) rfl (x_if_num (k := .i64) (a := n18) (b := target) (i := Tryd.t94) Tryd.underlying26 Tryd.underlying94 (by kernel_rfl) rfl (by kernel_rfl) (by kernel_rfl)) ?_)
          refine sq (o_pv (.bool (decide (n18 = target))) rfl (by kernel_rfl) ?_)
          refine nil_ ?_
          refine then_normal (K14 _ _ _ _ ?_)
          refine wp_ret ?_
          refine then_ret ?_
          refine end_ret hQ (.bool (decide (n18 = target))) (by kernel_rfl) ?_
          exact ⟨(decide (n18 = target)), hp, E0, rfl⟩
        ·
          replace hp := hp.2 h16
          obtain ⟨part21, at22, n23, hc24⟩ := isFault_eq h15 h16
          replace hp := hp part21 at22 n23 hc24
          rw [hc24] at herr2
          obtain ⟨b25, rfl, k26, z27, r28, r29⟩ := rErr_inv_fault herr2
          replace hp := hp z27
          replace hp := hp r28
          replace hp := hp r29
          refine sq (o_pv (.bool false) rfl (x_if_ne (tx := 115) (vx := (.pointer (some ⟨b25, 0, none⟩))) (ty' := 94) (vy := (.int .i64 target)) Tryd.underlying26 (by kernel_rfl) (by kernel_rfl) rfl) ?_)
          refine sq (o_pv (.bool false) rfl (by kernel_rfl) ?_)
          refine nil_ ?_
          refine then_normal (K14 _ _ _ _ ?_)
          refine wp_ret ?_
          refine then_ret ?_
          refine end_ret hQ (.bool false) (by kernel_rfl) ?_
          exact ⟨false, hp, E0, rfl⟩
    ·
      replace hp := hp.2 h13
      refine wp_skip ?_
      refine then_normal (K5 _ _ _ _ ?_)
      refine seq_ (fun _ K30 => ?_)
      refine reg_ ?_
      refine sq (o_pv (.iface 94 (.int .i64 target)) rfl (by kernel_rfl) ?_)
      refine sq (o_pv (.iface 202 (.agg #[typeHandle Tryd.prog 94])) rfl (x_ext Tryd.func97 (by kernel_rfl) (by kernel_rfl) (by kernel_rfl) (show _ = some Extern.ReflectliteType.typeOf by kernel_rfl) #[(.iface 94 (.int .i64 target))] (by kernel_rfl) (by kernel_rfl)) ?_)
      refine sq (o_pv (.bool true) rfl (x_invext (t := 202) (v := (.agg #[typeHandle Tryd.prog 94])) (r := (.agg #[typeHandle Tryd.prog 94])) (by kernel_rfl) (fun _ => by kernel_rfl) Tryd.func184 (by kernel_rfl) (by kernel_rfl) (by kernel_rfl) (show _ = some (Extern.ReflectliteType.method fun t => do Extern.Rtype.noPackHeld "Comparable" t; pure (.bool (← typeInfo t).comparable)) by kernel_rfl) #[(.agg #[typeHandle Tryd.prog 94])] (by kernel_rfl) (by kernel_rfl)) ?_)
      refine sq (o_pv (.bool true) rfl (by kernel_rfl) ?_)
      refine nil_ ?_
      refine then_normal (K30 _ _ _ _ ?_)
      refine seq_ (fun _ K31 => ?_)
      refine reg_ ?_
      refine sq (o_pv verr1 rfl (by kernel_rfl) ?_)
      refine sq (o_pv (.iface 94 (.int .i64 target)) rfl (by kernel_rfl) ?_)
      refine sq (o_pv (.bool true) rfl (by kernel_rfl) ?_)
      refine sq (o_call 98 #[verr1, (.iface 94 (.int .i64 target)), (.bool true)] rfl (x_call Tryd.call98 (by kernel_rfl)) (errors_is_w (X := []) (err := err) (target := target) (targetComparable := true) (Old.nil _) (Rep.less (rErr 94 115 119) herr2 (Sub.nil _)) rtarget3 hp) ?_)
      rintro _ w33 ⟨r32, hp, e34, rfl⟩
      have s35 := Step.of0 X e34
      refine sq (o_pv (.bool r32) rfl (by kernel_rfl) ?_)
      refine nil_ ?_
      refine then_normal (K31 _ _ _ _ ?_)
      refine wp_ret ?_
      have E36 := (Evo.then0 E0 e34)
      refine end_ret hQ (.bool r32) (by kernel_rfl) ?_
      exact ⟨r32, hp, E36, rfl⟩

def api_Fault_Error_p0 (R : S_api_Fault → (ByteArray → Prop) → Prop) (f_ : S_api_Fault) (Q : ByteArray → Prop) : Prop :=
  ((f_.Part.size ≤ maxLen) → ((inR .i64 f_.At) → (((f_.Err.isNil = true) → (((f_.Part ++ (ByteArray.mk #[32])).size ≤ maxLen) ∧ (strconv_Itoa_p f_.At (fun (r25 : ByteArray) => ((r25.size ≤ maxLen) → ((((f_.Part ++ (ByteArray.mk #[32])) ++ r25).size ≤ maxLen) ∧ Q ((f_.Part ++ (ByteArray.mk #[32])) ++ r25))))))) ∧ ((f_.Err.isNil = false) → (((f_.Part ++ (ByteArray.mk #[32])).size ≤ maxLen) ∧ (strconv_Itoa_p f_.At (fun (r47 : ByteArray) => ((r47.size ≤ maxLen) → ((((f_.Part ++ (ByteArray.mk #[32])) ++ r47).size ≤ maxLen) ∧ (((((f_.Part ++ (ByteArray.mk #[32])) ++ r47) ++ (ByteArray.mk #[58, 32])).size ≤ maxLen) ∧ (((f_.Err.isNil = true) → False) ∧ ((¬ (f_.Err.isNil = true)) → (((f_.Err.isNo = true) → (∀ n58 : Int, f_.Err = PErr.no n58 → ((inR .i64 n58) → (api_Errno_Error_p n58 (fun (r61 : ByteArray) => ((r61.size ≤ maxLen) → ((((((f_.Part ++ (ByteArray.mk #[32])) ++ r47) ++ (ByteArray.mk #[58, 32])) ++ r61).size ≤ maxLen) ∧ Q ((((f_.Part ++ (ByteArray.mk #[32])) ++ r47) ++ (ByteArray.mk #[58, 32])) ++ r61)))))))) ∧ ((¬ (f_.Err.isNo = true)) → (∀ (part69 : ByteArray) (at70 n71 : Int), f_.Err = PErr.fault part69 at70 n71 → ((part69.size ≤ maxLen) → ((inR .i64 at70) → ((inR .i64 n71) → (R (S_api_Fault.mk part69 at70 (PErr.no n71)) (fun (r80 : ByteArray) => ((r80.size ≤ maxLen) → ((((((f_.Part ++ (ByteArray.mk #[32])) ++ r47) ++ (ByteArray.mk #[58, 32])) ++ r80).size ≤ maxLen) ∧ Q ((((f_.Part ++ (ByteArray.mk #[32])) ++ r47) ++ (ByteArray.mk #[58, 32])) ++ r80)))))))))))))))))))))))
set_option maxRecDepth 20000 in
set_option maxHeartbeats 4000000 in
theorem api_Fault_Error_w0 {R : S_api_Fault → (ByteArray → Prop) → Prop} (hR : ∀ {X : List Nat} {w : World} {f_ : S_api_Fault} {bf_1 : Nat} {vf_Err5 : Value} {Q : ByteArray → Prop} (hX0 : Old X w) (kf_2 : RO X w bf_1 [(.string f_.Part), (.int .i64 f_.At), vf_Err5] 119) (zf_Part3 : f_.Part.size ≤ maxLen) (rf_At4 : inR .i64 f_.At) (hf_Err6 : (rErr 94 115 119).ok X w ([vf_Err5]) f_.Err) (gv1 : GV X w 1 (Lib.pow10Tab.map (Value.int .u64))) (_hp : R f_ Q), Calls Tryd.prog 176 #[(.pointer (some ⟨bf_1, 0, none⟩))] w (Ret fun v w' => ∃ (r0 : ByteArray), Q r0 ∧ Evo [] w w' ∧ v = (.string r0) ∧ r0.size ≤ maxLen)) {X : List Nat} {w : World} {f_ : S_api_Fault} {bf_1 : Nat} {vf_Err5 : Value} {Q : ByteArray → Prop} (hX0 : Old X w) (kf_2 : RO X w bf_1 [(.string f_.Part), (.int .i64 f_.At), vf_Err5] 119) (zf_Part3 : f_.Part.size ≤ maxLen) (rf_At4 : inR .i64 f_.At) (hf_Err6 : (rErr 94 115 119).ok X w ([vf_Err5]) f_.Err) (gv1 : GV X w 1 (Lib.pow10Tab.map (Value.int .u64))) (hp : api_Fault_Error_p0 R f_ Q) :
    Calls Tryd.prog 176 #[(.pointer (some ⟨bf_1, 0, none⟩))] w (Ret fun v w' => ∃ (r0 : ByteArray), Q r0 ∧ Evo [] w w' ∧ v = (.string r0) ∧ r0.size ≤ maxLen) := by
  have hXo := hX0
  have E0 : Evo [] w w := RB.refl _ _ _
  have hS : Sub X X := Sub.refl _
  unfold api_Fault_Error_p0 at hp
  refine enter_ Tryd.func176 rfl 37 [(0, (.pointer (some ⟨bf_1, 0, none⟩)))] (by kernel_rfl) (fun Qe hQ => ?_)
  replace hp := hp zf_Part3
  replace hp := hp rf_At4
  refine seq_ (fun _ K7 => ?_)
  refine reg_ ?_
  refine sq (o_pv (.string (ByteArray.mk #[])) rfl (by kernel_rfl) ?_)
  refine nil_ ?_
  refine then_normal (K7 _ _ _ _ ?_)
  refine seq_ (fun _ K8 => ?_)
  refine seq_ (fun _ K9 => ?_)
  refine reg_ ?_
  refine sq (o_pv (.pointer (some ⟨bf_1, 0, none⟩)) rfl (by kernel_rfl) ?_)
  refine sq (o_pv (.pointer (some ⟨bf_1, 0, none⟩)) rfl (by kernel_rfl) ?_)
  refine sq (o_pv (.pointer (some ⟨bf_1, 2, none⟩)) rfl (by kernel_rfl) ?_)
  refine sq (o_pv vf_Err5 rfl (x_load1 (by kernel_rfl) Tryd.isAgg26 (kf_2.2.cell' 2 rfl)) ?_)
  refine sq (o_pv (.bool f_.Err.isNil) rfl (x_err_eq f_.Err hf_Err6 Tryd.underlying26 (by kernel_rfl)) ?_)
  refine nil_ ?_
  refine then_normal (K9 _ _ _ _ ?_)
  refine cond_b f_.Err.isNil (by kernel_rfl) (fun h10 => ?_) (fun h10 => ?_)
  ·
    replace hp := hp.1 h10
    refine seq_ (fun _ K11 => ?_)
    refine reg_drawn (RB w.heap.size []) 11 (by kernel_rfl) (fun w12 hd13 => ?_)
    have e14 := Evo.of_drew hd13
    have z15 : w12.heap.size = w.heap.size := by rw [hd13]
    clear hd13
    have s17 := Step.of0 X e14
    have er16 := RB.refl w.heap.size [] w12
    have kf_18 := (RO.step kf_2 s17)
    have hf_Err19 := (Rep.step (rErr 94 115 119) hf_Err6 s17)
    have gv20 := (GV.step gv1 s17)
    have hXo21 := (Old.step hXo s17)
    have E22 := (Evo.then0 E0 (Step.evo s17))
    have hS23 := (Sub.trans hS (Step.up s17))
    refine r_take 0 (.pointer (some ⟨bf_1, 0, none⟩)) (RB.pre _ _) rfl (by kernel_rfl) (fun _ _ _ h => hQ.panic _ _ _ _ _ h) (.inl ⟨rfl, fun wq hq => (by kernel_rfl)⟩) ?_
    refine r_take 1 (.pointer (some ⟨bf_1, 0, none⟩)) (RB.pre _ _) rfl (by kernel_rfl) (fun _ _ _ h => hQ.panic _ _ _ _ _ h) (.inl ⟨rfl, fun wq hq => (by kernel_rfl)⟩) ?_
    refine r_take 2 (.pointer (some ⟨bf_1, 0, none⟩)) (RB.pre _ _) rfl (by kernel_rfl) (fun _ _ _ h => hQ.panic _ _ _ _ _ h) (.inl ⟨rfl, fun wq hq => (by kernel_rfl)⟩) ?_
    refine r_take 3 (.string f_.Part) (RB.pre _ _) rfl (by kernel_rfl) (fun _ _ _ h => hQ.panic _ _ _ _ _ h) (.inl ⟨rfl, fun wq hq => (x_load1 (by kernel_rfl) Tryd.isAgg9 ((Blk.rb kf_18.2 (RB.trans er16 hq) (Nat.lt_of_lt_of_eq (Blk.lt kf_18.2) z15) (fun h => by cases h)).cell' 0 rfl))⟩) ?_
    obtain ⟨h24, hp⟩ := hp
    refine r_take 4 (.string (f_.Part ++ (ByteArray.mk #[32]))) (RB.pre _ _) rfl (by kernel_rfl) (fun _ _ _ h => hQ.panic _ _ _ _ _ h) (.inl ⟨rfl, fun wq hq => (x_cat (by kernel_rfl) (by kernel_rfl) h24)⟩) ?_
    refine r_take 5 (.pointer (some ⟨bf_1, 0, none⟩)) (RB.pre _ _) rfl (by kernel_rfl) (fun _ _ _ h => hQ.panic _ _ _ _ _ h) (.inl ⟨rfl, fun wq hq => (by kernel_rfl)⟩) ?_
    refine r_take 6 (.pointer (some ⟨bf_1, 0, none⟩)) (RB.pre _ _) rfl (by kernel_rfl) (fun _ _ _ h => hQ.panic _ _ _ _ _ h) (.inl ⟨rfl, fun wq hq => (by kernel_rfl)⟩) ?_
    refine r_take 7 (.pointer (some ⟨bf_1, 1, none⟩)) (RB.pre _ _) rfl (by kernel_rfl) (fun _ _ _ h => hQ.panic _ _ _ _ _ h) (.inl ⟨rfl, fun wq hq => (by kernel_rfl)⟩) ?_
    refine r_take 8 (.int .i64 f_.At) (RB.pre _ _) rfl (by kernel_rfl) (fun _ _ _ h => hQ.panic _ _ _ _ _ h) (.inl ⟨rfl, fun wq hq => (x_load1 (by kernel_rfl) Tryd.isAgg3 ((Blk.rb kf_18.2 (RB.trans er16 hq) (Nat.lt_of_lt_of_eq (Blk.lt kf_18.2) z15) (fun h => by cases h)).cell' 1 rfl))⟩) ?_
    refine r_ready [9] (by kernel_rfl) rfl (all_cons ⟨_, _, _, _, _, _, rfl, ?_⟩ all_nil)
    refine o_call 66 #[(.int .i64 f_.At)] rfl (x_call Tryd.call66 (by kernel_rfl)) (strconv_Itoa_w (X := []) (i := f_.At) (Old.nil _) rf_At4 (GV.less gv20 (Sub.nil _)) hp) ?_
    rintro _ w26 ⟨r25, hp, e27, rfl, zr29⟩
    have rm := RB.mono (F' := []) e27 (Nat.le_trans (Nat.le_of_eq z15.symm) (RB.size er16)) (fun _ h => by cases h)
    have er30 := RB.trans er16 rm
    refine ⟨fun _ => rm, ?_⟩
    have s28 := Step.of0 X e27
    replace hp := hp zr29
    obtain ⟨h31, hp⟩ := hp
    refine r_take 10 (.string ((f_.Part ++ (ByteArray.mk #[32])) ++ r25)) (RB.pre _ _) rfl (by kernel_rfl) (fun _ _ _ h => hQ.panic _ _ _ _ _ h) (.inl ⟨rfl, fun wq hq => (x_cat (by kernel_rfl) (by kernel_rfl) h31)⟩) ?_
    refine r_ready [11] (by kernel_rfl) rfl (all_cons ⟨_, _, _, _, _, _, rfl, ?_⟩ all_nil)
    refine o_pv (.string ((f_.Part ++ (ByteArray.mk #[32])) ++ r25)) rfl (by kernel_rfl) ?_
    refine ⟨fun h => absurd h (by decide), ?_⟩
    refine r_done (by kernel_rfl) ?_
    refine then_normal (K11 _ _ _ _ ?_)
    refine wp_ret ?_
    refine then_ret ?_
    have E32 := (Evo.then0 E22 e27)
    refine end_ret hQ (.string ((f_.Part ++ (ByteArray.mk #[32])) ++ r25)) (by kernel_rfl) ?_
    exact ⟨((f_.Part ++ (ByteArray.mk #[32])) ++ r25), hp, E32, rfl, h31⟩
  ·
    replace hp := hp.2 h10
    refine wp_skip ?_
    refine then_normal (K8 _ _ _ _ ?_)
    refine seq_ (fun _ K33 => ?_)
    refine reg_drawn (RB w.heap.size []) 18 (by kernel_rfl) (fun w34 hd35 => ?_)
    have e36 := Evo.of_drew hd35
    have z37 : w34.heap.size = w.heap.size := by rw [hd35]
    clear hd35
    have s39 := Step.of0 X e36
    have er38 := RB.refl w.heap.size [] w34
    have kf_40 := (RO.step kf_2 s39)
    have hf_Err41 := (Rep.step (rErr 94 115 119) hf_Err6 s39)
    have gv42 := (GV.step gv1 s39)
    have hXo43 := (Old.step hXo s39)
    have E44 := (Evo.then0 E0 (Step.evo s39))
    have hS45 := (Sub.trans hS (Step.up s39))
    refine r_take 0 (.pointer (some ⟨bf_1, 0, none⟩)) (RB.pre _ _) rfl (by kernel_rfl) (fun _ _ _ h => hQ.panic _ _ _ _ _ h) (.inl ⟨rfl, fun wq hq => (by kernel_rfl)⟩) ?_
    refine r_take 1 (.pointer (some ⟨bf_1, 0, none⟩)) (RB.pre _ _) rfl (by kernel_rfl) (fun _ _ _ h => hQ.panic _ _ _ _ _ h) (.inl ⟨rfl, fun wq hq => (by kernel_rfl)⟩) ?_
    refine r_take 2 (.pointer (some ⟨bf_1, 0, none⟩)) (RB.pre _ _) rfl (by kernel_rfl) (fun _ _ _ h => hQ.panic _ _ _ _ _ h) (.inl ⟨rfl, fun wq hq => (by kernel_rfl)⟩) ?_
    refine r_take 3 (.string f_.Part) (RB.pre _ _) rfl (by kernel_rfl) (fun _ _ _ h => hQ.panic _ _ _ _ _ h) (.inl ⟨rfl, fun wq hq => (x_load1 (by kernel_rfl) Tryd.isAgg9 ((Blk.rb kf_40.2 (RB.trans er38 hq) (Nat.lt_of_lt_of_eq (Blk.lt kf_40.2) z37) (fun h => by cases h)).cell' 0 rfl))⟩) ?_
    obtain ⟨h46, hp⟩ := hp
    refine r_take 4 (.string (f_.Part ++ (ByteArray.mk #[32]))) (RB.pre _ _) rfl (by kernel_rfl) (fun _ _ _ h => hQ.panic _ _ _ _ _ h) (.inl ⟨rfl, fun wq hq => (x_cat (by kernel_rfl) (by kernel_rfl) h46)⟩) ?_
    refine r_take 5 (.pointer (some ⟨bf_1, 0, none⟩)) (RB.pre _ _) rfl (by kernel_rfl) (fun _ _ _ h => hQ.panic _ _ _ _ _ h) (.inl ⟨rfl, fun wq hq => (by kernel_rfl)⟩) ?_
    refine r_take 6 (.pointer (some ⟨bf_1, 0, none⟩)) (RB.pre _ _) rfl (by kernel_rfl) (fun _ _ _ h => hQ.panic _ _ _ _ _ h) (.inl ⟨rfl, fun wq hq => (by kernel_rfl)⟩) ?_
    refine r_take 7 (.pointer (some ⟨bf_1, 1, none⟩)) (RB.pre _ _) rfl (by kernel_rfl) (fun _ _ _ h => hQ.panic _ _ _ _ _ h) (.inl ⟨rfl, fun wq hq => (by kernel_rfl)⟩) ?_
    refine r_take 8 (.int .i64 f_.At) (RB.pre _ _) rfl (by kernel_rfl) (fun _ _ _ h => hQ.panic _ _ _ _ _ h) (.inl ⟨rfl, fun wq hq => (x_load1 (by kernel_rfl) Tryd.isAgg3 ((Blk.rb kf_40.2 (RB.trans er38 hq) (Nat.lt_of_lt_of_eq (Blk.lt kf_40.2) z37) (fun h => by cases h)).cell' 1 rfl))⟩) ?_
    refine r_take 12 (.pointer (some ⟨bf_1, 0, none⟩)) (RB.pre _ _) rfl (by kernel_rfl) (fun _ _ _ h => hQ.panic _ _ _ _ _ h) (.inl ⟨rfl, fun wq hq => (by kernel_rfl)⟩) ?_
    refine r_take 13 (.pointer (some ⟨bf_1, 0, none⟩)) (RB.pre _ _) rfl (by kernel_rfl) (fun _ _ _ h => hQ.panic _ _ _ _ _ h) (.inl ⟨rfl, fun wq hq => (by kernel_rfl)⟩) ?_
    refine r_take 14 (.pointer (some ⟨bf_1, 2, none⟩)) (RB.pre _ _) rfl (by kernel_rfl) (fun _ _ _ h => hQ.panic _ _ _ _ _ h) (.inl ⟨rfl, fun wq hq => (by kernel_rfl)⟩) ?_
    refine r_take 15 vf_Err5 (RB.pre _ _) rfl (by kernel_rfl) (fun _ _ _ h => hQ.panic _ _ _ _ _ h) (.inl ⟨rfl, fun wq hq => (x_load1 (by kernel_rfl) Tryd.isAgg26 ((Blk.rb kf_40.2 (RB.trans er38 hq) (Nat.lt_of_lt_of_eq (Blk.lt kf_40.2) z37) (fun h => by cases h)).cell' 2 rfl))⟩) ?_
    refine r_ready [9] (by kernel_rfl) rfl (all_cons ⟨_, _, _, _, _, _, rfl, ?_⟩ all_nil)
    refine o_call 66 #[(.int .i64 f_.At)] rfl (x_call Tryd.call66 (by kernel_rfl)) (strconv_Itoa_w (X := []) (i := f_.At) (Old.nil _) rf_At4 (GV.less gv42 (Sub.nil _)) hp) ?_
    rintro _ w48 ⟨r47, hp, e49, rfl, zr51⟩
    have rm := RB.mono (F' := []) e49 (Nat.le_trans (Nat.le_of_eq z37.symm) (RB.size er38)) (fun _ h => by cases h)
    have er52 := RB.trans er38 rm
    refine ⟨fun _ => rm, ?_⟩
    have s50 := Step.of0 X e49
    replace hp := hp zr51
    obtain ⟨h53, hp⟩ := hp
    refine r_take 10 (.string ((f_.Part ++ (ByteArray.mk #[32])) ++ r47)) (RB.pre _ _) rfl (by kernel_rfl) (fun _ _ _ h => hQ.panic _ _ _ _ _ h) (.inl ⟨rfl, fun wq hq => (x_cat (by kernel_rfl) (by kernel_rfl) h53)⟩) ?_
    obtain ⟨h54, hp⟩ := hp
    refine r_take 11 (.string (((f_.Part ++ (ByteArray.mk #[32])) ++ r47) ++ (ByteArray.mk #[58, 32]))) (RB.pre _ _) rfl (by kernel_rfl) (fun _ _ _ h => hQ.panic _ _ _ _ _ h) (.inl ⟨rfl, fun wq hq => (x_cat (by kernel_rfl) (by kernel_rfl) h54)⟩) ?_
    refine r_ready [16] (by kernel_rfl) rfl (all_cons ⟨_, _, _, _, _, _, rfl, ?_⟩ all_nil)
    by_cases h55 : f_.Err.isNil = true
    ·
      replace hp := hp.1 h55
      have hc57 := isNil_eq h55
      rw [hc57] at hf_Err41
      obtain rfl := rErr_inv_nil hf_Err41
      exact hp.elim
    ·
      replace hp := hp.2 h55
      by_cases h56 : f_.Err.isNo = true
      ·
        replace hp := hp.1 h56
        obtain ⟨n58, hc59⟩ := isNo_eq h56
        replace hp := hp n58 hc59
        rw [hc59] at hf_Err41
        obtain ⟨rfl, r60⟩ := rErr_inv_no hf_Err41
        replace hp := hp r60
        refine o_call 175 #[(.int .i64 n58)] rfl (x_invoke (t := 94) (v := (.int .i64 n58)) (r := (.int .i64 n58)) (by kernel_rfl) (fun _ => by kernel_rfl) Tryd.call175 (by kernel_rfl)) (api_Errno_Error_w (X := []) (e := n58) (Old.nil _) r60 hp) ?_
        rintro _ w62 ⟨r61, hp, e63, rfl, zr65⟩
        have rm := RB.mono (F' := []) e63 (Nat.le_trans (Nat.le_of_eq z37.symm) (RB.size er52)) (fun _ h => by cases h)
        have er66 := RB.trans er52 rm
        refine ⟨fun _ => rm, ?_⟩
        have s64 := Step.of0 X e63
        replace hp := hp zr65
        obtain ⟨h67, hp⟩ := hp
        refine r_take 17 (.string ((((f_.Part ++ (ByteArray.mk #[32])) ++ r47) ++ (ByteArray.mk #[58, 32])) ++ r61)) (RB.pre _ _) rfl (by kernel_rfl) (fun _ _ _ h => hQ.panic _ _ _ _ _ h) (.inl ⟨rfl, fun wq hq => (x_cat (by kernel_rfl) (by kernel_rfl) h67)⟩) ?_
        refine r_ready [18] (by kernel_rfl) rfl (all_cons ⟨_, _, _, _, _, _, rfl, ?_⟩ all_nil)
        refine o_pv (.string ((((f_.Part ++ (ByteArray.mk #[32])) ++ r47) ++ (ByteArray.mk #[58, 32])) ++ r61)) rfl (by kernel_rfl) ?_
        refine ⟨fun h => absurd h (by decide), ?_⟩
        refine r_done (by kernel_rfl) ?_
        refine then_normal (K33 _ _ _ _ ?_)
        refine wp_ret ?_
        have E68 := (Evo.then0 (Evo.then0 E44 e49) e63)
        refine end_ret hQ (.string ((((f_.Part ++ (ByteArray.mk #[32])) ++ r47) ++ (ByteArray.mk #[58, 32])) ++ r61)) (by kernel_rfl) ?_
        exact ⟨((((f_.Part ++ (ByteArray.mk #[32])) ++ r47) ++ (ByteArray.mk #[58, 32])) ++ r61), hp, E68, rfl, h67⟩
      ·
        replace hp := hp.2 h56
        obtain ⟨part69, at70, n71, hc72⟩ := isFault_eq h55 h56
        replace hp := hp part69 at70 n71 hc72
        rw [hc72] at hf_Err41
        obtain ⟨b73, rfl, k74, z75, r76, r77⟩ := rErr_inv_fault hf_Err41
        replace hp := hp z75
        replace hp := hp r76
        replace hp := hp r77
        have k78 := (RO.step k74 s50)
        have gv79 := (GV.step gv42 s50)
        refine o_call 176 #[(.pointer (some ⟨b73, 0, none⟩))] rfl (x_invoke (t := 115) (v := (.pointer (some ⟨b73, 0, none⟩))) (r := (.pointer (some ⟨b73, 0, none⟩))) (by kernel_rfl) (fun _ => by kernel_rfl) Tryd.call176 (by kernel_rfl)) (hR (X := []) (f_ := (S_api_Fault.mk part69 at70 (PErr.no n71))) (Old.nil _) ⟨(fun hm => by cases hm), k78.2⟩ z75 r76 (rErr_no r77) (GV.less gv79 (Sub.nil _)) hp) ?_
        rintro _ w81 ⟨r80, hp, e82, rfl, zr84⟩
        have rm := RB.mono (F' := []) e82 (Nat.le_trans (Nat.le_of_eq z37.symm) (RB.size er52)) (fun _ h => by cases h)
        have er85 := RB.trans er52 rm
        refine ⟨fun _ => rm, ?_⟩
        have s83 := Step.of0 X e82
        replace hp := hp zr84
        obtain ⟨h86, hp⟩ := hp
        refine r_take 17 (.string ((((f_.Part ++ (ByteArray.mk #[32])) ++ r47) ++ (ByteArray.mk #[58, 32])) ++ r80)) (RB.pre _ _) rfl (by kernel_rfl) (fun _ _ _ h => hQ.panic _ _ _ _ _ h) (.inl ⟨rfl, fun wq hq => (x_cat (by kernel_rfl) (by kernel_rfl) h86)⟩) ?_
        refine r_ready [18] (by kernel_rfl) rfl (all_cons ⟨_, _, _, _, _, _, rfl, ?_⟩ all_nil)
        refine o_pv (.string ((((f_.Part ++ (ByteArray.mk #[32])) ++ r47) ++ (ByteArray.mk #[58, 32])) ++ r80)) rfl (by kernel_rfl) ?_
        refine ⟨fun h => absurd h (by decide), ?_⟩
        refine r_done (by kernel_rfl) ?_
        refine then_normal (K33 _ _ _ _ ?_)
        refine wp_ret ?_
        have E87 := (Evo.then0 (Evo.then0 E44 e49) e82)
        refine end_ret hQ (.string ((((f_.Part ++ (ByteArray.mk #[32])) ++ r47) ++ (ByteArray.mk #[58, 32])) ++ r80)) (by kernel_rfl) ?_
        exact ⟨((((f_.Part ++ (ByteArray.mk #[32])) ++ r47) ++ (ByteArray.mk #[58, 32])) ++ r80), hp, E87, rfl, h86⟩
def api_Fault_Error_pk : Nat → S_api_Fault → (ByteArray → Prop) → Prop
  | 0 => fun _ _ => False
  | k + 1 => api_Fault_Error_p0 (api_Fault_Error_pk k)
theorem api_Fault_Error_wk : ∀ (k : Nat) {X : List Nat} {w : World} {f_ : S_api_Fault} {bf_1 : Nat} {vf_Err5 : Value} {Q : ByteArray → Prop} (hX0 : Old X w) (kf_2 : RO X w bf_1 [(.string f_.Part), (.int .i64 f_.At), vf_Err5] 119) (zf_Part3 : f_.Part.size ≤ maxLen) (rf_At4 : inR .i64 f_.At) (hf_Err6 : (rErr 94 115 119).ok X w ([vf_Err5]) f_.Err) (gv1 : GV X w 1 (Lib.pow10Tab.map (Value.int .u64))) (_hp : api_Fault_Error_pk k f_ Q), Calls Tryd.prog 176 #[(.pointer (some ⟨bf_1, 0, none⟩))] w (Ret fun v w' => ∃ (r0 : ByteArray), Q r0 ∧ Evo [] w w' ∧ v = (.string r0) ∧ r0.size ≤ maxLen) := by
  intro k
  induction k with
  | zero => intro _ _ _ _ _ _ _ _ _ _ _ _ hp; exact hp.elim
  | succ k ih => intro X w f_ bf_1 vf_Err5 Q hX0 kf_2 zf_Part3 rf_At4 hf_Err6 gv1 hp; exact api_Fault_Error_w0 (R := api_Fault_Error_pk k) (fun hX0 kf_2 zf_Part3 rf_At4 hf_Err6 gv1 hp => ih hX0 kf_2 zf_Part3 rf_At4 hf_Err6 gv1 hp) hX0 kf_2 zf_Part3 rf_At4 hf_Err6 gv1 hp
def api_Fault_Error_p (f_ : S_api_Fault) (Q : ByteArray → Prop) : Prop := ∃ k, api_Fault_Error_pk k f_ Q
theorem api_Fault_Error_w {X : List Nat} {w : World} {f_ : S_api_Fault} {bf_1 : Nat} {vf_Err5 : Value} {Q : ByteArray → Prop} (hX0 : Old X w) (kf_2 : RO X w bf_1 [(.string f_.Part), (.int .i64 f_.At), vf_Err5] 119) (zf_Part3 : f_.Part.size ≤ maxLen) (rf_At4 : inR .i64 f_.At) (hf_Err6 : (rErr 94 115 119).ok X w ([vf_Err5]) f_.Err) (gv1 : GV X w 1 (Lib.pow10Tab.map (Value.int .u64))) (hp : api_Fault_Error_p f_ Q) :
    Calls Tryd.prog 176 #[(.pointer (some ⟨bf_1, 0, none⟩))] w (Ret fun v w' => ∃ (r0 : ByteArray), Q r0 ∧ Evo [] w w' ∧ v = (.string r0) ∧ r0.size ≤ maxLen) := by
  obtain ⟨k, hp⟩ := hp
  exact api_Fault_Error_wk k hX0 kf_2 zf_Part3 rf_At4 hf_Err6 gv1 hp

end Go.Proofs.YtjejeipdndddpaaDoor
