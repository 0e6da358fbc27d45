/- Walks of functions: what each asks and computes, as a plain predicate, and the contract from it. -/
import Derived.Test.YtkmenljohhngjaaDoorChecked
import Derived.Test.YtkmenljohhngjaaDoorPm5
namespace Go.Proofs.YtkmenljohhngjaaDoor
open Go


def rectoref11_hunk_p (a : (List ByteArray)) (h : S_rectoref11_Hunk) (end_ : Int) (shift : Int) (Q : Int → Prop) : Prop :=
  ((a.length ≤ 9223372036854775807) → ((inR .i64 h.At) → ((inR .i64 h.Del) → ((inR .i64 h.To) → ((inR .i64 h.Add) → ((h.Lines.length ≤ 9223372036854775807) → ((inR .i64 end_) → ((inR .i64 shift) → (∃ (I107 : Int → Int → Int → Prop) (m108 : Int → Int → Int → Nat), (I107 (0 : Int) (0 : Int) (0 : Int)) ∧ (∀ (del24 : Int) (add26 : Int) (i28 : Int), (I107 del24 add26 i28) → (inR .i64 del24) → (inR .i64 add26) → (inR .i64 i28) → (((i28 < (h.Lines.length : Int)) → (∃ k160 : Int → Int → Prop, (∀ (del156 : Int) (add158 : Int), k160 del156 add158 → (inR .i64 del156) → (inR .i64 add158) → ((inR .i64 (i28 + (1 : Int))) ∧ ((I107 del156 add158 (i28 + (1 : Int))) ∧ m108 del156 add158 (i28 + (1 : Int)) < m108 del24 add26 i28))) ∧ ((inL h.Lines i28) ∧ ((inR .i64 ((lget h.Lines i28).Op)) → ((((lget h.Lines i28).Line).size ≤ maxLen) → (((((lget h.Lines i28).Op) = (1 : Int)) → ((inR .i64 (del24 + (1 : Int))) ∧ ((inR .i64 (add26 + (1 : Int))) ∧ (k160 (del24 + (1 : Int)) (add26 + (1 : Int)))))) ∧ ((¬ (((lget h.Lines i28).Op) = (1 : Int))) → (((((lget h.Lines i28).Op) = (2 : Int)) → ((inR .i64 (del24 + (1 : Int))) ∧ (k160 (del24 + (1 : Int)) add26))) ∧ ((¬ (((lget h.Lines i28).Op) = (2 : Int))) → (((((lget h.Lines i28).Op) = (3 : Int)) → ((inR .i64 (add26 + (1 : Int))) ∧ (k160 del24 (add26 + (1 : Int))))) ∧ ((¬ (((lget h.Lines i28).Op) = (3 : Int))) → Q (2 : Int)))))))))))) ∧ ((¬ (i28 < (h.Lines.length : Int))) → ((((h.At < end_) → True) ∧ ((¬ (h.At < end_)) → (((h.Del = del24) → (((h.Add = add26) → ((inR .i64 (h.To - h.At)) ∧ ((((h.To - h.At) = shift) → True) ∧ ((¬ ((h.To - h.At) = shift)) → True)))) ∧ ((¬ (h.Add = add26)) → True))) ∧ ((¬ (h.Del = del24)) → True)))) ∧ ((((h.At < end_) ∨ ((¬ (h.Del = del24)) ∨ ((¬ (h.Add = add26)) ∨ ((¬ ((h.To - h.At) = shift)) ∨ (h.To < (0 : Int)))))) → Q (1 : Int)) ∧ ((¬ ((h.At < end_) ∨ ((¬ (h.Del = del24)) ∨ ((¬ (h.Add = add26)) ∨ ((¬ ((h.To - h.At) = shift)) ∨ (h.To < (0 : Int))))))) → ((((h.At > (a.length : Int)) → True) ∧ ((¬ (h.At > (a.length : Int))) → ((inR .i64 ((a.length : Int) - h.At)) ∧ True))) ∧ ((((h.At > (a.length : Int)) ∨ (h.Del > ((a.length : Int) - h.At))) → Q (4 : Int)) ∧ ((¬ ((h.At > (a.length : Int)) ∨ (h.Del > ((a.length : Int) - h.At)))) → (∃ (I365 : Int → Int → Prop) (m366 : Int → Int → Nat), (I365 h.At (0 : Int)) ∧ (∀ (at_232 : Int) (i234 : Int), (I365 at_232 i234) → (inR .i64 at_232) → (inR .i64 i234) → (((i234 < (h.Lines.length : Int)) → (∃ k439 : Int → Prop, (∀ (at_437 : Int), k439 at_437 → (inR .i64 at_437) → ((inR .i64 (i234 + (1 : Int))) ∧ ((I365 at_437 (i234 + (1 : Int))) ∧ m366 at_437 (i234 + (1 : Int)) < m366 at_232 i234))) ∧ ((inL h.Lines i234) ∧ ((inR .i64 ((lget h.Lines i234).Op)) → ((((lget h.Lines i234).Line).size ≤ maxLen) → (((((lget h.Lines i234).Op) = (3 : Int)) → (k439 at_232)) ∧ ((¬ (((lget h.Lines i234).Op) = (3 : Int))) → ((inL a at_232) ∧ (((lget a at_232).size ≤ maxLen) → ((inL h.Lines i234) ∧ ((inR .i64 ((lget h.Lines i234).Op)) → ((((lget h.Lines i234).Line).size ≤ maxLen) → (((¬ ((lget a at_232 : ByteArray) = (lget h.Lines i234).Line)) → Q (9 : Int)) ∧ (((lget a at_232 : ByteArray) = (lget h.Lines i234).Line) → ((inR .i64 (at_232 + (1 : Int))) ∧ (k439 (at_232 + (1 : Int)))))))))))))))))) ∧ ((¬ (i234 < (h.Lines.length : Int))) → Q (0 : Int)))))))))))))))))))))))
set_option maxRecDepth 20000 in
set_option maxHeartbeats 4000000 in
theorem rectoref11_hunk_w {X : List Nat} {w : World} {a : (List ByteArray)} {h : S_rectoref11_Hunk} {end_ : Int} {shift : Int} {aa1 : Option Addr} {ca2 : Nat} {ahLines8 : Option Addr} {chLines9 : Nat} {Q : Int → Prop} (hX0 : Old X w) (ha3 : Sl rStr X w aa1 ca2 a) (rhAt4 : inR .i64 h.At) (rhDel5 : inR .i64 h.Del) (rhTo6 : inR .i64 h.To) (rhAdd7 : inR .i64 h.Add) (hhLines10 : Sl r_rectoref11_Edit X w ahLines8 chLines9 h.Lines) (rend_11 : inR .i64 end_) (rshift12 : inR .i64 shift) (hp : rectoref11_hunk_p a h end_ shift Q) :
    Calls Tryd.prog 66 #[(.slice aa1 a.length ca2), (.agg #[(.int .i64 h.At), (.int .i64 h.Del), (.int .i64 h.To), (.int .i64 h.Add), (.slice ahLines8 h.Lines.length chLines9)]), (.int .i64 end_), (.int .i64 shift)] w (Ret fun v w' => ∃ (r0 : Int), Q r0 ∧ Evo [] w w' ∧ v = (.int .i64 r0) ∧ inR .i64 r0) := by
  have hXo := hX0
  have E0 : Evo [] w w := RB.refl _ _ _
  have hS : Sub X X := Sub.refl _
  unfold rectoref11_hunk_p at hp
  refine enter_ Tryd.func66 rfl 115 [(0, (.slice aa1 a.length ca2)), (1, (.agg #[(.int .i64 h.At), (.int .i64 h.Del), (.int .i64 h.To), (.int .i64 h.Add), (.slice ahLines8 h.Lines.length chLines9)])), (2, (.int .i64 end_)), (3, (.int .i64 shift))] (by kernel_rfl) (fun Qe hQ => ?_)
  replace hp := hp (Sl.len ha3)
  replace hp := hp rhAt4
  replace hp := hp rhDel5
  replace hp := hp rhTo6
  replace hp := hp rhAdd7
  replace hp := hp (Sl.len hhLines10)
  replace hp := hp rend_11
  replace hp := hp rshift12
  refine seq_ (fun _ K13 => ?_)
  refine reg_ ?_
  refine sq (o_newX [(.int .i64 h.At), (.int .i64 h.Del), (.int .i64 h.To), (.int .i64 h.Add), (.slice ahLines8 h.Lines.length chLines9)] 111 (X := X) (B := w.heap.size) E0.size rfl (by kernel_rfl) ?_)
  intro b14 w15 X16 s17 k18 n19
  refine sq (o_pv (.int .i64 (0 : Int)) rfl (by kernel_rfl) ?_)
  refine nil_ ?_
  refine then_normal (K13 _ _ _ _ ?_)
  refine seq_ (fun _ K20 => ?_)
  refine reg_ ?_
  refine sq (o_pv (.int .i64 (0 : Int)) rfl (by kernel_rfl) ?_)
  refine nil_ ?_
  refine then_normal (K20 _ _ _ _ ?_)
  refine seq_ (fun _ K21 => ?_)
  refine reg_ ?_
  refine sq (o_pv (.int .i64 (0 : Int)) rfl (by kernel_rfl) ?_)
  refine nil_ ?_
  refine then_normal (K21 _ _ _ _ ?_)
  refine seq_ (fun _ K22 => ?_)
  refine seq_ (fun _ K23 => ?_)
  refine reg_ ?_
  refine sq (o_pv (.int .i64 (0 : Int)) rfl (by kernel_rfl) ?_)
  refine nil_ ?_
  refine then_normal (K23 _ _ _ _ ?_)
  refine wp_block ?_
  have ha117 := (Sl.step ha3 s17)
  have hhLines118 := (Sl.step hhLines10 s17)
  have hXo119 := (Old.step hXo s17)
  have E120 := (Evo.then0 E0 (Step.evo s17))
  have hS121 := (Sub.trans hS (Step.up s17))
  obtain ⟨I107, m108, hI109, hp⟩ := hp
  refine loop_ 2199023243008 (fun kq lq w111 => ∃ (X112 : List Nat) (del24 : Int) (add26 : Int) (i28 : Int), (lq = [(9, (.int .i64 del24)), (10, (.int .i64 add26)), (11, (.int .i64 i28))]) ∧ (kq = m108 del24 add26 i28) ∧ (Evo [] w w111) ∧ (Old X112 w111) ∧ (Sub X X112) ∧ (Sl rStr X112 w111 aa1 ca2 a) ∧ (Sl r_rectoref11_Edit X112 w111 ahLines8 chLines9 h.Lines) ∧ (OB ([]) w.heap.size X112 w111 b14 [(.int .i64 h.At), (.int .i64 h.Del), (.int .i64 h.To), (.int .i64 h.Add), (.slice ahLines8 h.Lines.length chLines9)] 111) ∧ (inR .i64 del24) ∧ (inR .i64 add26) ∧ (inR .i64 i28) ∧ (I107 del24 add26 i28)) (m108 (0 : Int) (0 : Int) (0 : Int)) [(9, (.int .i64 (0 : Int))), (10, (.int .i64 (0 : Int))), (11, (.int .i64 (0 : Int)))] (vs_cons (by kernel_rfl) (vs_cons (by kernel_rfl) (vs_cons (by kernel_rfl) vs_nil))) ⟨X16, (0 : Int), (0 : Int), (0 : Int), rfl, rfl, E120, hXo119, hS121, ha117, hhLines118, k18, (by decide : inR .i64 (0 : Int)), (by decide : inR .i64 (0 : Int)), (by decide : inR .i64 (0 : Int)), hI109⟩ ?_
  rintro _ _ w111 g114 ⟨X112, del24, add26, i28, rfl, rfl, E122, hXo123, hS124, ha125, hhLines126, k127, rdel25, radd27, ri29, hI110⟩ Kl115 hA116
  replace hp := hp del24 add26 i28 hI110 rdel25 radd27 ri29
  refine seq_ (fun _ K128 => ?_)
  refine seq_ (fun _ K129 => ?_)
  refine reg_ ?_
  refine sq (o_pv (.int .i64 i28) rfl (by kernel_rfl) ?_)
  refine sq (o_pv (.pointer (some ⟨b14, 4, none⟩)) rfl (by kernel_rfl) ?_)
  refine sq (o_pv (.slice ahLines8 h.Lines.length chLines9) rfl (x_load1 (by kernel_rfl) Tryd.isAgg25 (k127.2.1.cell' 4 rfl)) ?_)
  refine sq (o_pv (.int .i64 (h.Lines.length : Int)) rfl (by kernel_rfl) ?_)
  refine sq (o_pv (.bool (decide (i28 < (h.Lines.length : Int)))) rfl (by kernel_rfl) ?_)
  refine nil_ ?_
  refine then_normal (K129 _ _ _ _ ?_)
  refine cond_d (i28 < (h.Lines.length : Int)) (by kernel_rfl) (fun h130 => ?_) (fun h130 => ?_)
  ·
    replace hp := hp.1 h130
    refine wp_skip ?_
    refine then_normal (K128 _ _ _ _ ?_)
    refine seq_ (fun _ K131 => ?_)
    obtain ⟨k160, hk161, hp⟩ := hp
    refine ground_ ?_
    refine join_ 2199021160192 (fun lq w162 => ∃ (X163 : List Nat) (del156 : Int) (add158 : Int), (lq = [(9, (.int .i64 del156)), (10, (.int .i64 add158))]) ∧ (Evo [] w w162) ∧ (Old X163 w162) ∧ (Sub X X163) ∧ (Sl rStr X163 w162 aa1 ca2 a) ∧ (Sl r_rectoref11_Edit X163 w162 ahLines8 chLines9 h.Lines) ∧ (OB ([]) w.heap.size X163 w162 b14 [(.int .i64 h.At), (.int .i64 h.Del), (.int .i64 h.To), (.int .i64 h.Add), (.slice ahLines8 h.Lines.length chLines9)] 111) ∧ (inR .i64 del156) ∧ (inR .i64 add158) ∧ (k160 del156 add158)) (fun Kj164 hJ165 => ?_) ?_
    ·
      refine wp_block ?_
      refine seq_ (fun _ K173 => ?_)
      refine reg_ ?_
      refine sq (o_pv (.pointer (some ⟨b14, 4, none⟩)) rfl (by kernel_rfl) ?_)
      refine sq (o_pv (.slice ahLines8 h.Lines.length chLines9) rfl (x_load1 (by kernel_rfl) Tryd.isAgg25 (k127.2.1.cell' 4 rfl)) ?_)
      refine sq (o_pv (.int .i64 i28) rfl (by kernel_rfl) ?_)
      obtain ⟨h174, hp⟩ := hp
      obtain ⟨b175, o176, cs177, ha178, nx179, lt180, ok181, hc182⟩ := Sl.atI hhLines126 i28 h174
      obtain ⟨rfl, reOp183, zeLine184⟩ := r_rectoref11_Edit_open ok181
      replace hp := hp reOp183
      replace hp := hp zeLine184
      refine sq (o_pv (.pointer (some ⟨b175, o176 + i28.toNat * 2, none⟩)) rfl (x_ixA (m := h.Lines.length) (c := chLines9) (k := .i64) (i := i28) Tryd.underlying25 Tryd.sizeOf105 (by rw [← ha178]; kernel_rfl) (by kernel_rfl) h174) ?_)
      refine sq (o_pv (.pointer (some ⟨b175, o176 + i28.toNat * 2, none⟩)) rfl (by kernel_rfl) ?_)
      refine sq (o_pv (.int .i64 ((lget h.Lines i28).Op)) rfl (x_load1 (by kernel_rfl) Tryd.isAgg3 (hc182 0 _ rfl)) ?_)
      refine nil_ ?_
      refine then_normal (K173 _ _ _ _ ?_)
      refine wp_block ?_
      refine seq_ (fun _ K185 => ?_)
      refine reg_ ?_
      refine sq (o_pv (.bool (decide (((lget h.Lines i28).Op) = (1 : Int)))) rfl (by kernel_rfl) ?_)
      refine sq (o_pv (.bool (decide (((lget h.Lines i28).Op) = (1 : Int)))) rfl (by kernel_rfl) ?_)
      refine nil_ ?_
      refine then_normal (K185 _ _ _ _ ?_)
      refine cond_d (((lget h.Lines i28).Op) = (1 : Int)) (by kernel_rfl) (fun h186 => ?_) (fun h186 => ?_)
      ·
        replace hp := hp.1 h186
        refine seq_ (fun _ K187 => ?_)
        refine reg_ ?_
        refine sq (o_pv (.int .i64 del24) rfl (by kernel_rfl) ?_)
        obtain ⟨h188, hp⟩ := hp
        refine sq (o_pv (.int .i64 (del24 + (1 : Int))) rfl (x_add2 (k := .i64) (a := del24) (b := (1 : Int)) (del24 + (1 : Int)) (by kernel_rfl) (by kernel_rfl) (wrap_inR h188)) ?_)
        refine sq (o_pv (.int .i64 (del24 + (1 : Int))) rfl (by kernel_rfl) ?_)
        refine nil_ ?_
        refine then_normal (K187 _ _ _ _ ?_)
        refine reg_ ?_
        refine sq (o_pv (.int .i64 add26) rfl (by kernel_rfl) ?_)
        obtain ⟨h189, hp⟩ := hp
        refine sq (o_pv (.int .i64 (add26 + (1 : Int))) rfl (x_add2 (k := .i64) (a := add26) (b := (1 : Int)) (add26 + (1 : Int)) (by kernel_rfl) (by kernel_rfl) (wrap_inR h189)) ?_)
        refine sq (o_pv (.int .i64 (add26 + (1 : Int))) rfl (by kernel_rfl) ?_)
        refine nil_ ?_
        refine blk_normal ?_
        refine blk_normal ?_
        refine then_normal (hJ165 _ _ _ ⟨[(9, (.int .i64 (del24 + (1 : Int)))), (10, (.int .i64 (add26 + (1 : Int))))], fit_mk (fun _ _ => rfl) (by kernel_rfl) (vs_cons (by kernel_rfl) (vs_cons (by kernel_rfl) vs_nil)), ?_⟩)
        exact ⟨X112, (del24 + (1 : Int)), (add26 + (1 : Int)), rfl, E122, hXo123, hS124, ha125, hhLines126, k127, h188, h189, hp⟩
      ·
        replace hp := hp.2 h186
        refine seq_ (fun _ K190 => ?_)
        refine reg_ ?_
        refine sq (o_pv (.bool (decide (((lget h.Lines i28).Op) = (2 : Int)))) rfl (by kernel_rfl) ?_)
        refine sq (o_pv (.bool (decide (((lget h.Lines i28).Op) = (2 : Int)))) rfl (by kernel_rfl) ?_)
        refine nil_ ?_
        refine then_normal (K190 _ _ _ _ ?_)
        refine cond_d (((lget h.Lines i28).Op) = (2 : Int)) (by kernel_rfl) (fun h191 => ?_) (fun h191 => ?_)
        ·
          replace hp := hp.1 h191
          refine reg_ ?_
          refine sq (o_pv (.int .i64 del24) rfl (by kernel_rfl) ?_)
          obtain ⟨h192, hp⟩ := hp
          refine sq (o_pv (.int .i64 (del24 + (1 : Int))) rfl (x_add2 (k := .i64) (a := del24) (b := (1 : Int)) (del24 + (1 : Int)) (by kernel_rfl) (by kernel_rfl) (wrap_inR h192)) ?_)
          refine sq (o_pv (.int .i64 (del24 + (1 : Int))) rfl (by kernel_rfl) ?_)
          refine nil_ ?_
          refine blk_normal ?_
          refine blk_normal ?_
          refine then_normal (hJ165 _ _ _ ⟨[(9, (.int .i64 (del24 + (1 : Int)))), (10, (.int .i64 add26))], fit_mk (fun _ _ => rfl) (by kernel_rfl) (vs_cons (by kernel_rfl) (vs_cons (by kernel_rfl) vs_nil)), ?_⟩)
          exact ⟨X112, (del24 + (1 : Int)), add26, rfl, E122, hXo123, hS124, ha125, hhLines126, k127, h192, radd27, hp⟩
        ·
          replace hp := hp.2 h191
          refine seq_ (fun _ K193 => ?_)
          refine reg_ ?_
          refine sq (o_pv (.bool (decide (((lget h.Lines i28).Op) = (3 : Int)))) rfl (by kernel_rfl) ?_)
          refine sq (o_pv (.bool (decide (((lget h.Lines i28).Op) = (3 : Int)))) rfl (by kernel_rfl) ?_)
          refine nil_ ?_
          refine then_normal (K193 _ _ _ _ ?_)
          refine cond_d (((lget h.Lines i28).Op) = (3 : Int)) (by kernel_rfl) (fun h194 => ?_) (fun h194 => ?_)
          ·
            replace hp := hp.1 h194
            refine reg_ ?_
            refine sq (o_pv (.int .i64 add26) rfl (by kernel_rfl) ?_)
            obtain ⟨h195, hp⟩ := hp
            refine sq (o_pv (.int .i64 (add26 + (1 : Int))) rfl (x_add2 (k := .i64) (a := add26) (b := (1 : Int)) (add26 + (1 : Int)) (by kernel_rfl) (by kernel_rfl) (wrap_inR h195)) ?_)
            refine sq (o_pv (.int .i64 (add26 + (1 : Int))) rfl (by kernel_rfl) ?_)
            refine nil_ ?_
            refine blk_normal ?_
            refine blk_normal ?_
            refine then_normal (hJ165 _ _ _ ⟨[(9, (.int .i64 del24)), (10, (.int .i64 (add26 + (1 : Int))))], fit_mk (fun _ _ => rfl) (by kernel_rfl) (vs_cons (by kernel_rfl) (vs_cons (by kernel_rfl) vs_nil)), ?_⟩)
            exact ⟨X112, del24, (add26 + (1 : Int)), rfl, E122, hXo123, hS124, ha125, hhLines126, k127, rdel25, h195, hp⟩
          ·
            replace hp := hp.2 h194
            refine seq_ (fun _ K196 => ?_)
            refine reg_ ?_
            refine sq (o_pv (.int .i64 (2 : Int)) rfl (by kernel_rfl) ?_)
            refine nil_ ?_
            refine then_normal (K196 _ _ _ _ ?_)
            refine wp_ret ?_
            refine blk_ret ?_
            refine blk_ret ?_
            refine then_ret ?_
            refine then_ret ?_
            refine then_ret ?_
            refine blk_ret ?_
            refine then_ret ?_
            refine end_ret hQ (.int .i64 (2 : Int)) (by kernel_rfl) ?_
            exact ⟨(2 : Int), hp, E122, rfl, (by decide : inR .i64 (2 : Int))⟩
    ·
      rintro _ w162 g197 ⟨X163, del156, add158, rfl, E167, hXo168, hS169, ha170, hhLines171, k172, rdel157, radd159, hv166⟩
      replace hp := hk161 del156 add158 hv166 rdel157 radd159
      refine then_normal (K131 _ _ _ _ ?_)
      refine reg_ ?_
      refine sq (o_pv (.int .i64 i28) rfl (by kernel_rfl) ?_)
      obtain ⟨h198, hp⟩ := hp
      refine sq (o_pv (.int .i64 (i28 + (1 : Int))) rfl (x_add2 (k := .i64) (a := i28) (b := (1 : Int)) (i28 + (1 : Int)) (by kernel_rfl) (by kernel_rfl) (wrap_inR h198)) ?_)
      refine sq (o_pv (.int .i64 (i28 + (1 : Int))) rfl (by kernel_rfl) ?_)
      refine nil_ ?_
      refine then_normal (hA116 _ _ _ ⟨_, [(9, (.int .i64 del156)), (10, (.int .i64 add158)), (11, (.int .i64 (i28 + (1 : Int))))], hp.2, fit_mk (AgB.nest (AgB.look (AgB.mix _ _ _) (by kernel_rfl)) (by kernel_rfl) (by kernel_rfl)) (by kernel_rfl) (vs_cons (by kernel_rfl) (vs_cons (by kernel_rfl) (vs_cons (by kernel_rfl) vs_nil))), ?_⟩)
      exact ⟨X163, del156, add158, (i28 + (1 : Int)), rfl, rfl, E167, hXo168, hS169, ha170, hhLines171, k172, rdel157, radd159, h198, hp.1⟩
  ·
    replace hp := hp.2 h130
    refine wp_exit ?_
    refine then_exit ?_
    refine then_exit ?_
    refine blk_exit ?_
    refine then_normal (K22 _ _ _ _ ?_)
    refine seq_ (fun _ K199 => ?_)
    refine seq_ (fun _ K200 => ?_)
    obtain ⟨hp, hq⟩ := hp
    refine ground_ ?_
    refine join_ 2361183239235799351296 (fun lq w208 => lq = [(70, (.bool (decide ((h.At < end_) ∨ ((¬ (h.Del = del24)) ∨ ((¬ (h.Add = add26)) ∨ ((¬ ((h.To - h.At) = shift)) ∨ (h.To < (0 : Int)))))))))] ∧ w111 = w208) (fun Kj206 hJ207 => ?_) ?_
    ·
      refine reg_ ?_
      refine sq (o_pv (.pointer (some ⟨b14, 0, none⟩)) rfl (by kernel_rfl) ?_)
      refine sq (o_pv (.int .i64 h.At) rfl (x_load1 (by kernel_rfl) Tryd.isAgg3 (k127.2.1.cell' 0 rfl)) ?_)
      refine sq (o_pv (.int .i64 end_) rfl (by kernel_rfl) ?_)
      by_cases h210 : h.At < end_
      ·
        replace hp := hp.1 h210
        refine sq (o_pv (.bool true) rfl (x_dt (p := h.At < end_) (by kernel_rfl) h210) ?_)
        refine sq (o_pv (.bool true) rfl (by kernel_rfl) ?_)
        refine sq (o_not (by kernel_rfl) ?_)
        refine sq (o_not (by kernel_rfl) ?_)
        refine sq (o_not (by kernel_rfl) ?_)
        refine sq (o_not (by kernel_rfl) ?_)
        refine sq (o_pv (.bool true) rfl (by kernel_rfl) ?_)
        refine sq (o_pv (.bool true) rfl (by kernel_rfl) ?_)
        refine sq (o_not (by kernel_rfl) ?_)
        refine sq (o_not (by kernel_rfl) ?_)
        refine sq (o_not (by kernel_rfl) ?_)
        refine sq (o_not (by kernel_rfl) ?_)
        refine sq (o_pv (.bool true) rfl (by kernel_rfl) ?_)
        refine sq (o_pv (.bool true) rfl (by kernel_rfl) ?_)
        refine sq (o_not (by kernel_rfl) ?_)
        refine sq (o_not (by kernel_rfl) ?_)
        refine sq (o_not (by kernel_rfl) ?_)
        refine sq (o_not (by kernel_rfl) ?_)
        refine sq (o_not (by kernel_rfl) ?_)
        refine sq (o_not (by kernel_rfl) ?_)
        refine sq (o_not (by kernel_rfl) ?_)
        refine sq (o_pv (.bool true) rfl (by kernel_rfl) ?_)
        refine sq (o_pv (.bool true) rfl (by kernel_rfl) ?_)
        refine sq (o_not (by kernel_rfl) ?_)
        refine sq (o_not (by kernel_rfl) ?_)
        refine sq (o_not (by kernel_rfl) ?_)
        refine sq (o_pv (.bool true) rfl (by kernel_rfl) ?_)
        refine nil_ ?_
        refine then_normal (hJ207 _ _ _ ⟨[(70, (.bool (decide ((h.At < end_) ∨ ((¬ (h.Del = del24)) ∨ ((¬ (h.Add = add26)) ∨ ((¬ ((h.To - h.At) = shift)) ∨ (h.To < (0 : Int)))))))))], fit_mk (fun _ _ => rfl) (by kernel_rfl) (vs_cons (Eq.trans (b := (.bool true)) (by kernel_rfl) (dec_t (iff_true_intro (Or.inl h210))).symm) vs_nil), rfl, rfl⟩)
      ·
        replace hp := hp.2 h210
        refine sq (o_pv (.bool false) rfl (x_df (p := h.At < end_) (by kernel_rfl) h210) ?_)
        refine sq (o_pv (.bool false) rfl (by kernel_rfl) ?_)
        refine sq (o_pv (.pointer (some ⟨b14, 1, none⟩)) (by kernel_rfl) (by kernel_rfl) ?_)
        refine sq (o_pv (.int .i64 h.Del) (by kernel_rfl) (x_load1 (by kernel_rfl) Tryd.isAgg3 (k127.2.1.cell' 1 rfl)) ?_)
        refine sq (o_pv (.int .i64 del24) (by kernel_rfl) (by kernel_rfl) ?_)
        by_cases h211 : h.Del = del24
        ·
          replace hp := hp.1 h211
          refine sq (o_pv (.bool false) (by kernel_rfl) (x_ndf (p := h.Del = del24) (by kernel_rfl) h211) ?_)
          refine sq (o_pv (.bool false) rfl (by kernel_rfl) ?_)
          refine sq (o_pv (.bool false) rfl (by kernel_rfl) ?_)
          refine sq (o_pv (.pointer (some ⟨b14, 3, none⟩)) (by kernel_rfl) (by kernel_rfl) ?_)
          refine sq (o_pv (.int .i64 h.Add) (by kernel_rfl) (x_load1 (by kernel_rfl) Tryd.isAgg3 (k127.2.1.cell' 3 rfl)) ?_)
          refine sq (o_pv (.int .i64 add26) (by kernel_rfl) (by kernel_rfl) ?_)
          by_cases h212 : h.Add = add26
          ·
            replace hp := hp.1 h212
            refine sq (o_pv (.bool false) (by kernel_rfl) (x_ndf (p := h.Add = add26) (by kernel_rfl) h212) ?_)
            refine sq (o_pv (.bool false) rfl (by kernel_rfl) ?_)
            refine sq (o_pv (.bool false) rfl (by kernel_rfl) ?_)
            refine sq (o_pv (.pointer (some ⟨b14, 2, none⟩)) (by kernel_rfl) (by kernel_rfl) ?_)
            refine sq (o_pv (.int .i64 h.To) (by kernel_rfl) (x_load1 (by kernel_rfl) Tryd.isAgg3 (k127.2.1.cell' 2 rfl)) ?_)
            refine sq (o_pv (.pointer (some ⟨b14, 0, none⟩)) (by kernel_rfl) (by kernel_rfl) ?_)
            refine sq (o_pv (.int .i64 h.At) (by kernel_rfl) (x_load1 (by kernel_rfl) Tryd.isAgg3 (k127.2.1.cell' 0 rfl)) ?_)
            obtain ⟨h213, hp⟩ := hp
            refine sq (o_pv (.int .i64 (h.To - h.At)) (by kernel_rfl) (x_sub2 (k := .i64) (a := h.To) (b := h.At) (h.To - h.At) (by kernel_rfl) (by kernel_rfl) (wrap_inR h213)) ?_)
            refine sq (o_pv (.int .i64 shift) (by kernel_rfl) (by kernel_rfl) ?_)
            by_cases h214 : (h.To - h.At) = shift
            ·
              replace hp := hp.1 h214
              refine sq (o_pv (.bool false) (by kernel_rfl) (x_ndf (p := (h.To - h.At) = shift) (by kernel_rfl) h214) ?_)
              refine sq (o_pv (.bool false) rfl (by kernel_rfl) ?_)
              refine sq (o_pv (.bool false) rfl (by kernel_rfl) ?_)
              refine sq (o_pv (.pointer (some ⟨b14, 2, none⟩)) (by kernel_rfl) (by kernel_rfl) ?_)
              refine sq (o_pv (.int .i64 h.To) (by kernel_rfl) (x_load1 (by kernel_rfl) Tryd.isAgg3 (k127.2.1.cell' 2 rfl)) ?_)
              refine sq (o_pv (.bool (decide (h.To < (0 : Int)))) (by kernel_rfl) (by kernel_rfl) ?_)
              refine sq (o_pv (.bool (decide (h.To < (0 : Int)))) rfl (by kernel_rfl) ?_)
              refine nil_ ?_
              refine then_normal (hJ207 _ _ _ ⟨[(70, (.bool (decide ((h.At < end_) ∨ ((¬ (h.Del = del24)) ∨ ((¬ (h.Add = add26)) ∨ ((¬ ((h.To - h.At) = shift)) ∨ (h.To < (0 : Int)))))))))], fit_mk (fun _ _ => rfl) (by kernel_rfl) (vs_cons (Eq.trans (b := (.bool (decide (h.To < (0 : Int))))) (by kernel_rfl) (dec_d ((or_iff_right h210).trans ((or_iff_right (fun h1 => h1 h211)).trans ((or_iff_right (fun h1 => h1 h212)).trans ((or_iff_right (fun h1 => h1 h214)).trans Iff.rfl))))).symm) vs_nil), rfl, rfl⟩)
            ·
              replace hp := hp.2 h214
              refine sq (o_pv (.bool true) (by kernel_rfl) (x_ndt (p := (h.To - h.At) = shift) (by kernel_rfl) h214) ?_)
              refine sq (o_pv (.bool true) rfl (by kernel_rfl) ?_)
              refine sq (o_pv (.bool true) rfl (by kernel_rfl) ?_)
              refine sq (o_not (by kernel_rfl) ?_)
              refine sq (o_not (by kernel_rfl) ?_)
              refine sq (o_not (by kernel_rfl) ?_)
              refine sq (o_pv (.bool true) rfl (by kernel_rfl) ?_)
              refine nil_ ?_
              refine then_normal (hJ207 _ _ _ ⟨[(70, (.bool (decide ((h.At < end_) ∨ ((¬ (h.Del = del24)) ∨ ((¬ (h.Add = add26)) ∨ ((¬ ((h.To - h.At) = shift)) ∨ (h.To < (0 : Int)))))))))], fit_mk (fun _ _ => rfl) (by kernel_rfl) (vs_cons (Eq.trans (b := (.bool true)) (by kernel_rfl) (dec_t ((or_iff_right h210).trans ((or_iff_right (fun h1 => h1 h211)).trans ((or_iff_right (fun h1 => h1 h212)).trans (iff_true_intro (Or.inl h214)))))).symm) vs_nil), rfl, rfl⟩)
          ·
            replace hp := hp.2 h212
            refine sq (o_pv (.bool true) (by kernel_rfl) (x_ndt (p := h.Add = add26) (by kernel_rfl) h212) ?_)
            refine sq (o_pv (.bool true) rfl (by kernel_rfl) ?_)
            refine sq (o_pv (.bool true) rfl (by kernel_rfl) ?_)
            refine sq (o_not (by kernel_rfl) ?_)
            refine sq (o_not (by kernel_rfl) ?_)
            refine sq (o_not (by kernel_rfl) ?_)
            refine sq (o_not (by kernel_rfl) ?_)
            refine sq (o_not (by kernel_rfl) ?_)
            refine sq (o_not (by kernel_rfl) ?_)
            refine sq (o_not (by kernel_rfl) ?_)
            refine sq (o_pv (.bool true) rfl (by kernel_rfl) ?_)
            refine sq (o_pv (.bool true) rfl (by kernel_rfl) ?_)
            refine sq (o_not (by kernel_rfl) ?_)
            refine sq (o_not (by kernel_rfl) ?_)
            refine sq (o_not (by kernel_rfl) ?_)
            refine sq (o_pv (.bool true) rfl (by kernel_rfl) ?_)
            refine nil_ ?_
            refine then_normal (hJ207 _ _ _ ⟨[(70, (.bool (decide ((h.At < end_) ∨ ((¬ (h.Del = del24)) ∨ ((¬ (h.Add = add26)) ∨ ((¬ ((h.To - h.At) = shift)) ∨ (h.To < (0 : Int)))))))))], fit_mk (fun _ _ => rfl) (by kernel_rfl) (vs_cons (Eq.trans (b := (.bool true)) (by kernel_rfl) (dec_t ((or_iff_right h210).trans ((or_iff_right (fun h1 => h1 h211)).trans (iff_true_intro (Or.inl h212))))).symm) vs_nil), rfl, rfl⟩)
        ·
          replace hp := hp.2 h211
          refine sq (o_pv (.bool true) (by kernel_rfl) (x_ndt (p := h.Del = del24) (by kernel_rfl) h211) ?_)
          refine sq (o_pv (.bool true) rfl (by kernel_rfl) ?_)
          refine sq (o_pv (.bool true) rfl (by kernel_rfl) ?_)
          refine sq (o_not (by kernel_rfl) ?_)
          refine sq (o_not (by kernel_rfl) ?_)
          refine sq (o_not (by kernel_rfl) ?_)
          refine sq (o_not (by kernel_rfl) ?_)
          refine sq (o_pv (.bool true) rfl (by kernel_rfl) ?_)
          refine sq (o_pv (.bool true) rfl (by kernel_rfl) ?_)
          refine sq (o_not (by kernel_rfl) ?_)
          refine sq (o_not (by kernel_rfl) ?_)
          refine sq (o_not (by kernel_rfl) ?_)
          refine sq (o_not (by kernel_rfl) ?_)
          refine sq (o_not (by kernel_rfl) ?_)
          refine sq (o_not (by kernel_rfl) ?_)
          refine sq (o_not (by kernel_rfl) ?_)
          refine sq (o_pv (.bool true) rfl (by kernel_rfl) ?_)
          refine sq (o_pv (.bool true) rfl (by kernel_rfl) ?_)
          refine sq (o_not (by kernel_rfl) ?_)
          refine sq (o_not (by kernel_rfl) ?_)
          refine sq (o_not (by kernel_rfl) ?_)
          refine sq (o_pv (.bool true) rfl (by kernel_rfl) ?_)
          refine nil_ ?_
          refine then_normal (hJ207 _ _ _ ⟨[(70, (.bool (decide ((h.At < end_) ∨ ((¬ (h.Del = del24)) ∨ ((¬ (h.Add = add26)) ∨ ((¬ ((h.To - h.At) = shift)) ∨ (h.To < (0 : Int)))))))))], fit_mk (fun _ _ => rfl) (by kernel_rfl) (vs_cons (Eq.trans (b := (.bool true)) (by kernel_rfl) (dec_t ((or_iff_right h210).trans (iff_true_intro (Or.inl h211)))).symm) vs_nil), rfl, rfl⟩)
    ·
      rintro _ w208 g209 ⟨rfl, hw⟩
      subst hw
      have hp := hq
      refine then_normal (K200 _ _ _ _ ?_)
      refine cond_d ((h.At < end_) ∨ ((¬ (h.Del = del24)) ∨ ((¬ (h.Add = add26)) ∨ ((¬ ((h.To - h.At) = shift)) ∨ (h.To < (0 : Int)))))) (by kernel_rfl) (fun h215 => ?_) (fun h215 => ?_)
      ·
        replace hp := hp.1 h215
        refine seq_ (fun _ K216 => ?_)
        refine reg_ ?_
        refine sq (o_pv (.int .i64 (1 : Int)) rfl (by kernel_rfl) ?_)
        refine nil_ ?_
        refine then_normal (K216 _ _ _ _ ?_)
        refine wp_ret ?_
        refine then_ret ?_
        refine end_ret hQ (.int .i64 (1 : Int)) (by kernel_rfl) ?_
        exact ⟨(1 : Int), hp, E122, rfl, (by decide : inR .i64 (1 : Int))⟩
      ·
        replace hp := hp.2 h215
        refine wp_skip ?_
        refine then_normal (K199 _ _ _ _ ?_)
        refine seq_ (fun _ K217 => ?_)
        refine seq_ (fun _ K218 => ?_)
        obtain ⟨hp, hq⟩ := hp
        refine ground_ ?_
        refine join_ 77368891272094832358588416 (fun lq w223 => lq = [(85, (.bool (decide ((h.At > (a.length : Int)) ∨ (h.Del > ((a.length : Int) - h.At))))))] ∧ w111 = w223) (fun Kj221 hJ222 => ?_) ?_
        ·
          refine reg_ ?_
          refine sq (o_pv (.pointer (some ⟨b14, 0, none⟩)) rfl (by kernel_rfl) ?_)
          refine sq (o_pv (.int .i64 h.At) rfl (x_load1 (by kernel_rfl) Tryd.isAgg3 (k127.2.1.cell' 0 rfl)) ?_)
          refine sq (o_pv (.slice aa1 a.length ca2) rfl (by kernel_rfl) ?_)
          refine sq (o_pv (.int .i64 (a.length : Int)) rfl (by kernel_rfl) ?_)
          by_cases h225 : h.At > (a.length : Int)
          ·
            replace hp := hp.1 h225
            refine sq (o_pv (.bool true) rfl (x_dt (p := h.At > (a.length : Int)) (by kernel_rfl) h225) ?_)
            refine sq (o_pv (.bool true) rfl (by kernel_rfl) ?_)
            refine sq (o_not (by kernel_rfl) ?_)
            refine sq (o_not (by kernel_rfl) ?_)
            refine sq (o_not (by kernel_rfl) ?_)
            refine sq (o_not (by kernel_rfl) ?_)
            refine sq (o_not (by kernel_rfl) ?_)
            refine sq (o_not (by kernel_rfl) ?_)
            refine sq (o_not (by kernel_rfl) ?_)
            refine sq (o_not (by kernel_rfl) ?_)
            refine sq (o_pv (.bool true) rfl (by kernel_rfl) ?_)
            refine nil_ ?_
            refine then_normal (hJ222 _ _ _ ⟨[(85, (.bool (decide ((h.At > (a.length : Int)) ∨ (h.Del > ((a.length : Int) - h.At))))))], fit_mk (fun _ _ => rfl) (by kernel_rfl) (vs_cons (Eq.trans (b := (.bool true)) (by kernel_rfl) (dec_t (iff_true_intro (Or.inl h225))).symm) vs_nil), rfl, rfl⟩)
          ·
            replace hp := hp.2 h225
            refine sq (o_pv (.bool false) rfl (x_df (p := h.At > (a.length : Int)) (by kernel_rfl) h225) ?_)
            refine sq (o_pv (.bool false) rfl (by kernel_rfl) ?_)
            refine sq (o_pv (.pointer (some ⟨b14, 1, none⟩)) (by kernel_rfl) (by kernel_rfl) ?_)
            refine sq (o_pv (.int .i64 h.Del) (by kernel_rfl) (x_load1 (by kernel_rfl) Tryd.isAgg3 (k127.2.1.cell' 1 rfl)) ?_)
            refine sq (o_pv (.slice aa1 a.length ca2) (by kernel_rfl) (by kernel_rfl) ?_)
            refine sq (o_pv (.int .i64 (a.length : Int)) (by kernel_rfl) (by kernel_rfl) ?_)
            refine sq (o_pv (.pointer (some ⟨b14, 0, none⟩)) (by kernel_rfl) (by kernel_rfl) ?_)
            refine sq (o_pv (.int .i64 h.At) (by kernel_rfl) (x_load1 (by kernel_rfl) Tryd.isAgg3 (k127.2.1.cell' 0 rfl)) ?_)
            obtain ⟨h226, hp⟩ := hp
            refine sq (o_pv (.int .i64 ((a.length : Int) - h.At)) (by kernel_rfl) (x_sub2 (k := .i64) (a := (a.length : Int)) (b := h.At) ((a.length : Int) - h.At) (by kernel_rfl) (by kernel_rfl) (wrap_inR h226)) ?_)
            refine sq (o_pv (.bool (decide (h.Del > ((a.length : Int) - h.At)))) (by kernel_rfl) (by kernel_rfl) ?_)
            refine sq (o_pv (.bool (decide (h.Del > ((a.length : Int) - h.At)))) rfl (by kernel_rfl) ?_)
            refine nil_ ?_
            refine then_normal (hJ222 _ _ _ ⟨[(85, (.bool (decide ((h.At > (a.length : Int)) ∨ (h.Del > ((a.length : Int) - h.At))))))], fit_mk (fun _ _ => rfl) (by kernel_rfl) (vs_cons (Eq.trans (b := (.bool (decide (h.Del > ((a.length : Int) - h.At))))) (by kernel_rfl) (dec_d ((or_iff_right h225).trans Iff.rfl)).symm) vs_nil), rfl, rfl⟩)
        ·
          rintro _ w223 g224 ⟨rfl, hw⟩
          subst hw
          have hp := hq
          refine then_normal (K218 _ _ _ _ ?_)
          refine cond_d ((h.At > (a.length : Int)) ∨ (h.Del > ((a.length : Int) - h.At))) (by kernel_rfl) (fun h227 => ?_) (fun h227 => ?_)
          ·
            replace hp := hp.1 h227
            refine seq_ (fun _ K228 => ?_)
            refine reg_ ?_
            refine sq (o_pv (.int .i64 (4 : Int)) rfl (by kernel_rfl) ?_)
            refine nil_ ?_
            refine then_normal (K228 _ _ _ _ ?_)
            refine wp_ret ?_
            refine then_ret ?_
            refine end_ret hQ (.int .i64 (4 : Int)) (by kernel_rfl) ?_
            exact ⟨(4 : Int), hp, E122, rfl, (by decide : inR .i64 (4 : Int))⟩
          ·
            replace hp := hp.2 h227
            refine wp_skip ?_
            refine then_normal (K217 _ _ _ _ ?_)
            refine seq_ (fun _ K229 => ?_)
            refine reg_ ?_
            refine sq (o_pv (.pointer (some ⟨b14, 0, none⟩)) rfl (by kernel_rfl) ?_)
            refine sq (o_pv (.int .i64 h.At) rfl (x_load1 (by kernel_rfl) Tryd.isAgg3 (k127.2.1.cell' 0 rfl)) ?_)
            refine sq (o_pv (.int .i64 h.At) rfl (by kernel_rfl) ?_)
            refine nil_ ?_
            refine then_normal (K229 _ _ _ _ ?_)
            refine seq_ (fun _ K230 => ?_)
            refine seq_ (fun _ K231 => ?_)
            refine reg_ ?_
            refine sq (o_pv (.int .i64 (0 : Int)) rfl (by kernel_rfl) ?_)
            refine nil_ ?_
            refine then_normal (K231 _ _ _ _ ?_)
            refine wp_block ?_
            obtain ⟨I365, m366, hI367, hp⟩ := hp
            refine loop_ 41538374558793611206898901908992256 (fun kq lq w369 => ∃ (X370 : List Nat) (at_232 : Int) (i234 : Int), (lq = [(12, (.int .i64 at_232)), (13, (.int .i64 i234))]) ∧ (kq = m366 at_232 i234) ∧ (Evo [] w w369) ∧ (Old X370 w369) ∧ (Sub X X370) ∧ (Sl rStr X370 w369 aa1 ca2 a) ∧ (Sl r_rectoref11_Edit X370 w369 ahLines8 chLines9 h.Lines) ∧ (OB ([]) w.heap.size X370 w369 b14 [(.int .i64 h.At), (.int .i64 h.Del), (.int .i64 h.To), (.int .i64 h.Add), (.slice ahLines8 h.Lines.length chLines9)] 111) ∧ (inR .i64 at_232) ∧ (inR .i64 i234) ∧ (I365 at_232 i234)) (m366 h.At (0 : Int)) [(12, (.int .i64 h.At)), (13, (.int .i64 (0 : Int)))] (vs_cons (by kernel_rfl) (vs_cons (by kernel_rfl) vs_nil)) ⟨X112, h.At, (0 : Int), rfl, rfl, E122, hXo123, hS124, ha125, hhLines126, k127, rhAt4, (by decide : inR .i64 (0 : Int)), hI367⟩ ?_
            rintro _ _ w369 g372 ⟨X370, at_232, i234, rfl, rfl, E375, hXo376, hS377, ha378, hhLines379, k380, rat_233, ri235, hI368⟩ Kl373 hA374
            replace hp := hp at_232 i234 hI368 rat_233 ri235
            refine seq_ (fun _ K381 => ?_)
            refine seq_ (fun _ K382 => ?_)
            refine reg_ ?_
            refine sq (o_pv (.int .i64 i234) rfl (by kernel_rfl) ?_)
            refine sq (o_pv (.pointer (some ⟨b14, 4, none⟩)) rfl (by kernel_rfl) ?_)
            refine sq (o_pv (.slice ahLines8 h.Lines.length chLines9) rfl (x_load1 (by kernel_rfl) Tryd.isAgg25 (k380.2.1.cell' 4 rfl)) ?_)
            refine sq (o_pv (.int .i64 (h.Lines.length : Int)) rfl (by kernel_rfl) ?_)
            refine sq (o_pv (.bool (decide (i234 < (h.Lines.length : Int)))) rfl (by kernel_rfl) ?_)
            refine nil_ ?_
            refine then_normal (K382 _ _ _ _ ?_)
            refine cond_d (i234 < (h.Lines.length : Int)) (by kernel_rfl) (fun h383 => ?_) (fun h383 => ?_)
            ·
              replace hp := hp.1 h383
              refine wp_skip ?_
              refine then_normal (K381 _ _ _ _ ?_)
              refine seq_ (fun _ K384 => ?_)
              obtain ⟨k439, hk440, hp⟩ := hp
              refine ground_ ?_
              refine join_ 41538335254197363896075173861789952 (fun lq w441 => ∃ (X442 : List Nat) (at_437 : Int), (lq = [(12, (.int .i64 at_437))]) ∧ (Evo [] w w441) ∧ (Old X442 w441) ∧ (Sub X X442) ∧ (Sl rStr X442 w441 aa1 ca2 a) ∧ (Sl r_rectoref11_Edit X442 w441 ahLines8 chLines9 h.Lines) ∧ (OB ([]) w.heap.size X442 w441 b14 [(.int .i64 h.At), (.int .i64 h.Del), (.int .i64 h.To), (.int .i64 h.Add), (.slice ahLines8 h.Lines.length chLines9)] 111) ∧ (inR .i64 at_437) ∧ (k439 at_437)) (fun Kj443 hJ444 => ?_) ?_
              ·
                refine wp_block ?_
                refine seq_ (fun _ K452 => ?_)
                refine seq_ (fun _ K453 => ?_)
                refine reg_ ?_
                refine sq (o_pv (.pointer (some ⟨b14, 4, none⟩)) rfl (by kernel_rfl) ?_)
                refine sq (o_pv (.slice ahLines8 h.Lines.length chLines9) rfl (x_load1 (by kernel_rfl) Tryd.isAgg25 (k380.2.1.cell' 4 rfl)) ?_)
                refine sq (o_pv (.int .i64 i234) rfl (by kernel_rfl) ?_)
                obtain ⟨h454, hp⟩ := hp
                obtain ⟨b455, o456, cs457, ha458, nx459, lt460, ok461, hc462⟩ := Sl.atI hhLines379 i234 h454
                obtain ⟨rfl, reOp463, zeLine464⟩ := r_rectoref11_Edit_open ok461
                replace hp := hp reOp463
                replace hp := hp zeLine464
                refine sq (o_pv (.pointer (some ⟨b455, o456 + i234.toNat * 2, none⟩)) rfl (x_ixA (m := h.Lines.length) (c := chLines9) (k := .i64) (i := i234) Tryd.underlying25 Tryd.sizeOf105 (by rw [← ha458]; kernel_rfl) (by kernel_rfl) h454) ?_)
                refine sq (o_pv (.pointer (some ⟨b455, o456 + i234.toNat * 2, none⟩)) rfl (by kernel_rfl) ?_)
                refine sq (o_pv (.int .i64 ((lget h.Lines i234).Op)) rfl (x_load1 (by kernel_rfl) Tryd.isAgg3 (hc462 0 _ rfl)) ?_)
                refine sq (o_pv (.bool (decide (((lget h.Lines i234).Op) = (3 : Int)))) rfl (by kernel_rfl) ?_)
                refine nil_ ?_
                refine then_normal (K453 _ _ _ _ ?_)
                refine cond_d (((lget h.Lines i234).Op) = (3 : Int)) (by kernel_rfl) (fun h465 => ?_) (fun h465 => ?_)
                ·
                  replace hp := hp.1 h465
                  refine wp_exit ?_
                  refine then_exit ?_
                  refine blk_exit ?_
                  refine then_normal (hJ444 _ _ _ ⟨[(12, (.int .i64 at_232))], fit_mk (fun _ _ => rfl) (by kernel_rfl) (vs_cons (by kernel_rfl) vs_nil), ?_⟩)
                  exact ⟨X370, at_232, rfl, E375, hXo376, hS377, ha378, hhLines379, k380, rat_233, hp⟩
                ·
                  replace hp := hp.2 h465
                  refine wp_skip ?_
                  refine then_normal (K452 _ _ _ _ ?_)
                  refine seq_ (fun _ K466 => ?_)
                  refine seq_ (fun _ K467 => ?_)
                  refine reg_drawn (RB w369.heap.size []) 11 (by kernel_rfl) (fun w468 hd469 => ?_)
                  have e470 := Evo.of_drew hd469
                  have z471 : w468.heap.size = w369.heap.size := by rw [hd469]
                  clear hd469
                  have s473 := Step.of0 X370 e470
                  have er472 := RB.refl w369.heap.size [] w468
                  have E474 := (Evo.then0 E375 (Step.evo s473))
                  have hXo475 := (Old.step hXo376 s473)
                  have hS476 := (Sub.trans hS377 (Step.up s473))
                  have ha477 := (Sl.step ha378 s473)
                  have hhLines478 := (Sl.step hhLines379 s473)
                  have k479 := (OB.step0 k380 s473)
                  refine r_take 0 (.slice aa1 a.length ca2) (RB.pre _ _) rfl (by kernel_rfl) (fun _ _ _ h => hQ.panic _ _ _ _ _ h) (.inl ⟨rfl, fun wq hq => (by kernel_rfl)⟩) ?_
                  refine r_take 1 (.int .i64 at_232) (RB.pre _ _) rfl (by kernel_rfl) (fun _ _ _ h => hQ.panic _ _ _ _ _ h) (.inl ⟨rfl, fun wq hq => (by kernel_rfl)⟩) ?_
                  obtain ⟨h480, hp⟩ := hp
                  obtain ⟨b481, o482, cs483, ha484, nx485, lt486, ok487, hc488⟩ := Sl.atI ha477 at_232 h480
                  obtain ⟨rfl, ze489⟩ := ok487
                  replace hp := hp ze489
                  refine r_take 2 (.pointer (some ⟨b481, o482 + at_232.toNat * 1, none⟩)) (RB.pre _ _) rfl (by kernel_rfl) (fun _ _ _ h => hQ.panic _ _ _ _ _ h) (.inl ⟨rfl, fun wq hq => (x_ixA (m := a.length) (c := ca2) (k := .i64) (i := at_232) Tryd.underlying22 Tryd.sizeOf9 (by rw [← ha484]; kernel_rfl) (by kernel_rfl) h480)⟩) ?_
                  refine r_take 3 (.string (lget a at_232)) (RB.pre _ _) rfl (by kernel_rfl) (fun _ _ _ h => hQ.panic _ _ _ _ _ h) (.inl ⟨rfl, fun wq hq => (x_load1 (by kernel_rfl) Tryd.isAgg9 ((CellsAt.rb hc488 (RB.trans er472 hq) (Nat.lt_of_lt_of_eq lt486 z471) (fun h => by cases h)) 0 _ rfl))⟩) ?_
                  refine r_take 4 (.pointer (some ⟨b14, 4, none⟩)) (RB.pre _ _) rfl (by kernel_rfl) (fun _ _ _ h => hQ.panic _ _ _ _ _ h) (.inl ⟨rfl, fun wq hq => (by kernel_rfl)⟩) ?_
                  refine r_take 5 (.slice ahLines8 h.Lines.length chLines9) (RB.pre _ _) rfl (by kernel_rfl) (fun _ _ _ h => hQ.panic _ _ _ _ _ h) (.inl ⟨rfl, fun wq hq => (x_load1 (by kernel_rfl) Tryd.isAgg25 ((Blk.rb k479.2.1 (RB.trans er472 hq) (Nat.lt_of_lt_of_eq (Blk.lt k479.2.1) z471) (fun h => by cases h)).cell' 4 rfl))⟩) ?_
                  refine r_take 6 (.int .i64 i234) (RB.pre _ _) rfl (by kernel_rfl) (fun _ _ _ h => hQ.panic _ _ _ _ _ h) (.inl ⟨rfl, fun wq hq => (by kernel_rfl)⟩) ?_
                  obtain ⟨h490, hp⟩ := hp
                  obtain ⟨b491, o492, cs493, ha494, nx495, lt496, ok497, hc498⟩ := Sl.atI hhLines478 i234 h490
                  obtain ⟨rfl, reOp499, zeLine500⟩ := r_rectoref11_Edit_open ok497
                  replace hp := hp reOp499
                  replace hp := hp zeLine500
                  refine r_take 7 (.pointer (some ⟨b491, o492 + i234.toNat * 2, none⟩)) (RB.pre _ _) rfl (by kernel_rfl) (fun _ _ _ h => hQ.panic _ _ _ _ _ h) (.inl ⟨rfl, fun wq hq => (x_ixA (m := h.Lines.length) (c := chLines9) (k := .i64) (i := i234) Tryd.underlying25 Tryd.sizeOf105 (by rw [← ha494]; kernel_rfl) (by kernel_rfl) h490)⟩) ?_
                  refine r_take 8 (.pointer (some ⟨b491, o492 + i234.toNat * 2 + 1, none⟩)) (RB.pre _ _) rfl (by kernel_rfl) (fun _ _ _ h => hQ.panic _ _ _ _ _ h) (.inl ⟨rfl, fun wq hq => (by kernel_rfl)⟩) ?_
                  refine r_take 9 (.string ((lget h.Lines i234).Line)) (RB.pre _ _) rfl (by kernel_rfl) (fun _ _ _ h => hQ.panic _ _ _ _ _ h) (.inl ⟨rfl, fun wq hq => (x_load1 (by kernel_rfl) Tryd.isAgg9 ((CellsAt.rb hc498 (RB.trans er472 hq) (Nat.lt_of_lt_of_eq lt496 z471) (fun h => by cases h)) 1 _ rfl))⟩) ?_
                  refine r_take 10 (.bool (!decide ((lget a at_232 : ByteArray) = (lget h.Lines i234).Line))) (RB.pre _ _) rfl (by kernel_rfl) (fun _ _ _ h => hQ.panic _ _ _ _ _ h) (.inl ⟨rfl, fun wq hq => (x_strne (by kernel_rfl) (by kernel_rfl))⟩) ?_
                  refine r_done (by kernel_rfl) ?_
                  refine then_normal (K467 _ _ _ _ ?_)
                  refine cond_nd ((lget a at_232 : ByteArray) = (lget h.Lines i234).Line) (by kernel_rfl) (fun h501 => ?_) (fun h501 => ?_)
                  ·
                    replace hp := hp.1 h501
                    refine seq_ (fun _ K502 => ?_)
                    refine reg_ ?_
                    refine sq (o_pv (.int .i64 (9 : Int)) rfl (by kernel_rfl) ?_)
                    refine nil_ ?_
                    refine then_normal (K502 _ _ _ _ ?_)
                    refine wp_ret ?_
                    refine then_ret ?_
                    refine blk_ret ?_
                    refine then_ret ?_
                    refine then_ret ?_
                    refine then_ret ?_
                    refine blk_ret ?_
                    refine then_ret ?_
                    refine end_ret hQ (.int .i64 (9 : Int)) (by kernel_rfl) ?_
                    exact ⟨(9 : Int), hp, E474, rfl, (by decide : inR .i64 (9 : Int))⟩
                  ·
                    replace hp := hp.2 h501
                    refine wp_skip ?_
                    refine then_normal (K466 _ _ _ _ ?_)
                    refine reg_ ?_
                    refine sq (o_pv (.int .i64 at_232) rfl (by kernel_rfl) ?_)
                    obtain ⟨h503, hp⟩ := hp
                    refine sq (o_pv (.int .i64 (at_232 + (1 : Int))) rfl (x_add2 (k := .i64) (a := at_232) (b := (1 : Int)) (at_232 + (1 : Int)) (by kernel_rfl) (by kernel_rfl) (wrap_inR h503)) ?_)
                    refine sq (o_pv (.int .i64 (at_232 + (1 : Int))) rfl (by kernel_rfl) ?_)
                    refine nil_ ?_
                    refine blk_normal ?_
                    refine then_normal (hJ444 _ _ _ ⟨[(12, (.int .i64 (at_232 + (1 : Int))))], fit_mk (fun _ _ => rfl) (by kernel_rfl) (vs_cons (by kernel_rfl) vs_nil), ?_⟩)
                    exact ⟨X370, (at_232 + (1 : Int)), rfl, E474, hXo475, hS476, ha477, hhLines478, k479, h503, hp⟩
              ·
                rintro _ w441 g504 ⟨X442, at_437, rfl, E446, hXo447, hS448, ha449, hhLines450, k451, rat_438, hv445⟩
                replace hp := hk440 at_437 hv445 rat_438
                refine then_normal (K384 _ _ _ _ ?_)
                refine reg_ ?_
                refine sq (o_pv (.int .i64 i234) rfl (by kernel_rfl) ?_)
                obtain ⟨h505, hp⟩ := hp
                refine sq (o_pv (.int .i64 (i234 + (1 : Int))) rfl (x_add2 (k := .i64) (a := i234) (b := (1 : Int)) (i234 + (1 : Int)) (by kernel_rfl) (by kernel_rfl) (wrap_inR h505)) ?_)
                refine sq (o_pv (.int .i64 (i234 + (1 : Int))) rfl (by kernel_rfl) ?_)
                refine nil_ ?_
                refine then_normal (hA374 _ _ _ ⟨_, [(12, (.int .i64 at_437)), (13, (.int .i64 (i234 + (1 : Int))))], hp.2, fit_mk (AgB.nest (AgB.look (AgB.mix _ _ _) (by kernel_rfl)) (by kernel_rfl) (by kernel_rfl)) (by kernel_rfl) (vs_cons (by kernel_rfl) (vs_cons (by kernel_rfl) vs_nil)), ?_⟩)
                exact ⟨X442, at_437, (i234 + (1 : Int)), rfl, rfl, E446, hXo447, hS448, ha449, hhLines450, k451, rat_438, h505, hp.1⟩
            ·
              replace hp := hp.2 h383
              refine wp_exit ?_
              refine then_exit ?_
              refine then_exit ?_
              refine blk_exit ?_
              refine then_normal (K230 _ _ _ _ ?_)
              refine seq_ (fun _ K506 => ?_)
              refine reg_ ?_
              refine sq (o_pv (.int .i64 (0 : Int)) rfl (by kernel_rfl) ?_)
              refine nil_ ?_
              refine then_normal (K506 _ _ _ _ ?_)
              refine wp_ret ?_
              refine end_ret hQ (.int .i64 (0 : Int)) (by kernel_rfl) ?_
              exact ⟨(0 : Int), hp, E375, rfl, (by decide : inR .i64 (0 : Int))⟩

def rectoref11_Apply_p (a : (List ByteArray)) (h : (List S_rectoref11_Hunk)) (Q : (List ByteArray) → S_rectoref3_Wrong → Prop) : Prop :=
  ((a.length ≤ 9223372036854775807) → ((h.length ≤ 9223372036854775807) → (∃ (I1619 : (List ByteArray) → Int → Int → Prop) (m1620 : (List ByteArray) → Int → Int → Nat), (I1619 ([] : List ByteArray) (0 : Int) (0 : Int)) ∧ (∀ (out815 : (List ByteArray)) (end_820 : Int) (i822 : Int), (I1619 out815 end_820 i822) → (out815.length ≤ 9223372036854775807) → (inR .i64 end_820) → (inR .i64 i822) → (((i822 < (h.length : Int)) → ((inL h i822) ∧ ((inR .i64 ((lget h i822).At)) → ((inR .i64 ((lget h i822).Del)) → ((inR .i64 ((lget h i822).To)) → ((inR .i64 ((lget h i822).Add)) → ((((lget h i822).Lines).length ≤ 9223372036854775807) → ((inR .i64 ((out815.length : Int) - end_820)) ∧ (rectoref11_hunk_p a (lget h i822) end_820 ((out815.length : Int) - end_820) (fun (r1663 : Int) => ((inR .i64 r1663) → (((¬ (r1663 = (0 : Int))) → (rectoref3_At_p (ByteArray.mk #[104, 117, 110, 107]) i822 r1663 (fun (r1673 : S_rectoref3_Wrong) => ((r1673.Parts.length ≤ 9223372036854775807) → ((inR .i64 r1673.Err) → Q ([] : List ByteArray) r1673))))) ∧ ((r1663 = (0 : Int)) → ((inL h i822) ∧ ((inR .i64 ((lget h i822).At)) → ((inR .i64 ((lget h i822).Del)) → ((inR .i64 ((lget h i822).To)) → ((inR .i64 ((lget h i822).Add)) → ((((lget h i822).Lines).length ≤ 9223372036854775807) → ((0 ≤ end_820 ∧ end_820 ≤ ((lget h i822).At) ∧ ((lget h i822).At) ≤ (a.length : Int)) ∧ (((out815.length + ((a.take ((lget h i822).At).toNat).drop end_820.toNat).length) * 16 ≤ 140737488355328) ∧ (∃ (I2155 : (List ByteArray) → Int → Prop) (m2156 : (List ByteArray) → Int → Nat), (I2155 (out815 ++ ((a.take ((lget h i822).At).toNat).drop end_820.toNat)) (0 : Int)) ∧ (∀ (out1940 : (List ByteArray)) (k1945 : Int), (I2155 out1940 k1945) → (out1940.length ≤ 9223372036854775807) → (inR .i64 k1945) → ((inL h i822) ∧ ((inR .i64 ((lget h i822).At)) → ((inR .i64 ((lget h i822).Del)) → ((inR .i64 ((lget h i822).To)) → ((inR .i64 ((lget h i822).Add)) → ((((lget h i822).Lines).length ≤ 9223372036854775807) → (((k1945 < (((lget h i822).Lines).length : Int)) → (∃ k2283 : (List ByteArray) → Prop, (∀ (out2278 : (List ByteArray)), k2283 out2278 → (out2278.length ≤ 9223372036854775807) → ((inR .i64 (k1945 + (1 : Int))) ∧ ((I2155 out2278 (k1945 + (1 : Int))) ∧ m2156 out2278 (k1945 + (1 : Int)) < m2156 out1940 k1945))) ∧ ((inL h i822) ∧ ((inR .i64 ((lget h i822).At)) → ((inR .i64 ((lget h i822).Del)) → ((inR .i64 ((lget h i822).To)) → ((inR .i64 ((lget h i822).Add)) → ((((lget h i822).Lines).length ≤ 9223372036854775807) → ((inL ((lget h i822).Lines) k1945) ∧ ((inR .i64 ((lget ((lget h i822).Lines) k1945).Op)) → ((((lget ((lget h i822).Lines) k1945).Line).size ≤ maxLen) → (((¬ (((lget ((lget h i822).Lines) k1945).Op) = (2 : Int))) → ((inL h i822) ∧ ((inR .i64 ((lget h i822).At)) → ((inR .i64 ((lget h i822).Del)) → ((inR .i64 ((lget h i822).To)) → ((inR .i64 ((lget h i822).Add)) → ((((lget h i822).Lines).length ≤ 9223372036854775807) → ((inL ((lget h i822).Lines) k1945) ∧ ((inR .i64 ((lget ((lget h i822).Lines) k1945).Op)) → ((((lget ((lget h i822).Lines) k1945).Line).size ≤ maxLen) → (((out1940.length + ([(lget ((lget h i822).Lines) k1945).Line]).length) * 16 ≤ 140737488355328) ∧ (k2283 (out1940 ++ ([(lget ((lget h i822).Lines) k1945).Line])))))))))))))) ∧ ((((lget ((lget h i822).Lines) k1945).Op) = (2 : Int)) → (k2283 out1940)))))))))))))) ∧ ((¬ (k1945 < (((lget h i822).Lines).length : Int))) → ((inL h i822) ∧ ((inR .i64 ((lget h i822).At)) → ((inR .i64 ((lget h i822).Del)) → ((inR .i64 ((lget h i822).To)) → ((inR .i64 ((lget h i822).Add)) → ((((lget h i822).Lines).length ≤ 9223372036854775807) → ((inL h i822) ∧ ((inR .i64 ((lget h i822).At)) → ((inR .i64 ((lget h i822).Del)) → ((inR .i64 ((lget h i822).To)) → ((inR .i64 ((lget h i822).Add)) → ((((lget h i822).Lines).length ≤ 9223372036854775807) → ((inR .i64 (((lget h i822).At) + ((lget h i822).Del))) ∧ ((inR .i64 (i822 + (1 : Int))) ∧ ((I1619 out1940 (((lget h i822).At) + ((lget h i822).Del)) (i822 + (1 : Int))) ∧ m1620 out1940 (((lget h i822).At) + ((lget h i822).Del)) (i822 + (1 : Int)) < m1620 out815 end_820 i822)))))))))))))))))))))))))))))))))))))))))))))) ∧ ((¬ (i822 < (h.length : Int))) → ((0 ≤ end_820 ∧ end_820 ≤ (a.length : Int)) ∧ (((out815.length + (a.drop end_820.toNat).length) * 16 ≤ 140737488355328) ∧ Q (out815 ++ (a.drop end_820.toNat)) (S_rectoref3_Wrong.mk ([] : List S_rectoref3_Part) (0 : Int))))))))))
set_option maxRecDepth 20000 in
set_option maxHeartbeats 4000000 in
theorem rectoref11_Apply_w {X : List Nat} {w : World} {a : (List ByteArray)} {h : (List S_rectoref11_Hunk)} {aa1 : Option Addr} {ca2 : Nat} {ah4 : Option Addr} {ch5 : Nat} {Q : (List ByteArray) → S_rectoref3_Wrong → Prop} (hX0 : Old X w) (ha3 : Sl rStr X w aa1 ca2 a) (hh6 : Sl r_rectoref11_Hunk X w ah4 ch5 h) (hp : rectoref11_Apply_p a h Q) :
    Calls Tryd.prog 24 #[(.slice aa1 a.length ca2), (.slice ah4 h.length ch5)] w (Ret fun v w' => ∃ (r0 : (List ByteArray)) (r1 : S_rectoref3_Wrong), Q r0 r1 ∧ Evo [] w w' ∧ ∃ (aq01 : Option Addr) (cq02 : Nat) (aq1Parts4 : Option Addr) (cq1Parts5 : Nat), v = .tuple #[(.slice aq01 r0.length cq02), (.agg #[(.slice aq1Parts4 r1.Parts.length cq1Parts5), (.int .i64 r1.Err)])] ∧ Sl rStr X w' aq01 cq02 r0 ∧ Sl r_rectoref3_Part X w' aq1Parts4 cq1Parts5 r1.Parts ∧ inR .i64 r1.Err) := by
  have hXo := hX0
  have E0 : Evo [] w w := RB.refl _ _ _
  have hS : Sub X X := Sub.refl _
  unfold rectoref11_Apply_p at hp
  refine enter_ Tryd.func24 rfl 92 [(0, (.slice aa1 a.length ca2)), (1, (.slice ah4 h.length ch5))] (by kernel_rfl) (fun Qe hQ => ?_)
  replace hp := hp (Sl.len ha3)
  replace hp := hp (Sl.len hh6)
  refine seq_ (fun _ K7 => ?_)
  refine reg_ ?_
  refine sq (o_pv (.slice none 0 0) rfl (by kernel_rfl) ?_)
  refine sq (o_newX [(.slice none 0 0), (.int .i64 (0 : Int))] 28 (X := X) (B := w.heap.size) E0.size rfl (by kernel_rfl) ?_)
  intro b8 w9 X10 s11 k12 n13
  refine nil_ ?_
  refine then_normal (K7 _ _ _ _ ?_)
  refine seq_ (fun _ K14 => ?_)
  refine reg_ ?_
  refine sq (o_pv (.slice none 0 0) rfl (by kernel_rfl) ?_)
  refine nil_ ?_
  refine then_normal (K14 _ _ _ _ ?_)
  refine seq_ (fun _ K15 => ?_)
  refine reg_ ?_
  refine sq (o_pv (.int .i64 (0 : Int)) rfl (by kernel_rfl) ?_)
  refine nil_ ?_
  refine then_normal (K15 _ _ _ _ ?_)
  refine seq_ (fun _ K16 => ?_)
  refine seq_ (fun _ K17 => ?_)
  refine reg_ ?_
  refine sq (o_pv (.int .i64 (0 : Int)) rfl (by kernel_rfl) ?_)
  refine nil_ ?_
  refine then_normal (K17 _ _ _ _ ?_)
  refine wp_block ?_
  have ha1629 := (Sl.step ha3 s11)
  have hh1630 := (Sl.step hh6 s11)
  have hXo1631 := (Old.step hXo s11)
  have E1632 := (Evo.then0 E0 (Step.evo s11))
  have hS1633 := (Sub.trans hS (Step.up s11))
  obtain ⟨I1619, m1620, hI1621, hp⟩ := hp
  refine loop_ 77371252455336267181195216 (fun kq lq w1623 => ∃ (X1624 : List Nat) (out815 : (List ByteArray)) (end_820 : Int) (i822 : Int) (a816 : Option Addr) (n817 : Nat) (c818 : Nat), (lq = [(6, (.slice a816 n817 c818)), (7, (.int .i64 end_820)), (8, (.int .i64 i822))]) ∧ (kq = m1620 out815 end_820 i822) ∧ (Evo [] w w1623) ∧ (Old X1624 w1623) ∧ (Sub X X1624) ∧ (Sl rStr X1624 w1623 aa1 ca2 a) ∧ (Sl r_rectoref11_Hunk X1624 w1623 ah4 ch5 h) ∧ (OB ([]) w.heap.size X1624 w1623 b8 [(.slice none 0 0), (.int .i64 (0 : Int))] 28) ∧ (OS rStr ([]) w.heap.size X1624 w1623 9 a816 n817 c818 out815) ∧ (Ap ([b8]) (blkL a816)) ∧ (inR .i64 end_820) ∧ (inR .i64 i822) ∧ (I1619 out815 end_820 i822)) (m1620 ([] : List ByteArray) (0 : Int) (0 : Int)) [(6, (.slice none 0 0)), (7, (.int .i64 (0 : Int))), (8, (.int .i64 (0 : Int)))] (vs_cons (by kernel_rfl) (vs_cons (by kernel_rfl) (vs_cons (by kernel_rfl) vs_nil))) ⟨X10, ([] : List ByteArray), (0 : Int), (0 : Int), none, 0, 0, rfl, rfl, E1632, hXo1631, hS1633, ha1629, hh1630, k12, (OS.nil _ _ _ _), (Ap.nil_r _), (by decide : inR .i64 (0 : Int)), (by decide : inR .i64 (0 : Int)), hI1621⟩ ?_
  rintro _ _ w1623 g1626 ⟨X1624, out815, end_820, i822, a816, n817, c818, rfl, rfl, E1634, hXo1635, hS1636, ha1637, hh1638, k1639, O819, p1640, rend_821, ri823, hI1622⟩ Kl1627 hA1628
  replace hp := hp out815 end_820 i822 hI1622 (OS.len O819) rend_821 ri823
  refine seq_ (fun _ K1641 => ?_)
  refine seq_ (fun _ K1642 => ?_)
  refine reg_ ?_
  refine sq (o_pv (.int .i64 i822) rfl (by kernel_rfl) ?_)
  refine sq (o_pv (.slice ah4 h.length ch5) rfl (by kernel_rfl) ?_)
  refine sq (o_pv (.int .i64 (h.length : Int)) rfl (by kernel_rfl) ?_)
  refine sq (o_pv (.bool (decide (i822 < (h.length : Int)))) rfl (by kernel_rfl) ?_)
  refine nil_ ?_
  refine then_normal (K1642 _ _ _ _ ?_)
  refine cond_d (i822 < (h.length : Int)) (by kernel_rfl) (fun h1643 => ?_) (fun h1643 => ?_)
  ·
    replace hp := hp.1 h1643
    refine wp_skip ?_
    refine then_normal (K1641 _ _ _ _ ?_)
    refine seq_ (fun _ K1644 => ?_)
    refine wp_block ?_
    refine seq_ (fun _ K1645 => ?_)
    refine reg_ ?_
    refine sq (o_pv (.slice aa1 a.length ca2) rfl (by kernel_rfl) ?_)
    refine sq (o_pv (.slice ah4 h.length ch5) rfl (by kernel_rfl) ?_)
    refine sq (o_pv (.int .i64 i822) rfl (by kernel_rfl) ?_)
    obtain ⟨h1646, hp⟩ := hp
    obtain ⟨b1647, o1648, cs1649, ha1650, nx1651, lt1652, ok1653, hc1654⟩ := Sl.atI hh1638 i822 h1646
    obtain ⟨aeLines1659, ceLines1660, rfl, reAt1655, reDel1656, reTo1657, reAdd1658, heLines1661⟩ := r_rectoref11_Hunk_open ok1653
    replace hp := hp reAt1655
    replace hp := hp reDel1656
    replace hp := hp reTo1657
    replace hp := hp reAdd1658
    replace hp := hp (Sl.len heLines1661)
    refine sq (o_pv (.pointer (some ⟨b1647, o1648 + i822.toNat * 5, none⟩)) rfl (x_ixA (m := h.length) (c := ch5) (k := .i64) (i := i822) Tryd.underlying35 Tryd.sizeOf111 (by rw [← ha1650]; kernel_rfl) (by kernel_rfl) h1646) ?_)
    refine sq (o_pv (.agg #[(.int .i64 ((lget h i822).At)), (.int .i64 ((lget h i822).Del)), (.int .i64 ((lget h i822).To)), (.int .i64 ((lget h i822).Add)), (.slice aeLines1659 (((lget h i822).Lines).length) ceLines1660)]) rfl (x_loadN [(.int .i64 ((lget h i822).At)), (.int .i64 ((lget h i822).Del)), (.int .i64 ((lget h i822).To)), (.int .i64 ((lget h i822).Add)), (.slice aeLines1659 (((lget h i822).Lines).length) ceLines1660)] (by kernel_rfl) Tryd.isAgg111 Tryd.sizeOf111 hc1654) ?_)
    refine sq (o_pv (.int .i64 end_820) rfl (by kernel_rfl) ?_)
    refine sq (o_pv (.slice a816 n817 c818) rfl (by kernel_rfl) ?_)
    refine sq (o_pv (.int .i64 (out815.length : Int)) rfl (by rw [← show n817 = out815.length from O819.1]; kernel_rfl) ?_)
    refine sq (o_pv (.int .i64 end_820) rfl (by kernel_rfl) ?_)
    obtain ⟨h1662, hp⟩ := hp
    refine sq (o_pv (.int .i64 ((out815.length : Int) - end_820)) rfl (x_sub2 (k := .i64) (a := (out815.length : Int)) (b := end_820) ((out815.length : Int) - end_820) (by kernel_rfl) (by kernel_rfl) (wrap_inR h1662)) ?_)
    refine sq (o_call 66 #[(.slice aa1 a.length ca2), (.agg #[(.int .i64 ((lget h i822).At)), (.int .i64 ((lget h i822).Del)), (.int .i64 ((lget h i822).To)), (.int .i64 ((lget h i822).Add)), (.slice aeLines1659 ((lget h i822).Lines).length ceLines1660)]), (.int .i64 end_820), (.int .i64 ((out815.length : Int) - end_820))] rfl (x_call Tryd.call66 (by rw []; kernel_rfl)) (rectoref11_hunk_w (X := []) (a := a) (h := (lget h i822)) (end_ := end_820) (shift := (out815.length : Int) - end_820) (Old.nil _) (Sl.less ha1637 (Sub.nil _)) reAt1655 reDel1656 reTo1657 reAdd1658 (Sl.less heLines1661 (Sub.nil _)) rend_821 h1662 hp) ?_)
    rintro _ w1664 ⟨r1663, hp, e1665, rfl, rr1667⟩
    have s1666 := Step.of0 X1624 e1665
    replace hp := hp rr1667
    refine sq (o_pv (.int .i64 r1663) rfl (by kernel_rfl) ?_)
    refine nil_ ?_
    refine then_normal (K1645 _ _ _ _ ?_)
    refine seq_ (fun _ K1668 => ?_)
    refine seq_ (fun _ K1669 => ?_)
    refine reg_ ?_
    refine sq (o_pv (.int .i64 r1663) rfl (by kernel_rfl) ?_)
    refine sq (o_pv (.bool (!decide (r1663 = (0 : Int)))) rfl (by kernel_rfl) ?_)
    refine nil_ ?_
    refine then_normal (K1669 _ _ _ _ ?_)
    refine cond_nd (r1663 = (0 : Int)) (by kernel_rfl) (fun h1670 => ?_) (fun h1670 => ?_)
    ·
      replace hp := hp.1 h1670
      refine seq_ (fun _ K1671 => ?_)
      refine reg_ ?_
      refine sq (o_pv (.int .i64 i822) rfl (by kernel_rfl) ?_)
      refine sq (o_pv (.int .i64 r1663) rfl (by kernel_rfl) ?_)
      have hXo1672 := (Old.step hXo1635 s1666)
      refine sq (o_call 49 #[(.string (ByteArray.mk #[104, 117, 110, 107])), (.int .i64 i822), (.int .i64 r1663)] rfl (x_call Tryd.call49 (by kernel_rfl)) (rectoref3_At_w (X := X1624) (word := (ByteArray.mk #[104, 117, 110, 107])) (at_ := i822) (e := r1663) hXo1672 (by decide : (ByteArray.mk #[104, 117, 110, 107]).size ≤ maxLen) ri823 rr1667 hp) ?_)
      rintro _ w1674 ⟨r1673, hp, e1675, arParts1677, crParts1678, rfl, hrParts1679, rrErr1680⟩
      have s1676 := Step.of0 X1624 e1675
      replace hp := hp (Sl.len hrParts1679)
      replace hp := hp rrErr1680
      refine sq (o_pv (.slice none 0 0) rfl (by kernel_rfl) ?_)
      have k1681 := (OB.step0 (OB.step0 k1639 s1666) s1676)
      have O1682 := (OS.step0 (OS.step0 O819 s1666) s1676)
      have E1683 := (Evo.then0 (Evo.then0 E1634 e1665) e1675)
      refine sq (o_stB (o := 0) (v := (.agg #[(.slice arParts1677 r1673.Parts.length crParts1678), (.int .i64 r1673.Err)])) [(.slice arParts1677 r1673.Parts.length crParts1678), (.int .i64 r1673.Err)] rfl k1681 (by kernel_rfl) (by kernel_rfl) Tryd.sizeOf28 rfl rfl rfl ?_)
      intro w1684 s1685 k1686
      refine nil_ ?_
      refine then_normal (K1671 _ _ _ _ ?_)
      refine wp_ret ?_
      refine then_ret ?_
      refine blk_ret ?_
      refine then_ret ?_
      refine then_ret ?_
      refine blk_ret ?_
      refine then_ret ?_
      have hrParts1687 := (Sl.step hrParts1679 s1685)
      have hS1688 := (Sub.trans (Sub.trans (Sub.trans hS1636 (Step.up s1666)) (Step.up s1676)) (Step.up s1685))
      have E1689 := (Evo.thenW E1683 (Step.evo s1685) k1681.2.2)
      refine end_ret hQ (.tuple #[(.slice none 0 0), (.agg #[(.slice arParts1677 r1673.Parts.length crParts1678), (.int .i64 r1673.Err)])]) (rs2 Tryd.results24 (rs_tmp (by kernel_rfl)) (rs_agg [(.slice arParts1677 r1673.Parts.length crParts1678), (.int .i64 r1673.Err)] (by kernel_rfl) Tryd.isAgg28 Tryd.sizeOf28 (k1686.2.1.cells' 0 rfl))) ?_
      exact ⟨([] : List ByteArray), r1673, hp, E1689, none, 0, arParts1677, crParts1678, rfl, Sl.nil, (Sl.less hrParts1687 hS1688), rrErr1680⟩
    ·
      replace hp := hp.2 h1670
      refine wp_skip ?_
      refine then_normal (K1668 _ _ _ _ ?_)
      refine seq_ (fun _ K1690 => ?_)
      refine reg_ ?_
      refine sq (o_pv (.slice a816 n817 c818) rfl (by kernel_rfl) ?_)
      refine sq (o_pv (.slice aa1 a.length ca2) rfl (by kernel_rfl) ?_)
      refine sq (o_pv (.int .i64 end_820) rfl (by kernel_rfl) ?_)
      refine sq (o_pv (.slice ah4 h.length ch5) rfl (by kernel_rfl) ?_)
      refine sq (o_pv (.int .i64 i822) rfl (by kernel_rfl) ?_)
      obtain ⟨h1691, hp⟩ := hp
      have hh1692 := (Sl.step hh1638 s1666)
      obtain ⟨b1693, o1694, cs1695, ha1696, nx1697, lt1698, ok1699, hc1700⟩ := Sl.atI hh1692 i822 h1691
      obtain ⟨aeLines1705, ceLines1706, rfl, reAt1701, reDel1702, reTo1703, reAdd1704, heLines1707⟩ := r_rectoref11_Hunk_open ok1699
      replace hp := hp reAt1701
      replace hp := hp reDel1702
      replace hp := hp reTo1703
      replace hp := hp reAdd1704
      replace hp := hp (Sl.len heLines1707)
      refine sq (o_pv (.pointer (some ⟨b1693, o1694 + i822.toNat * 5, none⟩)) rfl (x_ixA (m := h.length) (c := ch5) (k := .i64) (i := i822) Tryd.underlying35 Tryd.sizeOf111 (by rw [← ha1696]; kernel_rfl) (by kernel_rfl) h1691) ?_)
      refine sq (o_pv (.pointer (some ⟨b1693, o1694 + i822.toNat * 5, none⟩)) rfl (by kernel_rfl) ?_)
      refine sq (o_pv (.int .i64 ((lget h i822).At)) rfl (x_load1 (by kernel_rfl) Tryd.isAgg3 (hc1700 0 _ rfl)) ?_)
      have ha1708 := (Sl.step ha1637 s1666)
      obtain ⟨h1712, hp⟩ := hp
      refine sq (o_slice (R := rStr) (X := X1624) (L := a) end_820.toNat (((lget h i822).At).toNat) ((a.take ((lget h i822).At).toNat).drop end_820.toNat) rfl Tryd.underlying22 Tryd.sizeOf9 ha1708 (by kernel_rfl) rfl (.inr ⟨.i64, by rw [show ((end_820.toNat : Nat) : Int) = end_820 from by omega]; kernel_rfl⟩) (.inr ⟨.i64, by rw [show ((((lget h i822).At).toNat : Nat) : Int) = (lget h i822).At from by omega]; kernel_rfl⟩) (by omega) (by omega) rfl ?_)
      intro a1709 c1710 h1711
      obtain ⟨h1713, hp⟩ := hp
      have O1714 := (OS.step0 O819 s1666)
      have k1715 := (OB.step0 k1639 s1666)
      have E1716 := (Evo.then0 E1634 e1665)
      refine sq (o_appX (R := rStr) (X := X1624) (B := w.heap.size) (L := out815) (M := (a.take ((lget h i822).At).toNat).drop end_820.toNat) rfl elT22 rfl E1716.size O1714 (Sl.src h1711) rfl (by kernel_rfl) (by kernel_rfl) h1713 ?_)
      intro a1717 n1718 c1719 w1720 X1721 s1722 O1723 gr1724
      have p1725 := gr1724 _ p1640 (OB.old k1715)
      refine sq (o_pv (.slice a1717 n1718 c1719) rfl (by kernel_rfl) ?_)
      refine nil_ ?_
      refine then_normal (K1690 _ _ _ _ ?_)
      refine seq_ (fun _ K1726 => ?_)
      refine seq_ (fun _ K1727 => ?_)
      refine reg_ ?_
      refine sq (o_pv (.int .i64 (0 : Int)) rfl (by kernel_rfl) ?_)
      refine nil_ ?_
      refine then_normal (K1727 _ _ _ _ ?_)
      refine wp_block ?_
      have E2165 := (Evo.thenW E1716 (Step.evo s1722) O1714.2.2)
      have hXo2166 := (Old.step (Old.step hXo1635 s1666) s1722)
      have hS2167 := (Sub.trans (Sub.trans hS1636 (Step.up s1666)) (Step.up s1722))
      have ha2168 := (Sl.step ha1708 s1722)
      have hh2169 := (Sl.step hh1692 s1722)
      have k2170 := (OB.step k1715 s1722 p1640)
      have heLines2171 := (Sl.step (Sl.step heLines1661 s1666) s1722)
      have heLines2172 := (Sl.step heLines1707 s1722)
      have h2173 := (Sl.step h1711 s1722)
      obtain ⟨I2155, m2156, hI2157, hp⟩ := hp
      refine loop_ 37778931854161068688448 (fun kq lq w2159 => ∃ (X2160 : List Nat) (out1940 : (List ByteArray)) (k1945 : Int) (a1941 : Option Addr) (n1942 : Nat) (c1943 : Nat), (lq = [(6, (.slice a1941 n1942 c1943)), (10, (.int .i64 k1945))]) ∧ (kq = m2156 out1940 k1945) ∧ (Evo [] w w2159) ∧ (Old X2160 w2159) ∧ (Sub X X2160) ∧ (Sl rStr X2160 w2159 aa1 ca2 a) ∧ (Sl r_rectoref11_Hunk X2160 w2159 ah4 ch5 h) ∧ (OB ([]) w.heap.size X2160 w2159 b8 [(.slice none 0 0), (.int .i64 (0 : Int))] 28) ∧ (OS rStr ([]) w.heap.size X2160 w2159 9 a1941 n1942 c1943 out1940) ∧ (Ap ([b8]) (blkL a1941)) ∧ (inR .i64 k1945) ∧ (I2155 out1940 k1945)) (m2156 (out815 ++ ((a.take ((lget h i822).At).toNat).drop end_820.toNat)) (0 : Int)) [(6, (.slice a1717 n1718 c1719)), (10, (.int .i64 (0 : Int)))] (vs_cons (by kernel_rfl) (vs_cons (by kernel_rfl) vs_nil)) ⟨X1721, (out815 ++ ((a.take ((lget h i822).At).toNat).drop end_820.toNat)), (0 : Int), a1717, n1718, c1719, rfl, rfl, E2165, hXo2166, hS2167, ha2168, hh2169, k2170, O1723, p1725, (by decide : inR .i64 (0 : Int)), hI2157⟩ ?_
      rintro _ _ w2159 g2162 ⟨X2160, out1940, k1945, a1941, n1942, c1943, rfl, rfl, E2174, hXo2175, hS2176, ha2177, hh2178, k2179, O1944, p2180, rk1946, hI2158⟩ Kl2163 hA2164
      replace hp := hp out1940 k1945 hI2158 (OS.len O1944) rk1946
      refine seq_ (fun _ K2181 => ?_)
      refine seq_ (fun _ K2182 => ?_)
      refine reg_ ?_
      refine sq (o_pv (.int .i64 k1945) rfl (by kernel_rfl) ?_)
      refine sq (o_pv (.slice ah4 h.length ch5) rfl (by kernel_rfl) ?_)
      refine sq (o_pv (.int .i64 i822) rfl (by kernel_rfl) ?_)
      obtain ⟨h2183, hp⟩ := hp
      obtain ⟨b2184, o2185, cs2186, ha2187, nx2188, lt2189, ok2190, hc2191⟩ := Sl.atI hh2178 i822 h2183
      obtain ⟨aeLines2196, ceLines2197, rfl, reAt2192, reDel2193, reTo2194, reAdd2195, heLines2198⟩ := r_rectoref11_Hunk_open ok2190
      replace hp := hp reAt2192
      replace hp := hp reDel2193
      replace hp := hp reTo2194
      replace hp := hp reAdd2195
      replace hp := hp (Sl.len heLines2198)
      refine sq (o_pv (.pointer (some ⟨b2184, o2185 + i822.toNat * 5, none⟩)) rfl (x_ixA (m := h.length) (c := ch5) (k := .i64) (i := i822) Tryd.underlying35 Tryd.sizeOf111 (by rw [← ha2187]; kernel_rfl) (by kernel_rfl) h2183) ?_)
      refine sq (o_pv (.pointer (some ⟨b2184, o2185 + i822.toNat * 5 + 4, none⟩)) rfl (by kernel_rfl) ?_)
      refine sq (o_pv (.slice aeLines2196 (((lget h i822).Lines).length) ceLines2197) rfl (x_load1 (by kernel_rfl) Tryd.isAgg25 (hc2191 4 _ rfl)) ?_)
      refine sq (o_pv (.int .i64 (((lget h i822).Lines).length : Int)) rfl (by kernel_rfl) ?_)
      refine sq (o_pv (.bool (decide (k1945 < (((lget h i822).Lines).length : Int)))) rfl (by kernel_rfl) ?_)
      refine nil_ ?_
      refine then_normal (K2182 _ _ _ _ ?_)
      refine cond_d (k1945 < (((lget h i822).Lines).length : Int)) (by kernel_rfl) (fun h2199 => ?_) (fun h2199 => ?_)
      ·
        replace hp := hp.1 h2199
        refine wp_skip ?_
        refine then_normal (K2181 _ _ _ _ ?_)
        refine seq_ (fun _ K2200 => ?_)
        obtain ⟨k2283, hk2284, hp⟩ := hp
        refine ground_ ?_
        refine join_ 37778922855757906968640 (fun lq w2285 => ∃ (X2286 : List Nat) (out2278 : (List ByteArray)) (a2279 : Option Addr) (n2280 : Nat) (c2281 : Nat), (lq = [(6, (.slice a2279 n2280 c2281))]) ∧ (Evo [] w w2285) ∧ (Old X2286 w2285) ∧ (Sub X X2286) ∧ (Sl rStr X2286 w2285 aa1 ca2 a) ∧ (Sl r_rectoref11_Hunk X2286 w2285 ah4 ch5 h) ∧ (OB ([]) w.heap.size X2286 w2285 b8 [(.slice none 0 0), (.int .i64 (0 : Int))] 28) ∧ (OS rStr ([]) w.heap.size X2286 w2285 9 a2279 n2280 c2281 out2278) ∧ (Ap ([b8]) (blkL a2279)) ∧ (k2283 out2278)) (fun Kj2287 hJ2288 => ?_) ?_
        ·
          refine wp_block ?_
          refine seq_ (fun _ K2297 => ?_)
          refine reg_ ?_
          refine sq (o_pv (.slice ah4 h.length ch5) rfl (by kernel_rfl) ?_)
          refine sq (o_pv (.int .i64 i822) rfl (by kernel_rfl) ?_)
          obtain ⟨h2298, hp⟩ := hp
          obtain ⟨b2299, o2300, cs2301, ha2302, nx2303, lt2304, ok2305, hc2306⟩ := Sl.atI hh2178 i822 h2298
          obtain ⟨aeLines2311, ceLines2312, rfl, reAt2307, reDel2308, reTo2309, reAdd2310, heLines2313⟩ := r_rectoref11_Hunk_open ok2305
          replace hp := hp reAt2307
          replace hp := hp reDel2308
          replace hp := hp reTo2309
          replace hp := hp reAdd2310
          replace hp := hp (Sl.len heLines2313)
          refine sq (o_pv (.pointer (some ⟨b2299, o2300 + i822.toNat * 5, none⟩)) rfl (x_ixA (m := h.length) (c := ch5) (k := .i64) (i := i822) Tryd.underlying35 Tryd.sizeOf111 (by rw [← ha2302]; kernel_rfl) (by kernel_rfl) h2298) ?_)
          refine sq (o_pv (.pointer (some ⟨b2299, o2300 + i822.toNat * 5 + 4, none⟩)) rfl (by kernel_rfl) ?_)
          refine sq (o_pv (.slice aeLines2311 (((lget h i822).Lines).length) ceLines2312) rfl (x_load1 (by kernel_rfl) Tryd.isAgg25 (hc2306 4 _ rfl)) ?_)
          refine sq (o_pv (.int .i64 k1945) rfl (by kernel_rfl) ?_)
          obtain ⟨h2314, hp⟩ := hp
          obtain ⟨b2315, o2316, cs2317, ha2318, nx2319, lt2320, ok2321, hc2322⟩ := Sl.atI heLines2313 k1945 h2314
          obtain ⟨rfl, reOp2323, zeLine2324⟩ := r_rectoref11_Edit_open ok2321
          replace hp := hp reOp2323
          replace hp := hp zeLine2324
          refine sq (o_pv (.pointer (some ⟨b2315, o2316 + k1945.toNat * 2, none⟩)) rfl (x_ixA (m := ((lget h i822).Lines).length) (c := ceLines2312) (k := .i64) (i := k1945) Tryd.underlying25 Tryd.sizeOf105 (by rw [← ha2318]; kernel_rfl) (by kernel_rfl) h2314) ?_)
          refine sq (o_pv (.pointer (some ⟨b2315, o2316 + k1945.toNat * 2, none⟩)) rfl (by kernel_rfl) ?_)
          refine sq (o_pv (.int .i64 ((lget ((lget h i822).Lines) k1945).Op)) rfl (x_load1 (by kernel_rfl) Tryd.isAgg3 (hc2322 0 _ rfl)) ?_)
          refine sq (o_pv (.bool (!decide (((lget ((lget h i822).Lines) k1945).Op) = (2 : Int)))) rfl (by kernel_rfl) ?_)
          refine nil_ ?_
          refine then_normal (K2297 _ _ _ _ ?_)
          refine cond_nd (((lget ((lget h i822).Lines) k1945).Op) = (2 : Int)) (by kernel_rfl) (fun h2325 => ?_) (fun h2325 => ?_)
          ·
            replace hp := hp.1 h2325
            refine reg_ ?_
            refine sq (o_pv (.slice a1941 n1942 c1943) rfl (by kernel_rfl) ?_)
            refine sq (o_pv (.slice ah4 h.length ch5) rfl (by kernel_rfl) ?_)
            refine sq (o_pv (.int .i64 i822) rfl (by kernel_rfl) ?_)
            obtain ⟨h2326, hp⟩ := hp
            obtain ⟨b2327, o2328, cs2329, ha2330, nx2331, lt2332, ok2333, hc2334⟩ := Sl.atI hh2178 i822 h2326
            obtain ⟨aeLines2339, ceLines2340, rfl, reAt2335, reDel2336, reTo2337, reAdd2338, heLines2341⟩ := r_rectoref11_Hunk_open ok2333
            replace hp := hp reAt2335
            replace hp := hp reDel2336
            replace hp := hp reTo2337
            replace hp := hp reAdd2338
            replace hp := hp (Sl.len heLines2341)
            refine sq (o_pv (.pointer (some ⟨b2327, o2328 + i822.toNat * 5, none⟩)) rfl (x_ixA (m := h.length) (c := ch5) (k := .i64) (i := i822) Tryd.underlying35 Tryd.sizeOf111 (by rw [← ha2330]; kernel_rfl) (by kernel_rfl) h2326) ?_)
            refine sq (o_pv (.pointer (some ⟨b2327, o2328 + i822.toNat * 5 + 4, none⟩)) rfl (by kernel_rfl) ?_)
            refine sq (o_pv (.slice aeLines2339 (((lget h i822).Lines).length) ceLines2340) rfl (x_load1 (by kernel_rfl) Tryd.isAgg25 (hc2334 4 _ rfl)) ?_)
            refine sq (o_pv (.int .i64 k1945) rfl (by kernel_rfl) ?_)
            obtain ⟨h2342, hp⟩ := hp
            obtain ⟨b2343, o2344, cs2345, ha2346, nx2347, lt2348, ok2349, hc2350⟩ := Sl.atI heLines2341 k1945 h2342
            obtain ⟨rfl, reOp2351, zeLine2352⟩ := r_rectoref11_Edit_open ok2349
            replace hp := hp reOp2351
            replace hp := hp zeLine2352
            refine sq (o_pv (.pointer (some ⟨b2343, o2344 + k1945.toNat * 2, none⟩)) rfl (x_ixA (m := ((lget h i822).Lines).length) (c := ceLines2340) (k := .i64) (i := k1945) Tryd.underlying25 Tryd.sizeOf105 (by rw [← ha2346]; kernel_rfl) (by kernel_rfl) h2342) ?_)
            refine sq (o_pv (.pointer (some ⟨b2343, o2344 + k1945.toNat * 2 + 1, none⟩)) rfl (by kernel_rfl) ?_)
            refine sq (o_pv (.string ((lget ((lget h i822).Lines) k1945).Line)) rfl (x_load1 (by kernel_rfl) Tryd.isAgg9 (hc2350 1 _ rfl)) ?_)
            refine sq (o_rowX (R := rStr) [(.string ((lget ((lget h i822).Lines) k1945).Line))] [(lget ((lget h i822).Lines) k1945).Line] 9 1 (X := X2160) (B := w.heap.size) E2174.size rfl (by kernel_rfl) (Flat.cons (cs := [(.string ((lget ((lget h i822).Lines) k1945).Line))]) (rStr_mk zeLine2352) Flat.nil) rfl (by decide) ?_)
            intro b2353 w2354 X2355 s2356 O2357 n2358
            have p2359 := n2358 _ (OB.old k2179)
            have p2360 := n2358 _ (OS.old O1944)
            obtain ⟨h2361, hp⟩ := hp
            have O2362 := (OS.step0 O1944 s2356)
            have k2363 := (OB.step0 k2179 s2356)
            have E2364 := (Evo.then0 E2174 (Step.evo s2356))
            refine sq (o_appX (R := rStr) (X := X2355) (B := w.heap.size) (L := out1940) (M := [(lget ((lget h i822).Lines) k1945).Line]) rfl elT22 rfl E2364.size O2362 (OS.src O2357) O2357.1 (by kernel_rfl) (by kernel_rfl) h2361 ?_)
            intro a2365 n2366 c2367 w2368 X2369 s2370 O2371 gr2372
            have p2373 := gr2372 _ p2180 (OB.old k2363)
            refine sq (o_pv (.slice a2365 n2366 c2367) rfl (by kernel_rfl) ?_)
            refine nil_ ?_
            refine blk_normal ?_
            have E2374 := (Evo.thenW E2364 (Step.evo s2370) O2362.2.2)
            have hXo2375 := (Old.step (Old.step hXo2175 s2356) s2370)
            have hS2376 := (Sub.trans (Sub.trans hS2176 (Step.up s2356)) (Step.up s2370))
            have ha2377 := (Sl.step (Sl.step ha2177 s2356) s2370)
            have hh2378 := (Sl.step (Sl.step hh2178 s2356) s2370)
            have k2379 := (OB.step k2363 s2370 p2180)
            refine then_normal (hJ2288 _ _ _ ⟨[(6, (.slice a2365 n2366 c2367))], fit_mk (fun _ _ => rfl) (by kernel_rfl) (vs_cons (by kernel_rfl) vs_nil), ?_⟩)
            exact ⟨X2369, (out1940 ++ ([(lget ((lget h i822).Lines) k1945).Line])), a2365, n2366, c2367, rfl, E2374, hXo2375, hS2376, ha2377, hh2378, k2379, O2371, p2373, hp⟩
          ·
            replace hp := hp.2 h2325
            refine wp_skip ?_
            refine blk_normal ?_
            refine then_normal (hJ2288 _ _ _ ⟨[(6, (.slice a1941 n1942 c1943))], fit_mk (fun _ _ => rfl) (by kernel_rfl) (vs_cons (by kernel_rfl) vs_nil), ?_⟩)
            exact ⟨X2160, out1940, a1941, n1942, c1943, rfl, E2174, hXo2175, hS2176, ha2177, hh2178, k2179, O1944, p2180, hp⟩
        ·
          rintro _ w2285 g2380 ⟨X2286, out2278, a2279, n2280, c2281, rfl, E2290, hXo2291, hS2292, ha2293, hh2294, k2295, O2282, p2296, hv2289⟩
          replace hp := hk2284 out2278 hv2289 (OS.len O2282)
          refine then_normal (K2200 _ _ _ _ ?_)
          refine reg_ ?_
          refine sq (o_pv (.int .i64 k1945) rfl (by kernel_rfl) ?_)
          obtain ⟨h2381, hp⟩ := hp
          refine sq (o_pv (.int .i64 (k1945 + (1 : Int))) rfl (x_add2 (k := .i64) (a := k1945) (b := (1 : Int)) (k1945 + (1 : Int)) (by kernel_rfl) (by kernel_rfl) (wrap_inR h2381)) ?_)
          refine sq (o_pv (.int .i64 (k1945 + (1 : Int))) rfl (by kernel_rfl) ?_)
          refine nil_ ?_
          refine then_normal (hA2164 _ _ _ ⟨_, [(6, (.slice a2279 n2280 c2281)), (10, (.int .i64 (k1945 + (1 : Int))))], hp.2, fit_mk (AgB.nest (AgB.look (AgB.mix _ _ _) (by kernel_rfl)) (by kernel_rfl) (by kernel_rfl)) (by kernel_rfl) (vs_cons (by kernel_rfl) (vs_cons (by kernel_rfl) vs_nil)), ?_⟩)
          exact ⟨X2286, out2278, (k1945 + (1 : Int)), a2279, n2280, c2281, rfl, rfl, E2290, hXo2291, hS2292, ha2293, hh2294, k2295, O2282, p2296, h2381, hp.1⟩
      ·
        replace hp := hp.2 h2199
        refine wp_exit ?_
        refine then_exit ?_
        refine then_exit ?_
        refine blk_exit ?_
        refine then_normal (K1726 _ _ _ _ ?_)
        refine reg_drawn (RB w2159.heap.size []) 11 (by kernel_rfl) (fun w2382 hd2383 => ?_)
        have e2384 := Evo.of_drew hd2383
        have z2385 : w2382.heap.size = w2159.heap.size := by rw [hd2383]
        clear hd2383
        have s2387 := Step.of0 X2160 e2384
        have er2386 := RB.refl w2159.heap.size [] w2382
        have E2388 := (Evo.then0 E2174 (Step.evo s2387))
        have hXo2389 := (Old.step hXo2175 s2387)
        have hS2390 := (Sub.trans hS2176 (Step.up s2387))
        have ha2391 := (Sl.step ha2177 s2387)
        have hh2392 := (Sl.step hh2178 s2387)
        have k2393 := (OB.step0 k2179 s2387)
        have O2394 := (OS.step0 O1944 s2387)
        have heLines2395 := (Sl.step heLines2198 s2387)
        refine r_take 0 (.slice ah4 h.length ch5) (RB.pre _ _) rfl (by kernel_rfl) (fun _ _ _ h => hQ.panic _ _ _ _ _ h) (.inl ⟨rfl, fun wq hq => (by kernel_rfl)⟩) ?_
        refine r_take 1 (.int .i64 i822) (RB.pre _ _) rfl (by kernel_rfl) (fun _ _ _ h => hQ.panic _ _ _ _ _ h) (.inl ⟨rfl, fun wq hq => (by kernel_rfl)⟩) ?_
        obtain ⟨h2396, hp⟩ := hp
        obtain ⟨b2397, o2398, cs2399, ha2400, nx2401, lt2402, ok2403, hc2404⟩ := Sl.atI hh2392 i822 h2396
        obtain ⟨aeLines2409, ceLines2410, rfl, reAt2405, reDel2406, reTo2407, reAdd2408, heLines2411⟩ := r_rectoref11_Hunk_open ok2403
        replace hp := hp reAt2405
        replace hp := hp reDel2406
        replace hp := hp reTo2407
        replace hp := hp reAdd2408
        replace hp := hp (Sl.len heLines2411)
        refine r_take 2 (.pointer (some ⟨b2397, o2398 + i822.toNat * 5, none⟩)) (RB.pre _ _) rfl (by kernel_rfl) (fun _ _ _ h => hQ.panic _ _ _ _ _ h) (.inl ⟨rfl, fun wq hq => (x_ixA (m := h.length) (c := ch5) (k := .i64) (i := i822) Tryd.underlying35 Tryd.sizeOf111 (by rw [← ha2400]; kernel_rfl) (by kernel_rfl) h2396)⟩) ?_
        refine r_take 3 (.pointer (some ⟨b2397, o2398 + i822.toNat * 5, none⟩)) (RB.pre _ _) rfl (by kernel_rfl) (fun _ _ _ h => hQ.panic _ _ _ _ _ h) (.inl ⟨rfl, fun wq hq => (by kernel_rfl)⟩) ?_
        refine r_take 4 (.int .i64 ((lget h i822).At)) (RB.pre _ _) rfl (by kernel_rfl) (fun _ _ _ h => hQ.panic _ _ _ _ _ h) (.inl ⟨rfl, fun wq hq => (x_load1 (by kernel_rfl) Tryd.isAgg3 ((CellsAt.rb hc2404 (RB.trans er2386 hq) (Nat.lt_of_lt_of_eq lt2402 z2385) (fun h => by cases h)) 0 _ rfl))⟩) ?_
        refine r_take 5 (.slice ah4 h.length ch5) (RB.pre _ _) rfl (by kernel_rfl) (fun _ _ _ h => hQ.panic _ _ _ _ _ h) (.inl ⟨rfl, fun wq hq => (by kernel_rfl)⟩) ?_
        refine r_take 6 (.int .i64 i822) (RB.pre _ _) rfl (by kernel_rfl) (fun _ _ _ h => hQ.panic _ _ _ _ _ h) (.inl ⟨rfl, fun wq hq => (by kernel_rfl)⟩) ?_
        obtain ⟨h2412, hp⟩ := hp
        obtain ⟨b2413, o2414, cs2415, ha2416, nx2417, lt2418, ok2419, hc2420⟩ := Sl.atI hh2392 i822 h2412
        obtain ⟨aeLines2425, ceLines2426, rfl, reAt2421, reDel2422, reTo2423, reAdd2424, heLines2427⟩ := r_rectoref11_Hunk_open ok2419
        replace hp := hp reAt2421
        replace hp := hp reDel2422
        replace hp := hp reTo2423
        replace hp := hp reAdd2424
        replace hp := hp (Sl.len heLines2427)
        refine r_take 7 (.pointer (some ⟨b2413, o2414 + i822.toNat * 5, none⟩)) (RB.pre _ _) rfl (by kernel_rfl) (fun _ _ _ h => hQ.panic _ _ _ _ _ h) (.inl ⟨rfl, fun wq hq => (x_ixA (m := h.length) (c := ch5) (k := .i64) (i := i822) Tryd.underlying35 Tryd.sizeOf111 (by rw [← ha2416]; kernel_rfl) (by kernel_rfl) h2412)⟩) ?_
        refine r_take 8 (.pointer (some ⟨b2413, o2414 + i822.toNat * 5 + 1, none⟩)) (RB.pre _ _) rfl (by kernel_rfl) (fun _ _ _ h => hQ.panic _ _ _ _ _ h) (.inl ⟨rfl, fun wq hq => (by kernel_rfl)⟩) ?_
        refine r_take 9 (.int .i64 ((lget h i822).Del)) (RB.pre _ _) rfl (by kernel_rfl) (fun _ _ _ h => hQ.panic _ _ _ _ _ h) (.inl ⟨rfl, fun wq hq => (x_load1 (by kernel_rfl) Tryd.isAgg3 ((CellsAt.rb hc2420 (RB.trans er2386 hq) (Nat.lt_of_lt_of_eq lt2418 z2385) (fun h => by cases h)) 1 _ rfl))⟩) ?_
        obtain ⟨h2428, hp⟩ := hp
        refine r_take 10 (.int .i64 (((lget h i822).At) + ((lget h i822).Del))) (RB.pre _ _) rfl (by kernel_rfl) (fun _ _ _ h => hQ.panic _ _ _ _ _ h) (.inl ⟨rfl, fun wq hq => (x_add2 (k := .i64) (a := (lget h i822).At) (b := (lget h i822).Del) (((lget h i822).At) + ((lget h i822).Del)) (by kernel_rfl) (by kernel_rfl) (wrap_inR h2428))⟩) ?_
        refine r_ready [11] (by kernel_rfl) rfl (all_cons ⟨_, _, _, _, _, _, rfl, ?_⟩ all_nil)
        refine o_pv (.int .i64 (((lget h i822).At) + ((lget h i822).Del))) rfl (by kernel_rfl) ?_
        refine ⟨fun h => absurd h (by decide), ?_⟩
        refine r_done (by kernel_rfl) ?_
        refine blk_normal ?_
        refine then_normal (K1644 _ _ _ _ ?_)
        refine reg_ ?_
        refine sq (o_pv (.int .i64 i822) rfl (by kernel_rfl) ?_)
        obtain ⟨h2429, hp⟩ := hp
        refine sq (o_pv (.int .i64 (i822 + (1 : Int))) rfl (x_add2 (k := .i64) (a := i822) (b := (1 : Int)) (i822 + (1 : Int)) (by kernel_rfl) (by kernel_rfl) (wrap_inR h2429)) ?_)
        refine sq (o_pv (.int .i64 (i822 + (1 : Int))) rfl (by kernel_rfl) ?_)
        refine nil_ ?_
        refine then_normal (hA1628 _ _ _ ⟨_, [(6, (.slice a1941 n1942 c1943)), (7, (.int .i64 (((lget h i822).At) + ((lget h i822).Del)))), (8, (.int .i64 (i822 + (1 : Int))))], hp.2, fit_mk (AgB.nest (AgB.mix _ _ _) (by kernel_rfl) (by kernel_rfl)) (by kernel_rfl) (vs_cons (by kernel_rfl) (vs_cons (by kernel_rfl) (vs_cons (by kernel_rfl) vs_nil))), ?_⟩)
        exact ⟨X2160, out1940, (((lget h i822).At) + ((lget h i822).Del)), (i822 + (1 : Int)), a1941, n1942, c1943, rfl, rfl, E2388, hXo2389, hS2390, ha2391, hh2392, k2393, O2394, p2180, h2428, h2429, hp.1⟩
  ·
    replace hp := hp.2 h1643
    refine wp_exit ?_
    refine then_exit ?_
    refine then_exit ?_
    refine blk_exit ?_
    refine then_normal (K16 _ _ _ _ ?_)
    refine seq_ (fun _ K2430 => ?_)
    refine reg_ ?_
    refine sq (o_pv (.slice a816 n817 c818) rfl (by kernel_rfl) ?_)
    refine sq (o_pv (.slice aa1 a.length ca2) rfl (by kernel_rfl) ?_)
    refine sq (o_pv (.int .i64 end_820) rfl (by kernel_rfl) ?_)
    obtain ⟨h2434, hp⟩ := hp
    refine sq (o_slice (R := rStr) (X := X1624) (L := a) end_820.toNat a.length (a.drop end_820.toNat) rfl Tryd.underlying22 Tryd.sizeOf9 ha1637 (by kernel_rfl) rfl (.inr ⟨.i64, by rw [show ((end_820.toNat : Nat) : Int) = end_820 from by omega]; kernel_rfl⟩) (.inl ⟨rfl, rfl, rfl⟩) (by omega) (by omega) (by rw [List.take_length]) ?_)
    intro a2431 c2432 h2433
    obtain ⟨h2435, hp⟩ := hp
    refine sq (o_appX (R := rStr) (X := X1624) (B := w.heap.size) (L := out815) (M := a.drop end_820.toNat) rfl elT22 rfl E1634.size O819 (Sl.src h2433) rfl (by kernel_rfl) (by kernel_rfl) h2435 ?_)
    intro a2436 n2437 c2438 w2439 X2440 s2441 O2442 gr2443
    have p2444 := gr2443 _ p1640 (OB.old k1639)
    refine sq (o_pv (.agg #[(.slice none 0 0), (.int .i64 (0 : Int))]) rfl (by kernel_rfl) ?_)
    refine sq (o_pv (.slice a2436 n2437 c2438) rfl (by kernel_rfl) ?_)
    have k2445 := (OB.step k1639 s2441 p1640)
    have E2446 := (Evo.thenW E1634 (Step.evo s2441) O819.2.2)
    refine sq (o_stB (o := 0) (v := (.agg #[(.slice none 0 0), (.int .i64 (0 : Int))])) [(.slice none 0 0), (.int .i64 (0 : Int))] rfl k2445 (by kernel_rfl) (by kernel_rfl) Tryd.sizeOf28 rfl rfl rfl ?_)
    intro w2447 s2448 k2449
    refine nil_ ?_
    refine then_normal (K2430 _ _ _ _ ?_)
    refine wp_ret ?_
    have O2450 := (OS.step O2442 s2448 (Ap.symm p2444))
    have hS2451 := (Sub.trans (Sub.trans hS1636 (Step.up s2441)) (Step.up s2448))
    have E2452 := (Evo.thenW E2446 (Step.evo s2448) k2445.2.2)
    refine end_ret hQ (.tuple #[(.slice a2436 n2437 c2438), (.agg #[(.slice none 0 0), (.int .i64 (0 : Int))])]) (rs2 Tryd.results24 (rs_tmp (by kernel_rfl)) (rs_agg [(.slice none 0 0), (.int .i64 (0 : Int))] (by kernel_rfl) Tryd.isAgg28 Tryd.sizeOf28 (k2449.2.1.cells' 0 rfl))) ?_
    exact ⟨(out815 ++ (a.drop end_820.toNat)), (S_rectoref3_Wrong.mk ([] : List S_rectoref3_Part) (0 : Int)), hp, E2452, a2436, c2438, none, 0, (by (rw [show n2437 = (out815 ++ (a.drop end_820.toNat)).length from O2450.1]); first | done | rfl), (OS.out O2450 hS2451 hX0), Sl.nil, (by decide : inR .i64 (0 : Int))⟩

def rectolaw12_PatchMoved_p (a : (List ByteArray)) (b : (List ByteArray)) (Q : Bool → Prop) : Prop :=
  ((a.length ≤ 9223372036854775807) → ((b.length ≤ 9223372036854775807) → (rectolaw12_known_p  (fun (r10 : Bool) => ((((!r10) = true) → Q false) ∧ (((!r10) = false) → (∃ k32 : Bool → Prop, (∀ (s31 : Bool), k32 s31 → (((s31 = true) → Q true) ∧ ((s31 = false) → (rectoref11_Lines_p a b (fun (r77 : (List S_rectoref11_Edit)) (r78 : S_rectoref3_Wrong) => ((r77.length ≤ 9223372036854775807) → ((r78.Parts.length ≤ 9223372036854775807) → ((inR .i64 r78.Err) → (rectolaw11_To_p r77 (fun (r103 : (List S_diff_Edit)) => ((r103.length ≤ 9223372036854775807) → (patch_Hunks_p r103 (0 : Int) (fun (r111 : (List S_patch_Hunk)) => ((r111.length ≤ 9223372036854775807) → (((([(ByteArray.mk #[122, 122, 10])]).length + a.length) * 16 ≤ 140737488355328) ∧ (patch_Apply_p (([(ByteArray.mk #[122, 122, 10])]) ++ a) r111 (fun (r159 : (List ByteArray)) (r160 : PErr) => ((r159.length ≤ 9223372036854775807) → (((([(ByteArray.mk #[122, 122, 10])]).length + a.length) * 16 ≤ 140737488355328) ∧ (rectolaw12_Of_p r111 (fun (r194 : (List S_rectoref11_Hunk)) => ((r194.length ≤ 9223372036854775807) → (rectoref11_Apply_p (([(ByteArray.mk #[122, 122, 10])]) ++ a) r194 (fun (r223 : (List ByteArray)) (r224 : S_rectoref3_Wrong) => ((r223.length ≤ 9223372036854775807) → ((r224.Parts.length ≤ 9223372036854775807) → ((inR .i64 r224.Err) → (∃ k300 : Bool → Prop, (∀ (s299 : Bool), k300 s299 → Q s299) ∧ ((((r160.isNil : Bool) = (decide (r224.Err = (0 : Int)))) → (rectoref11_Equal_p r159 r223 (fun (r355 : Bool) => (k300 r355)))) ∧ ((¬ ((r160.isNil : Bool) = (decide (r224.Err = (0 : Int))))) → (k300 false))))))))))))))))))))))))))))))) ∧ (rectolaw12_few_p a b (fun (r51 : Bool) => (((r51 = true) → (rectoref11_Equal_p a b (fun (r63 : Bool) => (k32 r63)))) ∧ ((r51 = false) → (k32 true))))))))))))
set_option maxRecDepth 20000 in
set_option maxHeartbeats 4000000 in
theorem rectolaw12_PatchMoved_w {X : List Nat} {w : World} {a : (List ByteArray)} {b : (List ByteArray)} {aa1 : Option Addr} {ca2 : Nat} {ab4 : Option Addr} {cb5 : Nat} {Q : Bool → Prop} (hX0 : Old X w) (ha3 : Sl rStr X w aa1 ca2 a) (hb6 : Sl rStr X w ab4 cb5 b) (gv1 : GV X w 1 (Lib.pow10Tab.map (Value.int .u64))) (hp : rectolaw12_PatchMoved_p a b Q) :
    Calls Tryd.prog 4 #[(.slice aa1 a.length ca2), (.slice ab4 b.length cb5)] w (Ret fun v w' => ∃ (r0 : Bool), Q r0 ∧ Evo [] w w' ∧ v = (.bool r0)) := by
  have hXo := hX0
  have E0 : Evo [] w w := RB.refl _ _ _
  have hS : Sub X X := Sub.refl _
  unfold rectolaw12_PatchMoved_p at hp
  refine enter_ Tryd.func4 rfl 60 [(0, (.slice aa1 a.length ca2)), (1, (.slice ab4 b.length cb5))] (by kernel_rfl) (fun Qe hQ => ?_)
  replace hp := hp (Sl.len ha3)
  replace hp := hp (Sl.len hb6)
  refine seq_ (fun _ K7 => ?_)
  refine reg_ ?_
  refine sq (o_pv (.bool false) rfl (by kernel_rfl) ?_)
  refine nil_ ?_
  refine then_normal (K7 _ _ _ _ ?_)
  refine seq_ (fun _ K8 => ?_)
  refine seq_ (fun _ K9 => ?_)
  refine reg_ ?_
  refine sq (o_call 11 #[] rfl (x_call Tryd.call11 (by kernel_rfl)) (rectolaw12_known_w (X := [])  (Old.nil _) (GV.less gv1 (Sub.nil _)) hp) ?_)
  rintro _ w11 ⟨r10, hp, e12, rfl⟩
  have s13 := Step.of0 X e12
  refine sq (o_pv (.bool (!r10)) rfl (by kernel_rfl) ?_)
  refine nil_ ?_
  refine then_normal (K9 _ _ _ _ ?_)
  refine cond_b (!r10) (by kernel_rfl) (fun h14 => ?_) (fun h14 => ?_)
  ·
    replace hp := hp.1 h14
    refine seq_ (fun _ K15 => ?_)
    refine reg_ ?_
    refine sq (o_pv (.bool false) rfl (by kernel_rfl) ?_)
    refine nil_ ?_
    refine then_normal (K15 _ _ _ _ ?_)
    refine wp_ret ?_
    refine then_ret ?_
    have E16 := (Evo.then0 E0 e12)
    refine end_ret hQ (.bool false) (by kernel_rfl) ?_
    exact ⟨false, hp, E16, rfl⟩
  ·
    replace hp := hp.2 h14
    refine wp_skip ?_
    refine then_normal (K8 _ _ _ _ ?_)
    refine seq_ (fun _ K17 => ?_)
    refine seq_ (fun _ K18 => ?_)
    have ha39 := (Sl.step ha3 s13)
    have hb40 := (Sl.step hb6 s13)
    have gv41 := (GV.step gv1 s13)
    have hXo42 := (Old.step hXo s13)
    have E43 := (Evo.then0 E0 e12)
    have hS44 := (Sub.trans hS (Step.up s13))
    obtain ⟨k32, hk33, hp⟩ := hp
    refine ground_ ?_
    refine join_ 8372224 (fun lq w34 => ∃ (X35 : List Nat) (s31 : Bool), (lq = [(22, (.bool s31))]) ∧ (Evo [] w w34) ∧ (Old X35 w34) ∧ (Sub X X35) ∧ (GV X35 w34 1 (Lib.pow10Tab.map (Value.int .u64))) ∧ (Sl rStr X35 w34 aa1 ca2 a) ∧ (Sl rStr X35 w34 ab4 cb5 b) ∧ (k32 s31)) (fun Kj36 hJ37 => ?_) ?_
    ·
      refine reg_ ?_
      refine sq (o_pv (.slice aa1 a.length ca2) rfl (by kernel_rfl) ?_)
      refine sq (o_pv (.slice ab4 b.length cb5) rfl (by kernel_rfl) ?_)
      refine sq (o_call 12 #[(.slice aa1 a.length ca2), (.slice ab4 b.length cb5)] rfl (x_call Tryd.call12 (by kernel_rfl)) (rectolaw12_few_w (X := []) (a := a) (b := b) (Old.nil _) (Sl.less ha39 (Sub.nil _)) (Sl.less hb40 (Sub.nil _)) hp) ?_)
      rintro _ w52 ⟨r51, hp, e53, rfl⟩
      have s54 := Step.of0 X e53
      cases r51
      ·
        replace hp := hp.2 rfl
        refine sq (o_pv (.bool true) rfl (by kernel_rfl) ?_)
        refine sq (o_pv (.bool true) rfl (by kernel_rfl) ?_)
        refine sq (o_not (by kernel_rfl) ?_)
        refine sq (o_not (by kernel_rfl) ?_)
        refine sq (o_not (by kernel_rfl) ?_)
        refine sq (o_pv (.bool true) rfl (by kernel_rfl) ?_)
        refine nil_ ?_
        have E55 := (Evo.then0 E43 e53)
        have hXo56 := (Old.step hXo42 s54)
        have hS57 := (Sub.trans hS44 (Step.up s54))
        have gv58 := (GV.step gv41 s54)
        have ha59 := (Sl.step ha39 s54)
        have hb60 := (Sl.step hb40 s54)
        refine then_normal (hJ37 _ _ _ ⟨[(22, (.bool true))], fit_mk (fun _ _ => rfl) (by kernel_rfl) (vs_cons (by kernel_rfl) vs_nil), ?_⟩)
        exact ⟨X, true, rfl, E55, hXo56, hS57, gv58, ha59, hb60, hp⟩
      ·
        replace hp := hp.1 rfl
        refine sq (o_pv (.bool false) rfl (by kernel_rfl) ?_)
        refine sq (o_pv (.bool false) rfl (by kernel_rfl) ?_)
        refine sq (o_pv (.slice aa1 a.length ca2) (by kernel_rfl) (by kernel_rfl) ?_)
        refine sq (o_pv (.slice ab4 b.length cb5) (by kernel_rfl) (by kernel_rfl) ?_)
        have ha61 := (Sl.step ha39 s54)
        have hb62 := (Sl.step hb40 s54)
        refine sq (o_call 23 #[(.slice aa1 a.length ca2), (.slice ab4 b.length cb5)] (by kernel_rfl) (x_call Tryd.call23 (by kernel_rfl)) (rectoref11_Equal_w (X := []) (a := a) (b := b) (Old.nil _) (Sl.less ha61 (Sub.nil _)) (Sl.less hb62 (Sub.nil _)) hp) ?_)
        rintro _ w64 ⟨r63, hp, e65, rfl⟩
        have s66 := Step.of0 X e65
        refine sq (o_pv (.bool r63) rfl (by kernel_rfl) ?_)
        refine nil_ ?_
        have E67 := (Evo.then0 (Evo.then0 E43 e53) e65)
        have hXo68 := (Old.step (Old.step hXo42 s54) s66)
        have hS69 := (Sub.trans (Sub.trans hS44 (Step.up s54)) (Step.up s66))
        have gv70 := (GV.step (GV.step gv41 s54) s66)
        have ha71 := (Sl.step ha61 s66)
        have hb72 := (Sl.step hb62 s66)
        refine then_normal (hJ37 _ _ _ ⟨[(22, (.bool r63))], fit_mk (fun _ _ => rfl) (by kernel_rfl) (vs_cons (by kernel_rfl) vs_nil), ?_⟩)
        exact ⟨X, r63, rfl, E67, hXo68, hS69, gv70, ha71, hb72, hp⟩
    ·
      rintro _ w34 g73 ⟨X35, s31, rfl, E45, hXo46, hS47, gv48, ha49, hb50, hv38⟩
      replace hp := hk33 s31 hv38
      refine then_normal (K18 _ _ _ _ ?_)
      refine cond_b s31 (by kernel_rfl) (fun h74 => ?_) (fun h74 => ?_)
      ·
        replace hp := hp.1 h74
        refine seq_ (fun _ K75 => ?_)
        refine reg_ ?_
        refine sq (o_pv (.bool true) rfl (by kernel_rfl) ?_)
        refine nil_ ?_
        refine then_normal (K75 _ _ _ _ ?_)
        refine wp_ret ?_
        refine then_ret ?_
        refine end_ret hQ (.bool true) (by kernel_rfl) ?_
        exact ⟨true, hp, E45, rfl⟩
      ·
        replace hp := hp.2 h74
        refine wp_skip ?_
        refine then_normal (K17 _ _ _ _ ?_)
        refine seq_ (fun _ K76 => ?_)
        refine reg_ ?_
        refine sq (o_pv (.slice aa1 a.length ca2) rfl (by kernel_rfl) ?_)
        refine sq (o_pv (.slice ab4 b.length cb5) rfl (by kernel_rfl) ?_)
        refine sq (o_call 13 #[(.slice aa1 a.length ca2), (.slice ab4 b.length cb5)] rfl (x_call Tryd.call13 (by kernel_rfl)) (rectoref11_Lines_w (X := X35) (a := a) (b := b) hXo46 ha49 hb50 hp) ?_)
        rintro _ w79 ⟨r77, r78, hp, e80, ar82, cr83, arParts85, crParts86, rfl, hr84, hrParts87, rrErr88⟩
        have s81 := Step.of0 X35 e80
        replace hp := hp (Sl.len hr84)
        replace hp := hp (Sl.len hrParts87)
        replace hp := hp rrErr88
        refine sq (o_pv (.tuple #[(.slice ar82 r77.length cr83), (.agg #[(.slice arParts85 r78.Parts.length crParts86), (.int .i64 r78.Err)])]) rfl (by kernel_rfl) ?_)
        refine sq (o_pv (.slice ar82 r77.length cr83) rfl (by kernel_rfl) ?_)
        refine sq (o_pv (.agg #[(.slice arParts85 r78.Parts.length crParts86), (.int .i64 r78.Err)]) rfl (by kernel_rfl) ?_)
        have E95 := (Evo.then0 E45 e80)
        refine sq (o_newX [(.slice none 0 0), (.int .i64 (0 : Int))] 28 (X := X35) (B := w.heap.size) E95.size rfl (by kernel_rfl) ?_)
        intro b89 w90 X91 s92 k93 n94
        refine sq (o_pv (.slice ar82 r77.length cr83) rfl (by kernel_rfl) ?_)
        have E96 := (Evo.then0 E95 (Step.evo s92))
        refine sq (o_stB (o := 0) (v := (.agg #[(.slice arParts85 r78.Parts.length crParts86), (.int .i64 r78.Err)])) [(.slice arParts85 r78.Parts.length crParts86), (.int .i64 r78.Err)] rfl k93 (by kernel_rfl) (by kernel_rfl) Tryd.sizeOf28 rfl rfl rfl ?_)
        intro w97 s98 k99
        refine nil_ ?_
        refine then_normal (K76 _ _ _ _ ?_)
        refine seq_ (fun _ K100 => ?_)
        refine reg_ ?_
        refine sq (o_pv (.slice ar82 r77.length cr83) rfl (by kernel_rfl) ?_)
        have hr101 := (Sl.step (Sl.step hr84 s92) s98)
        have hXo102 := (Old.step (Old.step (Old.step hXo46 s81) s92) s98)
        refine sq (o_call 15 #[(.slice ar82 r77.length cr83)] rfl (x_call Tryd.call15 (by kernel_rfl)) (rectolaw11_To_w (X := X91) (l := r77) hXo102 hr101 hp) ?_)
        rintro _ w104 ⟨r103, hp, e105, ar107, cr108, rfl, hr109⟩
        have s106 := Step.of0 X91 e105
        replace hp := hp (Sl.len hr109)
        have hXo110 := (Old.step hXo102 s106)
        refine sq (o_call 14 #[(.slice ar107 r103.length cr108), (.int .i64 (0 : Int))] rfl (x_call Tryd.call14 (by kernel_rfl)) (patch_Hunks_w (X := X91) (l := r103) (around := (0 : Int)) hXo110 hr109 (by decide : inR .i64 (0 : Int)) hp) ?_)
        rintro _ w112 ⟨r111, hp, e113, ar115, cr116, rfl, hr117⟩
        have s114 := Step.of0 X91 e113
        replace hp := hp (Sl.len hr117)
        refine sq (o_pv (.slice ar115 r111.length cr116) rfl (by kernel_rfl) ?_)
        refine nil_ ?_
        refine then_normal (K100 _ _ _ _ ?_)
        refine seq_ (fun _ K118 => ?_)
        refine reg_ ?_
        have k119 := (OB.step0 (OB.step0 k99 s106) s114)
        have E126 := (Evo.then0 (Evo.then0 (Evo.thenW E96 (Step.evo s98) k93.2.2) e105) e113)
        refine sq (o_rowX (R := rStr) [(.string (ByteArray.mk #[122, 122, 10]))] [(ByteArray.mk #[122, 122, 10])] 9 1 (X := X91) (B := w.heap.size) E126.size rfl (by kernel_rfl) (Flat.cons (cs := [(.string (ByteArray.mk #[122, 122, 10]))]) (rStr_mk (by decide : (ByteArray.mk #[122, 122, 10]).size ≤ maxLen)) Flat.nil) rfl (by decide) ?_)
        intro b120 w121 X122 s123 O124 n125
        have p127 := n125 _ (OB.old k119)
        refine sq (o_pv (.slice aa1 a.length ca2) rfl (by kernel_rfl) ?_)
        obtain ⟨h128, hp⟩ := hp
        have ha129 := (Sl.step (Sl.step (Sl.step (Sl.step (Sl.step (Sl.step ha49 s81) s92) s98) s106) s114) s123)
        have k130 := (OB.step0 k119 s123)
        have E131 := (Evo.then0 E126 (Step.evo s123))
        refine sq (o_appX (R := rStr) (X := X122) (B := w.heap.size) (L := [(ByteArray.mk #[122, 122, 10])]) (M := a) rfl elT22 rfl E131.size O124 (Sl.src ha129) rfl (by kernel_rfl) (by kernel_rfl) h128 ?_)
        intro a132 n133 c134 w135 X136 s137 O138 gr139
        have p140 := gr139 _ p127 (OB.old k130)
        refine sq (o_pv (.slice ar115 r111.length cr116) rfl (by kernel_rfl) ?_)
        have hS141 := (Sub.trans (Sub.trans (Sub.trans (Sub.trans (Sub.trans (Sub.trans (Sub.trans hS47 (Step.up s81)) (Step.up s92)) (Step.up s98)) (Step.up s106)) (Step.up s114)) (Step.up s123)) (Step.up s137))
        have E147 := (Evo.thenW E131 (Step.evo s137) O124.2.2)
        have hXo148 := (Old.step (Old.step (Old.step hXo110 s114) s123) s137)
        have gv149 := (GV.step (GV.step (GV.step (GV.step (GV.step (GV.step (GV.step gv48 s81) s92) s98) s106) s114) s123) s137)
        have ha150 := (Sl.step ha129 s137)
        have hb151 := (Sl.step (Sl.step (Sl.step (Sl.step (Sl.step (Sl.step (Sl.step hb50 s81) s92) s98) s106) s114) s123) s137)
        have hr152 := (Sl.step (Sl.step (Sl.step (Sl.step hr101 s106) s114) s123) s137)
        have hrParts153 := (Sl.step (Sl.step (Sl.step (Sl.step (Sl.step (Sl.step hrParts87 s92) s98) s106) s114) s123) s137)
        have k154 := (OB.step k130 s137 p127)
        have hr155 := (Sl.step (Sl.step (Sl.step hr109 s114) s123) s137)
        have hr156 := (Sl.step (Sl.step hr117 s123) s137)
        have ax146 := OS.apold O138 hX0
        obtain ⟨X142, u143, r144, hm145⟩ := OS.release O138
        obtain rfl : n133 = (([(ByteArray.mk #[122, 122, 10])]) ++ a).length := O138.1
        have hr157 := (Sl.less hr156 u143)
        have hXo158 := (Old.less hXo148 u143)
        refine sq (o_call 22 #[(.slice a132 (([(ByteArray.mk #[122, 122, 10])]) ++ a).length c134), (.slice ar115 r111.length cr116)] rfl (x_call Tryd.call22 (by rw []; kernel_rfl)) (patch_Apply_w (X := X142) (a := ([(ByteArray.mk #[122, 122, 10])]) ++ a) (h := r111) hXo158 r144 hr157 hp) ?_)
        rintro _ w161 ⟨r159, r160, hp, e162, ar164, cr165, vr167, rfl, hr166, hr168⟩
        have s163 := Step.of0 X142 e162
        replace hp := hp (Sl.len hr166)
        refine sq (o_pv (.tuple #[(.slice ar164 r159.length cr165), vr167]) rfl (by kernel_rfl) ?_)
        refine sq (o_pv (.slice ar164 r159.length cr165) rfl (by kernel_rfl) ?_)
        refine sq (o_pv vr167 rfl (by kernel_rfl) ?_)
        refine sq (o_pv (.slice ar164 r159.length cr165) rfl (by kernel_rfl) ?_)
        refine sq (o_pv vr167 rfl (by kernel_rfl) ?_)
        refine nil_ ?_
        refine then_normal (K118 _ _ _ _ ?_)
        refine seq_ (fun _ K169 => ?_)
        refine reg_ ?_
        have k170 := (OB.step0 (OB.less k154 (hm145 _ p140 (OB.mem k154))) s163)
        have E177 := (Evo.then0 E147 e162)
        refine sq (o_rowX (R := rStr) [(.string (ByteArray.mk #[122, 122, 10]))] [(ByteArray.mk #[122, 122, 10])] 9 1 (X := X142) (B := w.heap.size) E177.size rfl (by kernel_rfl) (Flat.cons (cs := [(.string (ByteArray.mk #[122, 122, 10]))]) (rStr_mk (by decide : (ByteArray.mk #[122, 122, 10]).size ≤ maxLen)) Flat.nil) rfl (by decide) ?_)
        intro b171 w172 X173 s174 O175 n176
        have p178 := n176 _ (OB.old k170)
        refine sq (o_pv (.slice aa1 a.length ca2) rfl (by kernel_rfl) ?_)
        obtain ⟨h179, hp⟩ := hp
        have ha180 := (Sl.step (Sl.step (Sl.less ha150 u143) s163) s174)
        have k181 := (OB.step0 k170 s174)
        have E182 := (Evo.then0 E177 (Step.evo s174))
        refine sq (o_appX (R := rStr) (X := X173) (B := w.heap.size) (L := [(ByteArray.mk #[122, 122, 10])]) (M := a) rfl elT22 rfl E182.size O175 (Sl.src ha180) rfl (by kernel_rfl) (by kernel_rfl) h179 ?_)
        intro a183 n184 c185 w186 X187 s188 O189 gr190
        have p191 := gr190 _ p178 (OB.old k181)
        refine sq (o_pv (.slice ar115 r111.length cr116) rfl (by kernel_rfl) ?_)
        have hr192 := (Sl.step (Sl.step (Sl.step hr157 s163) s174) s188)
        have hXo193 := (Old.step (Old.step (Old.step hXo158 s163) s174) s188)
        refine sq (o_call 25 #[(.slice ar115 r111.length cr116)] rfl (x_call Tryd.call25 (by kernel_rfl)) (rectolaw12_Of_w (X := X187) (h := r111) hXo193 hr192 hp) ?_)
        rintro _ w195 ⟨r194, hp, e196, ar198, cr199, rfl, hr200⟩
        have s197 := Step.of0 X187 e196
        replace hp := hp (Sl.len hr200)
        have O201 := (OS.step0 O189 s197)
        have hS202 := (Sub.trans (Sub.trans (Sub.trans (Sub.trans (hm145 _ ax146 hS141) (Step.up s163)) (Step.up s174)) (Step.up s188)) (Step.up s197))
        have E208 := (Evo.then0 (Evo.thenW E182 (Step.evo s188) O175.2.2) e196)
        have hXo209 := (Old.step hXo193 s197)
        have gv210 := (GV.step (GV.step (GV.step (GV.step (GV.less gv149 u143) s163) s174) s188) s197)
        have ha211 := (Sl.step (Sl.step ha180 s188) s197)
        have hb212 := (Sl.step (Sl.step (Sl.step (Sl.step (Sl.less hb151 u143) s163) s174) s188) s197)
        have hr213 := (Sl.step (Sl.step (Sl.step (Sl.step (Sl.less hr152 u143) s163) s174) s188) s197)
        have hrParts214 := (Sl.step (Sl.step (Sl.step (Sl.step (Sl.less hrParts153 u143) s163) s174) s188) s197)
        have k215 := (OB.step0 (OB.step k181 s188 p178) s197)
        have hr216 := (Sl.step (Sl.step (Sl.step (Sl.step (Sl.less hr155 u143) s163) s174) s188) s197)
        have hr217 := (Sl.step hr192 s197)
        have r218 := (Sl.step (Sl.step (Sl.step (Sl.step r144 s163) s174) s188) s197)
        have hr219 := (Sl.step (Sl.step (Sl.step hr166 s174) s188) s197)
        have hr220 := (Rep.step (rErr 63 122 124) (Rep.step (rErr 63 122 124) (Rep.step (rErr 63 122 124) hr168 s174) s188) s197)
        have ax207 := OS.apold O201 hX0
        obtain ⟨X203, u204, r205, hm206⟩ := OS.release O201
        obtain rfl : n184 = (([(ByteArray.mk #[122, 122, 10])]) ++ a).length := O201.1
        have hr221 := (Sl.less hr200 u204)
        have hXo222 := (Old.less hXo209 u204)
        refine sq (o_call 24 #[(.slice a183 (([(ByteArray.mk #[122, 122, 10])]) ++ a).length c185), (.slice ar198 r194.length cr199)] rfl (x_call Tryd.call24 (by rw []; kernel_rfl)) (rectoref11_Apply_w (X := X203) (a := ([(ByteArray.mk #[122, 122, 10])]) ++ a) (h := r194) hXo222 r205 hr221 hp) ?_)
        rintro _ w225 ⟨r223, r224, hp, e226, ar228, cr229, arParts231, crParts232, rfl, hr230, hrParts233, rrErr234⟩
        have s227 := Step.of0 X203 e226
        replace hp := hp (Sl.len hr230)
        replace hp := hp (Sl.len hrParts233)
        replace hp := hp rrErr234
        refine sq (o_pv (.tuple #[(.slice ar228 r223.length cr229), (.agg #[(.slice arParts231 r224.Parts.length crParts232), (.int .i64 r224.Err)])]) rfl (by kernel_rfl) ?_)
        refine sq (o_pv (.slice ar228 r223.length cr229) rfl (by kernel_rfl) ?_)
        refine sq (o_pv (.agg #[(.slice arParts231 r224.Parts.length crParts232), (.int .i64 r224.Err)]) rfl (by kernel_rfl) ?_)
        have k241 := (OB.step0 (OB.less k215 (hm206 _ p191 (OB.mem k215))) s227)
        have E242 := (Evo.then0 E208 e226)
        refine sq (o_newX [(.slice none 0 0), (.int .i64 (0 : Int))] 28 (X := X203) (B := w.heap.size) E242.size rfl (by kernel_rfl) ?_)
        intro b235 w236 X237 s238 k239 n240
        have p243 := n240 _ (OB.old k241)
        refine sq (o_pv (.slice ar228 r223.length cr229) rfl (by kernel_rfl) ?_)
        have k244 := (OB.step0 k241 s238)
        have E245 := (Evo.then0 E242 (Step.evo s238))
        refine sq (o_stB (o := 0) (v := (.agg #[(.slice arParts231 r224.Parts.length crParts232), (.int .i64 r224.Err)])) [(.slice arParts231 r224.Parts.length crParts232), (.int .i64 r224.Err)] rfl k239 (by kernel_rfl) (by kernel_rfl) Tryd.sizeOf28 rfl rfl rfl ?_)
        intro w246 s247 k248
        refine nil_ ?_
        refine then_normal (K169 _ _ _ _ ?_)
        refine seq_ (fun _ K249 => ?_)
        have E307 := (Evo.thenW E245 (Step.evo s247) k239.2.2)
        have hXo308 := (Old.step (Old.step (Old.step hXo222 s227) s238) s247)
        have hS309 := (Sub.trans (Sub.trans (Sub.trans (hm206 _ ax207 hS202) (Step.up s227)) (Step.up s238)) (Step.up s247))
        have gv310 := (GV.step (GV.step (GV.step (GV.less gv210 u204) s227) s238) s247)
        have ha311 := (Sl.step (Sl.step (Sl.step (Sl.less ha211 u204) s227) s238) s247)
        have hb312 := (Sl.step (Sl.step (Sl.step (Sl.less hb212 u204) s227) s238) s247)
        have hr313 := (Sl.step (Sl.step (Sl.step (Sl.less hr213 u204) s227) s238) s247)
        have hrParts314 := (Sl.step (Sl.step (Sl.step (Sl.less hrParts214 u204) s227) s238) s247)
        have k315 := (OB.step k244 s247 p243)
        have hr316 := (Sl.step (Sl.step (Sl.step (Sl.less hr216 u204) s227) s238) s247)
        have hr317 := (Sl.step (Sl.step (Sl.step (Sl.less hr217 u204) s227) s238) s247)
        have r318 := (Sl.step (Sl.step (Sl.step (Sl.less r218 u204) s227) s238) s247)
        have hr319 := (Sl.step (Sl.step (Sl.step (Sl.less hr219 u204) s227) s238) s247)
        have hr320 := (Rep.step (rErr 63 122 124) (Rep.step (rErr 63 122 124) (Rep.step (rErr 63 122 124) (Rep.less (rErr 63 122 124) hr220 u204) s227) s238) s247)
        have r321 := (Sl.step (Sl.step (Sl.step r205 s227) s238) s247)
        have hr322 := (Sl.step (Sl.step (Sl.step hr221 s227) s238) s247)
        have hr323 := (Sl.step (Sl.step hr230 s238) s247)
        have hrParts324 := (Sl.step (Sl.step hrParts233 s238) s247)
        obtain ⟨k300, hk301, hp⟩ := hp
        refine ground_ ?_
        refine join_ 1152358554653425680 (fun lq w302 => ∃ (X303 : List Nat) (s299 : Bool), (lq = [(4, (.bool s299))]) ∧ (Evo [] w w302) ∧ (Old X303 w302) ∧ (Sub X X303) ∧ (GV X303 w302 1 (Lib.pow10Tab.map (Value.int .u64))) ∧ (k300 s299)) (fun Kj304 hJ305 => ?_) ?_
        ·
          refine reg_drawn (RB w246.heap.size []) 11 (by kernel_rfl) (fun w329 hd330 => ?_)
          have e331 := Evo.of_drew hd330
          have z332 : w329.heap.size = w246.heap.size := by rw [hd330]
          clear hd330
          have s334 := Step.of0 X237 e331
          have er333 := RB.refl w246.heap.size [] w329
          have E335 := (Evo.then0 E307 (Step.evo s334))
          have hXo336 := (Old.step hXo308 s334)
          have hS337 := (Sub.trans hS309 (Step.up s334))
          have gv338 := (GV.step gv310 s334)
          have ha339 := (Sl.step ha311 s334)
          have hb340 := (Sl.step hb312 s334)
          have hr341 := (Sl.step hr313 s334)
          have hrParts342 := (Sl.step hrParts314 s334)
          have k343 := (OB.step0 k315 s334)
          have hr344 := (Sl.step hr316 s334)
          have hr345 := (Sl.step hr317 s334)
          have r346 := (Sl.step r318 s334)
          have hr347 := (Sl.step hr319 s334)
          have hr348 := (Rep.step (rErr 63 122 124) hr320 s334)
          have r349 := (Sl.step r321 s334)
          have hr350 := (Sl.step hr322 s334)
          have hr351 := (Sl.step hr323 s334)
          have hrParts352 := (Sl.step hrParts324 s334)
          have k353 := (OB.step0 k248 s334)
          refine r_take 0 vr167 (RB.pre _ _) rfl (by kernel_rfl) (fun _ _ _ h => hQ.panic _ _ _ _ _ h) (.inl ⟨rfl, fun wq hq => (by kernel_rfl)⟩) ?_
          refine r_take 1 (.bool r160.isNil) (RB.pre _ _) rfl (by kernel_rfl) (fun _ _ _ h => hQ.panic _ _ _ _ _ h) (.inl ⟨rfl, fun wq hq => (x_err_eq r160 hr348 Tryd.underlying43 (by kernel_rfl))⟩) ?_
          refine r_take 2 (.pointer (some ⟨b235, 1, none⟩)) (RB.pre _ _) rfl (by kernel_rfl) (fun _ _ _ h => hQ.panic _ _ _ _ _ h) (.inl ⟨rfl, fun wq hq => (by kernel_rfl)⟩) ?_
          refine r_take 3 (.int .i64 r224.Err) (RB.pre _ _) rfl (by kernel_rfl) (fun _ _ _ h => hQ.panic _ _ _ _ _ h) (.inl ⟨rfl, fun wq hq => (x_load1 (by kernel_rfl) Tryd.isAgg3 ((Blk.rb k353.2.1 (RB.trans er333 hq) (Nat.lt_of_lt_of_eq (Blk.lt k353.2.1) z332) (fun h => by cases h)).cell' 1 rfl))⟩) ?_
          refine r_take 4 (.bool (decide (r224.Err = (0 : Int)))) (RB.pre _ _) rfl (by kernel_rfl) (fun _ _ _ h => hQ.panic _ _ _ _ _ h) (.inl ⟨rfl, fun wq hq => (by kernel_rfl)⟩) ?_
          by_cases h354 : (r160.isNil : Bool) = (decide (r224.Err = (0 : Int)))
          ·
            replace hp := hp.1 h354
            refine r_take 5 (.bool true) (RB.pre _ _) rfl (by kernel_rfl) (fun _ _ _ h => hQ.panic _ _ _ _ _ h) (.inl ⟨rfl, fun wq hq => (x_dt (p := (r160.isNil : Bool) = (decide (r224.Err = (0 : Int)))) (x_booleq (a := r160.isNil) (b := (decide (r224.Err = (0 : Int)))) Tryd.underlying4 (by kernel_rfl) (by kernel_rfl)) h354)⟩) ?_
            refine r_take 6 (.bool true) (RB.pre _ _) rfl (by kernel_rfl) (fun _ _ _ h => hQ.panic _ _ _ _ _ h) (.inl ⟨rfl, fun wq hq => (by kernel_rfl)⟩) ?_
            refine r_take 7 (.slice ar164 r159.length cr165) (RB.pre _ _) rfl (by kernel_rfl) (fun _ _ _ h => hQ.panic _ _ _ _ _ h) (.inl ⟨(by kernel_rfl), fun wq hq => (by kernel_rfl)⟩) ?_
            refine r_take 8 (.slice ar228 r223.length cr229) (RB.pre _ _) rfl (by kernel_rfl) (fun _ _ _ h => hQ.panic _ _ _ _ _ h) (.inl ⟨(by kernel_rfl), fun wq hq => (by kernel_rfl)⟩) ?_
            refine r_ready [9] (by kernel_rfl) rfl (all_cons ⟨_, _, _, _, _, _, rfl, ?_⟩ all_nil)
            refine o_call 23 #[(.slice ar164 r159.length cr165), (.slice ar228 r223.length cr229)] (by kernel_rfl) (x_call Tryd.call23 (by kernel_rfl)) (rectoref11_Equal_w (X := []) (a := r159) (b := r223) (Old.nil _) (Sl.less hr347 (Sub.nil _)) (Sl.less hr351 (Sub.nil _)) hp) ?_
            rintro _ w356 ⟨r355, hp, e357, rfl⟩
            have rm := RB.mono (F' := []) e357 (Nat.le_trans (Nat.le_of_eq z332.symm) (RB.size er333)) (fun _ h => by cases h)
            have er359 := RB.trans er333 rm
            refine ⟨fun _ => rm, ?_⟩
            have s358 := Step.of0 X237 e357
            refine r_take 10 (.bool r355) (RB.pre _ _) rfl (by kernel_rfl) (fun _ _ _ h => hQ.panic _ _ _ _ _ h) (.inl ⟨rfl, fun wq hq => (by kernel_rfl)⟩) ?_
            refine r_ready [11] (by kernel_rfl) rfl (all_cons ⟨_, _, _, _, _, _, rfl, ?_⟩ all_nil)
            refine o_pv (.bool r355) rfl (by kernel_rfl) ?_
            refine ⟨fun h => absurd h (by decide), ?_⟩
            refine r_done (by kernel_rfl) ?_
            have E360 := (Evo.then0 E335 e357)
            have hXo361 := (Old.step hXo336 s358)
            have hS362 := (Sub.trans hS337 (Step.up s358))
            have gv363 := (GV.step gv338 s358)
            refine then_normal (hJ305 _ _ _ ⟨[(4, (.bool r355))], fit_mk (fun _ _ => rfl) (by kernel_rfl) (vs_cons (by kernel_rfl) vs_nil), ?_⟩)
            exact ⟨X237, r355, rfl, E360, hXo361, hS362, gv363, hp⟩
          ·
            replace hp := hp.2 h354
            refine r_take 5 (.bool false) (RB.pre _ _) rfl (by kernel_rfl) (fun _ _ _ h => hQ.panic _ _ _ _ _ h) (.inl ⟨rfl, fun wq hq => (x_df (p := (r160.isNil : Bool) = (decide (r224.Err = (0 : Int)))) (x_booleq (a := r160.isNil) (b := (decide (r224.Err = (0 : Int)))) Tryd.underlying4 (by kernel_rfl) (by kernel_rfl)) h354)⟩) ?_
            refine r_take 6 (.bool false) (RB.pre _ _) rfl (by kernel_rfl) (fun _ _ _ h => hQ.panic _ _ _ _ _ h) (.inl ⟨rfl, fun wq hq => (by kernel_rfl)⟩) ?_
            refine r_take 7 undef (RB.pre _ _) rfl (by kernel_rfl) (fun _ _ _ h => hQ.panic _ _ _ _ _ h) (.inr ⟨by kernel_rfl, rfl⟩) ?_
            refine r_take 8 undef (RB.pre _ _) rfl (by kernel_rfl) (fun _ _ _ h => hQ.panic _ _ _ _ _ h) (.inr ⟨by kernel_rfl, rfl⟩) ?_
            refine r_take 9 undef (RB.pre _ _) rfl (by kernel_rfl) (fun _ _ _ h => hQ.panic _ _ _ _ _ h) (.inr ⟨by kernel_rfl, rfl⟩) ?_
            refine r_take 10 (.bool false) (RB.pre _ _) rfl (by kernel_rfl) (fun _ _ _ h => hQ.panic _ _ _ _ _ h) (.inl ⟨rfl, fun wq hq => (by kernel_rfl)⟩) ?_
            refine r_ready [11] (by kernel_rfl) rfl (all_cons ⟨_, _, _, _, _, _, rfl, ?_⟩ all_nil)
            refine o_pv (.bool false) rfl (by kernel_rfl) ?_
            refine ⟨fun h => absurd h (by decide), ?_⟩
            refine r_done (by kernel_rfl) ?_
            refine then_normal (hJ305 _ _ _ ⟨[(4, (.bool false))], fit_mk (fun _ _ => rfl) (by kernel_rfl) (vs_cons (by kernel_rfl) vs_nil), ?_⟩)
            exact ⟨X237, false, rfl, E335, hXo336, hS337, gv338, hp⟩
        ·
          rintro _ w302 g364 ⟨X303, s299, rfl, E325, hXo326, hS327, gv328, hv306⟩
          replace hp := hk301 s299 hv306
          refine then_normal (K249 _ _ _ _ ?_)
          refine wp_ret ?_
          refine end_ret hQ (.bool s299) (by kernel_rfl) ?_
          exact ⟨s299, hp, E325, rfl⟩

end Go.Proofs.YtkmenljohhngjaaDoor
