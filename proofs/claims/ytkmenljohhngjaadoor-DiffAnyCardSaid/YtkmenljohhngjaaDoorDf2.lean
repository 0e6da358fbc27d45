/- Walks of functions: what each asks and computes, as a plain predicate, and the contract from it. -/
import Derived.Test.YtkmenljohhngjaaDoorChecked
import Derived.Test.YtkmenljohhngjaaDoorDf1
namespace Go.Proofs.YtkmenljohhngjaaDoor
open Go

theorem elT73 : ElemT Tryd.prog 73 85 3 24 := elemT_mk (i := Tryd.t85) (z := (.agg #[(.int .i64 0), (.int .i64 0), (.int .i64 0)])) (by kernel_rfl) (by kernel_rfl) (by kernel_rfl) (by kernel_rfl) Tryd.underlying73 Tryd.sizeOf85 (by decide) (by decide)
def diff_Matches_p (a : (List ByteArray)) (b : (List ByteArray)) (Q : (List S_diff_Match) → PErr → Prop) : Prop :=
  ((a.length ≤ 9223372036854775807) → ((b.length ≤ 9223372036854775807) → (diff_Lines_p a b (fun (r9 : (List S_diff_Edit)) (r10 : PErr) => ((r9.length ≤ 9223372036854775807) → ((((!r10.isNil) = true) → Q ([] : List S_diff_Match) r10) ∧ (((!r10.isNil) = false) → (∃ (I1262 : (List S_diff_Match) → Int → Int → Bool → Int → Prop) (m1263 : (List S_diff_Match) → Int → Int → Bool → Int → Nat), (I1262 ([] : List S_diff_Match) (0 : Int) (0 : Int) false (0 : Int)) ∧ (∀ (out630 : (List S_diff_Match)) (i635 : Int) (j637 : Int) (row639 : Bool) (s640 : Int), (I1262 out630 i635 j637 row639 s640) → (out630.length ≤ 9223372036854775807) → (inR .i64 i635) → (inR .i64 j637) → (inR .i64 s640) → (((s640 < (r9.length : Int)) → (∃ k1585 : (List S_diff_Match) → Int → Int → Prop, (∀ (out1576 : (List S_diff_Match)) (i1581 : Int) (j1583 : Int), k1585 out1576 i1581 j1583 → (out1576.length ≤ 9223372036854775807) → (inR .i64 i1581) → (inR .i64 j1583) → ((inR .i64 (s640 + (1 : Int))) ∧ ((I1262 out1576 i1581 j1583 (decide (((lget r9 s640).Op) = (1 : Int))) (s640 + (1 : Int))) ∧ m1263 out1576 i1581 j1583 (decide (((lget r9 s640).Op) = (1 : Int))) (s640 + (1 : Int)) < m1263 out630 i635 j637 row639 s640))) ∧ ((inL r9 s640) ∧ ((inR .i64 ((lget r9 s640).Op)) → ((((lget r9 s640).Line).size ≤ maxLen) → (∃ k1735 : (List S_diff_Match) → Prop, (∀ (out1730 : (List S_diff_Match)), k1735 out1730 → (out1730.length ≤ 9223372036854775807) → (∃ k1867 : Int → Prop, (∀ (i1865 : Int), k1867 i1865 → (inR .i64 i1865) → (((¬ (((lget r9 s640).Op) = (2 : Int))) → ((inR .i64 (j637 + (1 : Int))) ∧ (k1585 out1730 i1865 (j637 + (1 : Int))))) ∧ ((((lget r9 s640).Op) = (2 : Int)) → (k1585 out1730 i1865 j637)))) ∧ (((¬ (((lget r9 s640).Op) = (3 : Int))) → ((inR .i64 (i635 + (1 : Int))) ∧ (k1867 (i635 + (1 : Int))))) ∧ ((((lget r9 s640).Op) = (3 : Int)) → (k1867 i635))))) ∧ (((((lget r9 s640).Op) = (1 : Int)) → (∃ k1783 : (List S_diff_Match) → Prop, (∀ (out1778 : (List S_diff_Match)), k1783 out1778 → (out1778.length ≤ 9223372036854775807) → ((inR .i64 ((out1778.length : Int) - (1 : Int))) ∧ ((inL out1778 ((out1778.length : Int) - (1 : Int))) ∧ ((inR .i64 ((lget out1778 ((out1778.length : Int) - (1 : Int))).A)) → ((inR .i64 ((lget out1778 ((out1778.length : Int) - (1 : Int))).B)) → ((inR .i64 ((lget out1778 ((out1778.length : Int) - (1 : Int))).N)) → ((inR .i64 (((lget out1778 ((out1778.length : Int) - (1 : Int))).N) + (1 : Int))) ∧ ((inL out1778 ((out1778.length : Int) - (1 : Int))) ∧ ((inR .i64 ((lget out1778 ((out1778.length : Int) - (1 : Int))).A)) → ((inR .i64 ((lget out1778 ((out1778.length : Int) - (1 : Int))).B)) → ((inR .i64 ((lget out1778 ((out1778.length : Int) - (1 : Int))).N)) → (∀ l1853 : List S_diff_Match, l1853 = (lset out1778 ((out1778.length : Int) - (1 : Int)) (S_diff_Match.mk ((lget out1778 ((out1778.length : Int) - (1 : Int))).A) ((lget out1778 ((out1778.length : Int) - (1 : Int))).B) (((lget out1778 ((out1778.length : Int) - (1 : Int))).N) + (1 : Int)))) → (k1735 l1853))))))))))))) ∧ ((((!row639) = true) → (((out630.length + ([(S_diff_Match.mk i635 j637 (0 : Int))]).length) * 24 ≤ 140737488355328) ∧ (k1783 (out630 ++ ([(S_diff_Match.mk i635 j637 (0 : Int))]))))) ∧ (((!row639) = false) → (k1783 out630))))) ∧ ((¬ (((lget r9 s640).Op) = (1 : Int))) → (k1735 out630))))))))) ∧ ((¬ (s640 < (r9.length : Int))) → (slices_Clip_diff_Match_diff_Match_p out630 (fun (r1896 : (List S_diff_Match)) => ((r1896.length ≤ 9223372036854775807) → Q r1896 PErr.nil))))))))))))))
set_option maxRecDepth 20000 in
set_option maxHeartbeats 4000000 in
theorem diff_Matches_w {X : List Nat} {w : World} {a : (List ByteArray)} {b : (List ByteArray)} {aa1 : Option Addr} {ca2 : Nat} {ab4 : Option Addr} {cb5 : Nat} {Q : (List S_diff_Match) → PErr → Prop} (hX0 : Old X w) (ha3 : Sl rStr X w aa1 ca2 a) (hb6 : Sl rStr X w ab4 cb5 b) (hp : diff_Matches_p a b Q) :
    Calls Tryd.prog 39 #[(.slice aa1 a.length ca2), (.slice ab4 b.length cb5)] w (Ret fun v w' => ∃ (r0 : (List S_diff_Match)) (r1 : PErr), Q r0 r1 ∧ Evo [] w w' ∧ ∃ (aq01 : Option Addr) (cq02 : Nat) (vq14 : Value), v = .tuple #[(.slice aq01 r0.length cq02), vq14] ∧ Sl r_diff_Match X w' aq01 cq02 r0 ∧ (rErr 63 122 124).ok X w' ([vq14]) r1) := by
  have hXo := hX0
  have E0 : Evo [] w w := RB.refl _ _ _
  have hS : Sub X X := Sub.refl _
  unfold diff_Matches_p at hp
  refine enter_ Tryd.func39 rfl 66 [(0, (.slice aa1 a.length ca2)), (1, (.slice ab4 b.length cb5))] (by kernel_rfl) (fun Qe hQ => ?_)
  replace hp := hp (Sl.len ha3)
  replace hp := hp (Sl.len hb6)
  refine seq_ (fun _ K7 => ?_)
  refine reg_ ?_
  refine sq (o_pv (.slice none 0 0) rfl (by kernel_rfl) ?_)
  refine sq (o_pv .nilIface rfl (by kernel_rfl) ?_)
  refine nil_ ?_
  refine then_normal (K7 _ _ _ _ ?_)
  refine seq_ (fun _ K8 => ?_)
  refine reg_ ?_
  refine sq (o_pv (.slice aa1 a.length ca2) rfl (by kernel_rfl) ?_)
  refine sq (o_pv (.slice ab4 b.length cb5) rfl (by kernel_rfl) ?_)
  refine sq (o_call 38 #[(.slice aa1 a.length ca2), (.slice ab4 b.length cb5)] rfl (x_call Tryd.call38 (by kernel_rfl)) (diff_Lines_w (X := X) (a := a) (b := b) hXo ha3 hb6 hp) ?_)
  rintro _ w11 ⟨r9, r10, hp, e12, ar14, cr15, vr17, rfl, hr16, hr18⟩
  have s13 := Step.of0 X e12
  replace hp := hp (Sl.len hr16)
  refine sq (o_pv (.tuple #[(.slice ar14 r9.length cr15), vr17]) rfl (by kernel_rfl) ?_)
  refine sq (o_pv (.slice ar14 r9.length cr15) rfl (by kernel_rfl) ?_)
  refine sq (o_pv vr17 rfl (by kernel_rfl) ?_)
  refine sq (o_pv (.slice ar14 r9.length cr15) rfl (by kernel_rfl) ?_)
  refine sq (o_pv vr17 rfl (by kernel_rfl) ?_)
  refine nil_ ?_
  refine then_normal (K8 _ _ _ _ ?_)
  refine seq_ (fun _ K19 => ?_)
  refine seq_ (fun _ K20 => ?_)
  refine reg_ ?_
  refine sq (o_pv vr17 rfl (by kernel_rfl) ?_)
  refine sq (o_pv (.bool (!r10.isNil)) rfl (x_err_ne r10 hr18 Tryd.underlying43 (by kernel_rfl)) ?_)
  refine nil_ ?_
  refine then_normal (K20 _ _ _ _ ?_)
  refine cond_b (!r10.isNil) (by kernel_rfl) (fun h21 => ?_) (fun h21 => ?_)
  ·
    replace hp := hp.1 h21
    refine seq_ (fun _ K22 => ?_)
    refine reg_ ?_
    refine sq (o_pv vr17 rfl (by kernel_rfl) ?_)
    refine sq (o_pv (.slice none 0 0) rfl (by kernel_rfl) ?_)
    refine sq (o_pv vr17 rfl (by kernel_rfl) ?_)
    refine nil_ ?_
    refine then_normal (K22 _ _ _ _ ?_)
    refine wp_ret ?_
    refine then_ret ?_
    have hS23 := (Sub.trans hS (Step.up s13))
    have E24 := (Evo.then0 E0 e12)
    refine end_ret hQ (.tuple #[(.slice none 0 0), vr17]) (by kernel_rfl) ?_
    exact ⟨([] : List S_diff_Match), r10, hp, E24, none, 0, vr17, rfl, Sl.nil, (Rep.less (rErr 63 122 124) hr18 hS23)⟩
  ·
    replace hp := hp.2 h21
    refine wp_skip ?_
    refine then_normal (K19 _ _ _ _ ?_)
    refine seq_ (fun _ K25 => ?_)
    refine reg_ ?_
    refine sq (o_pv (.slice none 0 0) rfl (by kernel_rfl) ?_)
    refine nil_ ?_
    refine then_normal (K25 _ _ _ _ ?_)
    refine seq_ (fun _ K26 => ?_)
    refine reg_ ?_
    refine sq (o_pv (.int .i64 (0 : Int)) rfl (by kernel_rfl) ?_)
    refine sq (o_pv (.int .i64 (0 : Int)) rfl (by kernel_rfl) ?_)
    refine sq (o_pv (.bool false) rfl (by kernel_rfl) ?_)
    refine nil_ ?_
    refine then_normal (K26 _ _ _ _ ?_)
    refine seq_ (fun _ K27 => ?_)
    refine seq_ (fun _ K28 => ?_)
    refine reg_ ?_
    refine sq (o_pv (.slice ar14 r9.length cr15) rfl (by kernel_rfl) ?_)
    refine sq (o_pv (.int .i64 (r9.length : Int)) rfl (by kernel_rfl) ?_)
    refine sq (o_pv (.int .i64 (0 : Int)) rfl (by kernel_rfl) ?_)
    refine nil_ ?_
    refine then_normal (K28 _ _ _ _ ?_)
    refine wp_block ?_
    have ha1272 := (Sl.step ha3 s13)
    have hb1273 := (Sl.step hb6 s13)
    have hXo1274 := (Old.step hXo s13)
    have E1275 := (Evo.then0 E0 e12)
    have hS1276 := (Sub.trans hS (Step.up s13))
    obtain ⟨I1262, m1263, hI1264, hp⟩ := hp
    refine loop_ 18446744073676009216 (fun kq lq w1266 => ∃ (X1267 : List Nat) (out630 : (List S_diff_Match)) (i635 : Int) (j637 : Int) (row639 : Bool) (s640 : Int) (a631 : Option Addr) (n632 : Nat) (c633 : Nat), (lq = [(8, (.slice a631 n632 c633)), (9, (.int .i64 i635)), (10, (.int .i64 j637)), (11, (.bool row639)), (25, (.int .i64 s640))]) ∧ (kq = m1263 out630 i635 j637 row639 s640) ∧ (Evo [] w w1266) ∧ (Old X1267 w1266) ∧ (Sub X X1267) ∧ (Sl r_diff_Edit X1267 w1266 ar14 cr15 r9) ∧ (OS r_diff_Match ([]) w.heap.size X1267 w1266 85 a631 n632 c633 out630) ∧ (inR .i64 i635) ∧ (inR .i64 j637) ∧ (inR .i64 s640) ∧ (I1262 out630 i635 j637 row639 s640)) (m1263 ([] : List S_diff_Match) (0 : Int) (0 : Int) false (0 : Int)) [(8, (.slice none 0 0)), (9, (.int .i64 (0 : Int))), (10, (.int .i64 (0 : Int))), (11, (.bool false)), (25, (.int .i64 (0 : Int)))] (vs_cons (by kernel_rfl) (vs_cons (by kernel_rfl) (vs_cons (by kernel_rfl) (vs_cons (by kernel_rfl) (vs_cons (by kernel_rfl) vs_nil))))) ⟨X, ([] : List S_diff_Match), (0 : Int), (0 : Int), false, (0 : Int), none, 0, 0, rfl, rfl, E1275, hXo1274, hS1276, hr16, (OS.nil _ _ _ _), (by decide : inR .i64 (0 : Int)), (by decide : inR .i64 (0 : Int)), (by decide : inR .i64 (0 : Int)), hI1264⟩ ?_
    rintro _ _ w1266 g1269 ⟨X1267, out630, i635, j637, row639, s640, a631, n632, c633, rfl, rfl, E1277, hXo1278, hS1279, hr1280, O634, ri636, rj638, rs641, hI1265⟩ Kl1270 hA1271
    replace hp := hp out630 i635 j637 row639 s640 hI1265 (OS.len O634) ri636 rj638 rs641
    refine seq_ (fun _ K1281 => ?_)
    refine reg_ ?_
    refine sq (o_pv (.bool (decide (s640 < (r9.length : Int)))) rfl (by kernel_rfl) ?_)
    refine nil_ ?_
    refine then_normal (K1281 _ _ _ _ ?_)
    refine seq_ (fun _ K1282 => ?_)
    refine cond_d (s640 < (r9.length : Int)) (by kernel_rfl) (fun h1283 => ?_) (fun h1283 => ?_)
    ·
      replace hp := hp.1 h1283
      refine wp_skip ?_
      refine then_normal (K1282 _ _ _ _ ?_)
      refine seq_ (fun _ K1284 => ?_)
      obtain ⟨k1585, hk1586, hp⟩ := hp
      refine ground_ ?_
      refine join_ 9223372036720570112 (fun lq w1587 => ∃ (X1588 : List Nat) (out1576 : (List S_diff_Match)) (i1581 : Int) (j1583 : Int) (a1577 : Option Addr) (n1578 : Nat) (c1579 : Nat), (lq = [(8, (.slice a1577 n1578 c1579)), (9, (.int .i64 i1581)), (10, (.int .i64 j1583)), (11, (.bool (decide (((lget r9 s640).Op) = (1 : Int)))))]) ∧ (Evo [] w w1587) ∧ (Old X1588 w1587) ∧ (Sub X X1588) ∧ (Sl r_diff_Edit X1588 w1587 ar14 cr15 r9) ∧ (OS r_diff_Match ([]) w.heap.size X1588 w1587 85 a1577 n1578 c1579 out1576) ∧ (inR .i64 i1581) ∧ (inR .i64 j1583) ∧ (k1585 out1576 i1581 j1583)) (fun Kj1589 hJ1590 => ?_) ?_
      ·
        refine wp_block ?_
        refine seq_ (fun _ K1596 => ?_)
        refine reg_ ?_
        obtain ⟨h1597, hp⟩ := hp
        obtain ⟨b1598, o1599, cs1600, ha1601, nx1602, lt1603, ok1604, hc1605⟩ := Sl.atI hr1280 s640 h1597
        obtain ⟨rfl, reOp1606, zeLine1607⟩ := r_diff_Edit_open ok1604
        replace hp := hp reOp1606
        replace hp := hp zeLine1607
        refine sq (o_pv (.pointer (some ⟨b1598, o1599 + s640.toNat * 2, none⟩)) rfl (x_ixA (m := r9.length) (c := cr15) (k := .i64) (i := s640) Tryd.underlying33 Tryd.sizeOf100 (by rw [← ha1601]; kernel_rfl) (by kernel_rfl) h1597) ?_)
        refine sq (o_pv (.agg #[(.int .i64 ((lget r9 s640).Op)), (.string ((lget r9 s640).Line))]) rfl (x_loadN [(.int .i64 ((lget r9 s640).Op)), (.string ((lget r9 s640).Line))] (by kernel_rfl) Tryd.isAgg100 Tryd.sizeOf100 hc1605) ?_)
        refine sq (o_newX [(.int .i64 (0 : Int)), (.string (ByteArray.mk #[]))] 100 (X := X1267) (B := w.heap.size) E1277.size rfl (by kernel_rfl) ?_)
        intro b1608 w1609 X1610 s1611 k1612 n1613
        have p1614 := n1613 _ (OS.old O634)
        have O1615 := (OS.step0 O634 s1611)
        have E1616 := (Evo.then0 E1277 (Step.evo s1611))
        refine sq (o_stB (o := 0) (v := (.agg #[(.int .i64 ((lget r9 s640).Op)), (.string ((lget r9 s640).Line))])) [(.int .i64 ((lget r9 s640).Op)), (.string ((lget r9 s640).Line))] rfl k1612 (by kernel_rfl) (by kernel_rfl) Tryd.sizeOf100 rfl rfl rfl ?_)
        intro w1617 s1618 k1619
        refine nil_ ?_
        refine then_normal (K1596 _ _ _ _ ?_)
        refine seq_ (fun _ K1620 => ?_)
        refine seq_ (fun _ K1621 => ?_)
        refine reg_ ?_
        refine sq (o_pv (.pointer (some ⟨b1608, 0, none⟩)) rfl (by kernel_rfl) ?_)
        refine sq (o_pv (.int .i64 ((lget r9 s640).Op)) rfl (x_load1 (by kernel_rfl) Tryd.isAgg3 (k1619.2.1.cell' 0 rfl)) ?_)
        refine sq (o_pv (.bool (decide (((lget r9 s640).Op) = (1 : Int)))) rfl (by kernel_rfl) ?_)
        refine nil_ ?_
        refine then_normal (K1621 _ _ _ _ ?_)
        have E1742 := (Evo.thenW E1616 (Step.evo s1618) k1612.2.2)
        have hXo1743 := (Old.step (Old.step hXo1278 s1611) s1618)
        have hS1744 := (Sub.trans (Sub.trans hS1279 (Step.up s1611)) (Step.up s1618))
        have hr1745 := (Sl.step (Sl.step hr1280 s1611) s1618)
        have O1746 := (OS.step O1615 s1618 p1614)
        obtain ⟨k1735, hk1736, hp⟩ := hp
        refine ground_ ?_
        refine join_ 1125895611875584 (fun lq w1737 => ∃ (X1738 : List Nat) (out1730 : (List S_diff_Match)) (a1731 : Option Addr) (n1732 : Nat) (c1733 : Nat), (lq = [(8, (.slice a1731 n1732 c1733))]) ∧ (Evo [] w w1737) ∧ (Old X1738 w1737) ∧ (Sub X X1738) ∧ (Sl r_diff_Edit X1738 w1737 ar14 cr15 r9) ∧ (OB ([]) w.heap.size X1738 w1737 b1608 [(.int .i64 ((lget r9 s640).Op)), (.string ((lget r9 s640).Line))] 100) ∧ (OS r_diff_Match ([]) w.heap.size X1738 w1737 85 a1731 n1732 c1733 out1730) ∧ (Ap ([b1608]) (blkL a1731)) ∧ (k1735 out1730)) (fun Kj1739 hJ1740 => ?_) ?_
        ·
          refine cond_d (((lget r9 s640).Op) = (1 : Int)) (by kernel_rfl) (fun h1753 => ?_) (fun h1753 => ?_)
          ·
            replace hp := hp.1 h1753
            refine seq_ (fun _ K1754 => ?_)
            refine seq_ (fun _ K1755 => ?_)
            refine reg_ ?_
            refine sq (o_pv (.bool row639) rfl (by kernel_rfl) ?_)
            refine sq (o_pv (.bool (!row639)) rfl (by kernel_rfl) ?_)
            refine nil_ ?_
            refine then_normal (K1755 _ _ _ _ ?_)
            obtain ⟨k1783, hk1784, hp⟩ := hp
            refine ground_ ?_
            refine join_ 1082331758848 (fun lq w1785 => ∃ (X1786 : List Nat) (out1778 : (List S_diff_Match)) (a1779 : Option Addr) (n1780 : Nat) (c1781 : Nat), (lq = [(8, (.slice a1779 n1780 c1781))]) ∧ (Evo [] w w1785) ∧ (Old X1786 w1785) ∧ (Sub X X1786) ∧ (Sl r_diff_Edit X1786 w1785 ar14 cr15 r9) ∧ (OB ([]) w.heap.size X1786 w1785 b1608 [(.int .i64 ((lget r9 s640).Op)), (.string ((lget r9 s640).Line))] 100) ∧ (OS r_diff_Match ([]) w.heap.size X1786 w1785 85 a1779 n1780 c1781 out1778) ∧ (Ap ([b1608]) (blkL a1779)) ∧ (k1783 out1778)) (fun Kj1787 hJ1788 => ?_) ?_
            ·
              refine cond_b (!row639) (by kernel_rfl) (fun h1796 => ?_) (fun h1796 => ?_)
              ·
                replace hp := hp.1 h1796
                refine reg_ ?_
                refine sq (o_pv (.slice a631 n632 c633) rfl (by kernel_rfl) ?_)
                refine sq (o_pv (.int .i64 i635) rfl (by kernel_rfl) ?_)
                refine sq (o_pv (.int .i64 j637) rfl (by kernel_rfl) ?_)
                refine sq (o_pv (.agg #[(.int .i64 i635), (.int .i64 j637), (.int .i64 (0 : Int))]) rfl (by kernel_rfl) ?_)
                refine sq (o_rowX (R := r_diff_Match) [(.int .i64 i635), (.int .i64 j637), (.int .i64 (0 : Int))] [(S_diff_Match.mk i635 j637 (0 : Int))] 85 1 (X := X1610) (B := w.heap.size) E1742.size rfl (by kernel_rfl) (Flat.cons (cs := [(.int .i64 i635), (.int .i64 j637), (.int .i64 (0 : Int))]) (r_diff_Match_mk ri636 rj638 (by decide : inR .i64 (0 : Int))) Flat.nil) rfl (by decide) ?_)
                intro b1797 w1798 X1799 s1800 O1801 n1802
                have p1803 := n1802 _ (OS.old O1746)
                have p1804 := n1802 _ (OB.old k1619)
                obtain ⟨h1805, hp⟩ := hp
                have O1806 := (OS.step0 O1746 s1800)
                have k1807 := (OB.step0 k1619 s1800)
                have E1808 := (Evo.then0 E1742 (Step.evo s1800))
                refine sq (o_appX (R := r_diff_Match) (X := X1799) (B := w.heap.size) (L := out630) (M := [(S_diff_Match.mk i635 j637 (0 : Int))]) rfl elT73 rfl E1808.size O1806 (OS.src O1801) O1801.1 (by kernel_rfl) (by kernel_rfl) h1805 ?_)
                intro a1809 n1810 c1811 w1812 X1813 s1814 O1815 gr1816
                have p1817 := gr1816 _ (Ap.symm p1614) (OB.old k1807)
                refine sq (o_pv (.slice a1809 n1810 c1811) rfl (by kernel_rfl) ?_)
                refine nil_ ?_
                have E1818 := (Evo.thenW E1808 (Step.evo s1814) O1806.2.2)
                have hXo1819 := (Old.step (Old.step hXo1743 s1800) s1814)
                have hS1820 := (Sub.trans (Sub.trans hS1744 (Step.up s1800)) (Step.up s1814))
                have hr1821 := (Sl.step (Sl.step hr1745 s1800) s1814)
                have k1822 := (OB.step k1807 s1814 (Ap.symm p1614))
                refine then_normal (hJ1788 _ _ _ ⟨[(8, (.slice a1809 n1810 c1811))], fit_mk (fun _ _ => rfl) (by kernel_rfl) (vs_cons (by kernel_rfl) vs_nil), ?_⟩)
                exact ⟨X1813, (out630 ++ ([(S_diff_Match.mk i635 j637 (0 : Int))])), a1809, n1810, c1811, rfl, E1818, hXo1819, hS1820, hr1821, k1822, O1815, p1817, hp⟩
              ·
                replace hp := hp.2 h1796
                refine wp_skip ?_
                refine then_normal (hJ1788 _ _ _ ⟨[(8, (.slice a631 n632 c633))], fit_mk (fun _ _ => rfl) (by kernel_rfl) (vs_cons (by kernel_rfl) vs_nil), ?_⟩)
                exact ⟨X1610, out630, a631, n632, c633, rfl, E1742, hXo1743, hS1744, hr1745, k1619, O1746, (Ap.symm p1614), hp⟩
            ·
              rintro _ w1785 g1823 ⟨X1786, out1778, a1779, n1780, c1781, rfl, E1790, hXo1791, hS1792, hr1793, k1794, O1782, p1795, hv1789⟩
              replace hp := hk1784 out1778 hv1789 (OS.len O1782)
              refine then_normal (K1754 _ _ _ _ ?_)
              refine reg_ ?_
              refine sq (o_pv (.slice a1779 n1780 c1781) rfl (by kernel_rfl) ?_)
              refine sq (o_pv (.slice a1779 n1780 c1781) rfl (by kernel_rfl) ?_)
              refine sq (o_pv (.int .i64 (out1778.length : Int)) rfl (by rw [← show n1780 = out1778.length from O1782.1]; kernel_rfl) ?_)
              obtain ⟨h1824, hp⟩ := hp
              refine sq (o_pv (.int .i64 ((out1778.length : Int) - (1 : Int))) rfl (x_sub2 (k := .i64) (a := (out1778.length : Int)) (b := (1 : Int)) ((out1778.length : Int) - (1 : Int)) (by kernel_rfl) (by kernel_rfl) (wrap_inR h1824)) ?_)
              obtain ⟨h1825, hp⟩ := hp
              obtain ⟨b1826, o1827, cs1828, ha1829, nx1830, lt1831, ok1832, hc1833⟩ := Sl.atI (OS.rd O1782) ((out1778.length : Int) - (1 : Int)) h1825
              obtain ⟨rfl, reA1834, reB1835, reN1836⟩ := r_diff_Match_open ok1832
              replace hp := hp reA1834
              replace hp := hp reB1835
              replace hp := hp reN1836
              refine sq (o_pv (.pointer (some ⟨b1826, o1827 + ((out1778.length : Int) - (1 : Int)).toNat * 3, none⟩)) rfl (x_ixA (m := n1780) (c := c1781) (k := .i64) (i := (out1778.length : Int) - (1 : Int)) Tryd.underlying73 Tryd.sizeOf85 (by rw [← ha1829]; kernel_rfl) (by kernel_rfl) ⟨h1825.1, by rw [O1782.1]; exact h1825.2⟩) ?_)
              refine sq (o_pv (.pointer (some ⟨b1826, o1827 + ((out1778.length : Int) - (1 : Int)).toNat * 3 + 2, none⟩)) rfl (by kernel_rfl) ?_)
              refine sq (o_pv (.int .i64 ((lget out1778 ((out1778.length : Int) - (1 : Int))).N)) rfl (x_load1 (by kernel_rfl) Tryd.isAgg3 (hc1833 2 _ rfl)) ?_)
              obtain ⟨h1837, hp⟩ := hp
              refine sq (o_pv (.int .i64 (((lget out1778 ((out1778.length : Int) - (1 : Int))).N) + (1 : Int))) rfl (x_add2 (k := .i64) (a := (lget out1778 ((out1778.length : Int) - (1 : Int))).N) (b := (1 : Int)) (((lget out1778 ((out1778.length : Int) - (1 : Int))).N) + (1 : Int)) (by kernel_rfl) (by kernel_rfl) (wrap_inR h1837)) ?_)
              obtain ⟨h1838, hp⟩ := hp
              obtain ⟨b1839, o1840, cs1841, ha1842, nx1843, lt1844, ok1845, hc1846⟩ := Sl.atI (OS.rd O1782) ((out1778.length : Int) - (1 : Int)) h1838
              obtain ⟨rfl, reA1847, reB1848, reN1849⟩ := r_diff_Match_open ok1845
              replace hp := hp reA1847
              replace hp := hp reB1848
              replace hp := hp reN1849
              refine sq (o_pv (.pointer (some ⟨b1839, o1840 + ((out1778.length : Int) - (1 : Int)).toNat * 3, none⟩)) rfl (x_ixA (m := n1780) (c := c1781) (k := .i64) (i := (out1778.length : Int) - (1 : Int)) Tryd.underlying73 Tryd.sizeOf85 (by rw [← ha1842]; kernel_rfl) (by kernel_rfl) ⟨h1838.1, by rw [O1782.1]; exact h1838.2⟩) ?_)
              refine sq (o_pv (.pointer (some ⟨b1839, o1840 + ((out1778.length : Int) - (1 : Int)).toNat * 3 + 2, none⟩)) rfl (by kernel_rfl) ?_)
              refine sq (o_stP (R := r_diff_Match) (o := o1840) (v := (.int .i64 (((lget out1778 ((out1778.length : Int) - (1 : Int))).N) + (1 : Int)))) (cs := [(.int .i64 ((lget out1778 ((out1778.length : Int) - (1 : Int))).A)), (.int .i64 ((lget out1778 ((out1778.length : Int) - (1 : Int))).B)), (.int .i64 ((lget out1778 ((out1778.length : Int) - (1 : Int))).N))]) ((out1778.length : Int) - (1 : Int)) 2 [(.int .i64 ((lget out1778 ((out1778.length : Int) - (1 : Int))).A)), (.int .i64 ((lget out1778 ((out1778.length : Int) - (1 : Int))).B)), (.int .i64 (((lget out1778 ((out1778.length : Int) - (1 : Int))).N) + (1 : Int)))] (S_diff_Match.mk ((lget out1778 ((out1778.length : Int) - (1 : Int))).A) ((lget out1778 ((out1778.length : Int) - (1 : Int))).B) (((lget out1778 ((out1778.length : Int) - (1 : Int))).N) + (1 : Int))) rfl O1782 ha1842 h1838 hc1846 rfl (by kernel_rfl) (by kernel_rfl) Tryd.sizeOf3 rfl rfl rfl (fun _ => (r_diff_Match_mk reA1847 reB1848 h1837)) ?_)
              intro w1850 s1851 O1852
              obtain ⟨l1853, ql1853⟩ : ∃ y, y = (lset out1778 ((out1778.length : Int) - (1 : Int)) (S_diff_Match.mk ((lget out1778 ((out1778.length : Int) - (1 : Int))).A) ((lget out1778 ((out1778.length : Int) - (1 : Int))).B) (((lget out1778 ((out1778.length : Int) - (1 : Int))).N) + (1 : Int)))) := ⟨_, rfl⟩
              replace hp := hp l1853 ql1853
              rw [← ql1853] at O1852
              refine nil_ ?_
              have E1854 := (Evo.thenW E1790 (Step.evo s1851) O1782.2.2)
              have hXo1855 := (Old.step hXo1791 s1851)
              have hS1856 := (Sub.trans hS1792 (Step.up s1851))
              have hr1857 := (Sl.step hr1793 s1851)
              have k1858 := (OB.step k1794 s1851 p1795)
              refine then_normal (hJ1740 _ _ _ ⟨[(8, (.slice a1779 n1780 c1781))], fit_mk (AgB.nest (AgB.look (fun _ _ => rfl) (by kernel_rfl)) (by kernel_rfl) (by kernel_rfl)) (by kernel_rfl) (vs_cons (by kernel_rfl) vs_nil), ?_⟩)
              exact ⟨X1786, l1853, a1779, n1780, c1781, rfl, E1854, hXo1855, hS1856, hr1857, k1858, O1852, p1795, hp⟩
          ·
            replace hp := hp.2 h1753
            refine wp_skip ?_
            refine then_normal (hJ1740 _ _ _ ⟨[(8, (.slice a631 n632 c633))], fit_mk (fun _ _ => rfl) (by kernel_rfl) (vs_cons (by kernel_rfl) vs_nil), ?_⟩)
            exact ⟨X1610, out630, a631, n632, c633, rfl, E1742, hXo1743, hS1744, hr1745, k1619, O1746, (Ap.symm p1614), hp⟩
        ·
          rintro _ w1737 g1859 ⟨X1738, out1730, a1731, n1732, c1733, rfl, E1747, hXo1748, hS1749, hr1750, k1751, O1734, p1752, hv1741⟩
          replace hp := hk1736 out1730 hv1741 (OS.len O1734)
          refine then_normal (K1620 _ _ _ _ ?_)
          refine seq_ (fun _ K1860 => ?_)
          refine reg_ ?_
          refine sq (o_pv (.pointer (some ⟨b1608, 0, none⟩)) rfl (by kernel_rfl) ?_)
          refine sq (o_pv (.int .i64 ((lget r9 s640).Op)) rfl (x_load1 (by kernel_rfl) Tryd.isAgg3 (k1751.2.1.cell' 0 rfl)) ?_)
          refine sq (o_pv (.bool (decide (((lget r9 s640).Op) = (1 : Int)))) rfl (by kernel_rfl) ?_)
          refine sq (o_pv (.bool (decide (((lget r9 s640).Op) = (1 : Int)))) rfl (by kernel_rfl) ?_)
          refine nil_ ?_
          refine then_normal (K1860 _ _ _ _ ?_)
          refine seq_ (fun _ K1861 => ?_)
          refine seq_ (fun _ K1862 => ?_)
          refine reg_ ?_
          refine sq (o_pv (.pointer (some ⟨b1608, 0, none⟩)) rfl (by kernel_rfl) ?_)
          refine sq (o_pv (.int .i64 ((lget r9 s640).Op)) rfl (x_load1 (by kernel_rfl) Tryd.isAgg3 (k1751.2.1.cell' 0 rfl)) ?_)
          refine sq (o_pv (.bool (!decide (((lget r9 s640).Op) = (3 : Int)))) rfl (by kernel_rfl) ?_)
          refine nil_ ?_
          refine then_normal (K1862 _ _ _ _ ?_)
          obtain ⟨k1867, hk1868, hp⟩ := hp
          refine ground_ ?_
          refine join_ 216172782113784320 (fun lq w1869 => ∃ (X1870 : List Nat) (i1865 : Int), (lq = [(9, (.int .i64 i1865))]) ∧ (Evo [] w w1869) ∧ (Old X1870 w1869) ∧ (Sub X X1870) ∧ (OS r_diff_Match ([]) w.heap.size X1870 w1869 85 a1731 n1732 c1733 out1730) ∧ (Sl r_diff_Edit X1870 w1869 ar14 cr15 r9) ∧ (OB ([]) w.heap.size X1870 w1869 b1608 [(.int .i64 ((lget r9 s640).Op)), (.string ((lget r9 s640).Line))] 100) ∧ (Ap (blkL a1731) ([b1608])) ∧ (inR .i64 i1865) ∧ (k1867 i1865)) (fun Kj1871 hJ1872 => ?_) ?_
          ·
            refine cond_nd (((lget r9 s640).Op) = (3 : Int)) (by kernel_rfl) (fun h1881 => ?_) (fun h1881 => ?_)
            ·
              replace hp := hp.1 h1881
              refine reg_ ?_
              refine sq (o_pv (.int .i64 i635) rfl (by kernel_rfl) ?_)
              obtain ⟨h1882, hp⟩ := hp
              refine sq (o_pv (.int .i64 (i635 + (1 : Int))) rfl (x_add2 (k := .i64) (a := i635) (b := (1 : Int)) (i635 + (1 : Int)) (by kernel_rfl) (by kernel_rfl) (wrap_inR h1882)) ?_)
              refine sq (o_pv (.int .i64 (i635 + (1 : Int))) rfl (by kernel_rfl) ?_)
              refine nil_ ?_
              refine then_normal (hJ1872 _ _ _ ⟨[(9, (.int .i64 (i635 + (1 : Int))))], fit_mk (fun _ _ => rfl) (by kernel_rfl) (vs_cons (by kernel_rfl) vs_nil), ?_⟩)
              exact ⟨X1738, (i635 + (1 : Int)), rfl, E1747, hXo1748, hS1749, O1734, hr1750, k1751, (Ap.symm p1752), h1882, hp⟩
            ·
              replace hp := hp.2 h1881
              refine wp_skip ?_
              refine then_normal (hJ1872 _ _ _ ⟨[(9, (.int .i64 i635))], fit_mk (fun _ _ => rfl) (by kernel_rfl) (vs_cons (by kernel_rfl) vs_nil), ?_⟩)
              exact ⟨X1738, i635, rfl, E1747, hXo1748, hS1749, O1734, hr1750, k1751, (Ap.symm p1752), ri636, hp⟩
          ·
            rintro _ w1869 g1883 ⟨X1870, i1865, rfl, E1874, hXo1875, hS1876, O1877, hr1878, k1879, p1880, ri1866, hv1873⟩
            replace hp := hk1868 i1865 hv1873 ri1866
            refine then_normal (K1861 _ _ _ _ ?_)
            refine seq_ (fun _ K1884 => ?_)
            refine reg_ ?_
            refine sq (o_pv (.pointer (some ⟨b1608, 0, none⟩)) rfl (by kernel_rfl) ?_)
            refine sq (o_pv (.int .i64 ((lget r9 s640).Op)) rfl (x_load1 (by kernel_rfl) Tryd.isAgg3 (k1879.2.1.cell' 0 rfl)) ?_)
            refine sq (o_pv (.bool (!decide (((lget r9 s640).Op) = (2 : Int)))) rfl (by kernel_rfl) ?_)
            refine nil_ ?_
            refine then_normal (K1884 _ _ _ _ ?_)
            refine cond_nd (((lget r9 s640).Op) = (2 : Int)) (by kernel_rfl) (fun h1885 => ?_) (fun h1885 => ?_)
            ·
              replace hp := hp.1 h1885
              refine reg_ ?_
              refine sq (o_pv (.int .i64 j637) rfl (by kernel_rfl) ?_)
              obtain ⟨h1886, hp⟩ := hp
              refine sq (o_pv (.int .i64 (j637 + (1 : Int))) rfl (x_add2 (k := .i64) (a := j637) (b := (1 : Int)) (j637 + (1 : Int)) (by kernel_rfl) (by kernel_rfl) (wrap_inR h1886)) ?_)
              refine sq (o_pv (.int .i64 (j637 + (1 : Int))) rfl (by kernel_rfl) ?_)
              refine nil_ ?_
              refine blk_normal ?_
              refine then_normal (hJ1590 _ _ _ ⟨[(8, (.slice a1731 n1732 c1733)), (9, (.int .i64 i1865)), (10, (.int .i64 (j637 + (1 : Int)))), (11, (.bool (decide (((lget r9 s640).Op) = (1 : Int)))))], fit_mk (AgB.nest (AgB.look (AgB.nest (AgB.look (fun _ _ => rfl) (by kernel_rfl)) (by kernel_rfl) (by kernel_rfl)) (by kernel_rfl)) (by kernel_rfl) (by kernel_rfl)) (by kernel_rfl) (vs_cons (by kernel_rfl) (vs_cons (by kernel_rfl) (vs_cons (by kernel_rfl) (vs_cons (by kernel_rfl) vs_nil)))), ?_⟩)
              exact ⟨X1870, out1730, i1865, (j637 + (1 : Int)), a1731, n1732, c1733, rfl, E1874, hXo1875, hS1876, hr1878, O1877, ri1866, h1886, hp⟩
            ·
              replace hp := hp.2 h1885
              refine wp_skip ?_
              refine blk_normal ?_
              refine then_normal (hJ1590 _ _ _ ⟨[(8, (.slice a1731 n1732 c1733)), (9, (.int .i64 i1865)), (10, (.int .i64 j637)), (11, (.bool (decide (((lget r9 s640).Op) = (1 : Int)))))], fit_mk (AgB.nest (AgB.look (AgB.nest (AgB.look (fun _ _ => rfl) (by kernel_rfl)) (by kernel_rfl) (by kernel_rfl)) (by kernel_rfl)) (by kernel_rfl) (by kernel_rfl)) (by kernel_rfl) (vs_cons (by kernel_rfl) (vs_cons (by kernel_rfl) (vs_cons (by kernel_rfl) (vs_cons (by kernel_rfl) vs_nil)))), ?_⟩)
              exact ⟨X1870, out1730, i1865, j637, a1731, n1732, c1733, rfl, E1874, hXo1875, hS1876, hr1878, O1877, ri1866, rj638, hp⟩
      ·
        rintro _ w1587 g1887 ⟨X1588, out1576, i1581, j1583, a1577, n1578, c1579, rfl, E1592, hXo1593, hS1594, hr1595, O1580, ri1582, rj1584, hv1591⟩
        replace hp := hk1586 out1576 i1581 j1583 hv1591 (OS.len O1580) ri1582 rj1584
        refine then_normal (K1284 _ _ _ _ ?_)
        refine reg_ ?_
        obtain ⟨h1888, hp⟩ := hp
        refine sq (o_pv (.int .i64 (s640 + (1 : Int))) rfl (x_add2 (k := .i64) (a := s640) (b := (1 : Int)) (s640 + (1 : Int)) (by kernel_rfl) (by kernel_rfl) (wrap_inR h1888)) ?_)
        refine sq (o_pv (.int .i64 (s640 + (1 : Int))) rfl (by kernel_rfl) ?_)
        refine nil_ ?_
        refine then_normal (hA1271 _ _ _ ⟨_, [(8, (.slice a1577 n1578 c1579)), (9, (.int .i64 i1581)), (10, (.int .i64 j1583)), (11, (.bool (decide (((lget r9 s640).Op) = (1 : Int))))), (25, (.int .i64 (s640 + (1 : Int))))], hp.2, fit_mk (AgB.nest (AgB.look (AgB.mix _ _ _) (by kernel_rfl)) (by kernel_rfl) (by kernel_rfl)) (by kernel_rfl) (vs_cons (by kernel_rfl) (vs_cons (by kernel_rfl) (vs_cons (by kernel_rfl) (vs_cons (by kernel_rfl) (vs_cons (by kernel_rfl) vs_nil))))), ?_⟩)
        exact ⟨X1588, out1576, i1581, j1583, (decide (((lget r9 s640).Op) = (1 : Int))), (s640 + (1 : Int)), a1577, n1578, c1579, rfl, rfl, E1592, hXo1593, hS1594, hr1595, O1580, ri1582, rj1584, h1888, hp.1⟩
    ·
      replace hp := hp.2 h1283
      refine wp_exit ?_
      refine then_exit ?_
      refine then_exit ?_
      refine blk_exit ?_
      refine then_normal (K27 _ _ _ _ ?_)
      refine seq_ (fun _ K1889 => ?_)
      refine reg_ ?_
      refine sq (o_pv (.slice a631 n632 c633) rfl (by kernel_rfl) ?_)
      have ax1894 := OS.apold O634 hX0
      obtain ⟨X1890, u1891, r1892, hm1893⟩ := OS.release O634
      obtain rfl : n632 = out630.length := O634.1
      have hXo1895 := (Old.less hXo1278 u1891)
      refine sq (o_call 80 #[(.slice a631 out630.length c633)] rfl (x_call Tryd.call80 (by kernel_rfl)) (slices_Clip_diff_Match_diff_Match_w (X := X1890) (s := out630) hXo1895 r1892 hp) ?_)
      rintro _ w1897 ⟨r1896, hp, e1898, ar1900, rfl, hr1901⟩
      have s1899 := Step.of0 X1890 e1898
      replace hp := hp (Sl.len hr1901)
      refine sq (o_pv (.slice ar1900 r1896.length r1896.length) rfl (by kernel_rfl) ?_)
      refine sq (o_pv .nilIface rfl (by kernel_rfl) ?_)
      refine nil_ ?_
      refine then_normal (K1889 _ _ _ _ ?_)
      refine wp_ret ?_
      have hS1902 := (Sub.trans (hm1893 _ ax1894 hS1279) (Step.up s1899))
      have E1903 := (Evo.then0 E1277 e1898)
      refine end_ret hQ (.tuple #[(.slice ar1900 r1896.length r1896.length), .nilIface]) (by kernel_rfl) ?_
      exact ⟨r1896, PErr.nil, hp, E1903, ar1900, r1896.length, .nilIface, rfl, (Sl.less hr1901 hS1902), rErr_nil⟩

def diff_Common_p (a : (List ByteArray)) (b : (List ByteArray)) (Q : Int → PErr → Prop) : Prop :=
  ((a.length ≤ 9223372036854775807) → ((b.length ≤ 9223372036854775807) → (diff_made_p a b (fun (r9 : (Option S_diff_table)) (r10 : PErr) => ((((!r10.isNil) = true) → Q (0 : Int) r10) ∧ (((!r10.isNil) = false) → (∃ d25 : S_diff_table, (r9 = some d25) ∧ ((d25.a.length ≤ 9223372036854775807) → ((d25.b.length ≤ 9223372036854775807) → ((d25.n.length ≤ 9223372036854775807) → (diff_table_at_p d25 (0 : Int) (0 : Int) (fun (r42 : Int) => ((inR .i64 r42) → Q r42 PErr.nil)))))))))))))
set_option maxRecDepth 20000 in
set_option maxHeartbeats 4000000 in
theorem diff_Common_w {X : List Nat} {w : World} {a : (List ByteArray)} {b : (List ByteArray)} {aa1 : Option Addr} {ca2 : Nat} {ab4 : Option Addr} {cb5 : Nat} {Q : Int → PErr → Prop} (hX0 : Old X w) (ha3 : Sl rStr X w aa1 ca2 a) (hb6 : Sl rStr X w ab4 cb5 b) (hp : diff_Common_p a b Q) :
    Calls Tryd.prog 40 #[(.slice aa1 a.length ca2), (.slice ab4 b.length cb5)] w (Ret fun v w' => ∃ (r0 : Int) (r1 : PErr), Q r0 r1 ∧ Evo [] w w' ∧ ∃ (vq12 : Value), v = .tuple #[(.int .i64 r0), vq12] ∧ inR .i64 r0 ∧ (rErr 63 122 124).ok X w' ([vq12]) r1) := by
  have hXo := hX0
  have E0 : Evo [] w w := RB.refl _ _ _
  have hS : Sub X X := Sub.refl _
  unfold diff_Common_p at hp
  refine enter_ Tryd.func40 rfl 19 [(0, (.slice aa1 a.length ca2)), (1, (.slice ab4 b.length cb5))] (by kernel_rfl) (fun Qe hQ => ?_)
  replace hp := hp (Sl.len ha3)
  replace hp := hp (Sl.len hb6)
  refine seq_ (fun _ K7 => ?_)
  refine reg_ ?_
  refine sq (o_pv (.int .i64 (0 : Int)) rfl (by kernel_rfl) ?_)
  refine sq (o_pv .nilIface rfl (by kernel_rfl) ?_)
  refine nil_ ?_
  refine then_normal (K7 _ _ _ _ ?_)
  refine seq_ (fun _ K8 => ?_)
  refine reg_ ?_
  refine sq (o_pv (.slice aa1 a.length ca2) rfl (by kernel_rfl) ?_)
  refine sq (o_pv (.slice ab4 b.length cb5) rfl (by kernel_rfl) ?_)
  refine sq (o_call 77 #[(.slice aa1 a.length ca2), (.slice ab4 b.length cb5)] rfl (x_call Tryd.call77 (by kernel_rfl)) (diff_made_w (X := X) (a := a) (b := b) hXo ha3 hb6 hp) ?_)
  rintro _ w11 ⟨r9, r10, hp, e12, vr14, vr16, rfl, hr15, hr17⟩
  have s13 := Step.of0 X e12
  refine sq (o_pv (.tuple #[vr14, vr16]) rfl (by kernel_rfl) ?_)
  refine sq (o_pv vr14 rfl (by kernel_rfl) ?_)
  refine sq (o_pv vr16 rfl (by kernel_rfl) ?_)
  refine sq (o_pv vr14 rfl (by kernel_rfl) ?_)
  refine sq (o_pv vr16 rfl (by kernel_rfl) ?_)
  refine nil_ ?_
  refine then_normal (K8 _ _ _ _ ?_)
  refine seq_ (fun _ K18 => ?_)
  refine seq_ (fun _ K19 => ?_)
  refine reg_ ?_
  refine sq (o_pv vr16 rfl (by kernel_rfl) ?_)
  refine sq (o_pv (.bool (!r10.isNil)) rfl (x_err_ne r10 hr17 Tryd.underlying43 (by kernel_rfl)) ?_)
  refine nil_ ?_
  refine then_normal (K19 _ _ _ _ ?_)
  refine cond_b (!r10.isNil) (by kernel_rfl) (fun h20 => ?_) (fun h20 => ?_)
  ·
    replace hp := hp.1 h20
    refine seq_ (fun _ K21 => ?_)
    refine reg_ ?_
    refine sq (o_pv vr16 rfl (by kernel_rfl) ?_)
    refine sq (o_pv (.int .i64 (0 : Int)) rfl (by kernel_rfl) ?_)
    refine sq (o_pv vr16 rfl (by kernel_rfl) ?_)
    refine nil_ ?_
    refine then_normal (K21 _ _ _ _ ?_)
    refine wp_ret ?_
    refine then_ret ?_
    have hS22 := (Sub.trans hS (Step.up s13))
    have E23 := (Evo.then0 E0 e12)
    refine end_ret hQ (.tuple #[(.int .i64 (0 : Int)), vr16]) (by kernel_rfl) ?_
    exact ⟨(0 : Int), r10, hp, E23, vr16, rfl, (by decide : inR .i64 (0 : Int)), (Rep.less (rErr 63 122 124) hr17 hS22)⟩
  ·
    replace hp := hp.2 h20
    refine wp_skip ?_
    refine then_normal (K18 _ _ _ _ ?_)
    refine seq_ (fun _ K24 => ?_)
    refine reg_ ?_
    refine sq (o_pv vr14 rfl (by kernel_rfl) ?_)
    obtain ⟨d25, h26, hp⟩ := hp
    rw [h26] at hr15
    obtain ⟨b27, cs28, hvb27, nb29, k30, ok31⟩ := hr15
    injection hvb27 with hvb27 _; subst hvb27
    obtain ⟨apa32, cpa33, apb35, cpb36, apn38, cpn39, rfl, hpa34, hpb37, hpn40⟩ := r_diff_table_open ok31
    replace hp := hp (Sl.len hpa34)
    replace hp := hp (Sl.len hpb37)
    replace hp := hp (Sl.len hpn40)
    have k41 := (⟨nb29, k30⟩ : RO _ _ _ _ _)
    refine sq (o_call 81 #[(.pointer (some ⟨b27, 0, none⟩)), (.int .i64 (0 : Int)), (.int .i64 (0 : Int))] rfl (x_call Tryd.call81 (by kernel_rfl)) (diff_table_at_w (X := []) (t := d25) (i := (0 : Int)) (j := (0 : Int)) (Old.nil _) ⟨(fun hm => by cases hm), k41.2⟩ (Sl.less hpa34 (Sub.nil _)) (Sl.less hpb37 (Sub.nil _)) (Sl.less hpn40 (Sub.nil _)) (by decide : inR .i64 (0 : Int)) (by decide : inR .i64 (0 : Int)) hp) ?_)
    rintro _ w43 ⟨r42, hp, e44, rfl, rr46⟩
    have s45 := Step.of0 X e44
    replace hp := hp rr46
    refine sq (o_pv (.int .i64 r42) rfl (by kernel_rfl) ?_)
    refine sq (o_pv .nilIface rfl (by kernel_rfl) ?_)
    refine nil_ ?_
    refine then_normal (K24 _ _ _ _ ?_)
    refine wp_ret ?_
    have E47 := (Evo.then0 (Evo.then0 E0 e12) e44)
    refine end_ret hQ (.tuple #[(.int .i64 r42), .nilIface]) (by kernel_rfl) ?_
    exact ⟨r42, PErr.nil, hp, E47, .nilIface, rfl, rr46, rErr_nil⟩

def diff_Cost_p (l : (List S_diff_Edit)) (Q : Int → Prop) : Prop :=
  ((l.length ≤ 9223372036854775807) → (∃ (I93 : Int → Int → Prop) (m94 : Int → Int → Nat), (I93 (0 : Int) (0 : Int)) ∧ (∀ (n_8 : Int) (s10 : Int), (I93 n_8 s10) → (inR .i64 n_8) → (inR .i64 s10) → (((s10 < (l.length : Int)) → (∃ k138 : Int → Prop, (∀ (n_136 : Int), k138 n_136 → (inR .i64 n_136) → ((inR .i64 (s10 + (1 : Int))) ∧ ((I93 n_136 (s10 + (1 : Int))) ∧ m94 n_136 (s10 + (1 : Int)) < m94 n_8 s10))) ∧ ((inL l s10) ∧ ((inR .i64 ((lget l s10).Op)) → ((((lget l s10).Line).size ≤ maxLen) → (((¬ (((lget l s10).Op) = (1 : Int))) → ((inR .i64 (n_8 + (1 : Int))) ∧ (k138 (n_8 + (1 : Int))))) ∧ ((((lget l s10).Op) = (1 : Int)) → (k138 n_8)))))))) ∧ ((¬ (s10 < (l.length : Int))) → Q n_8)))))
set_option maxRecDepth 20000 in
set_option maxHeartbeats 4000000 in
theorem diff_Cost_w {X : List Nat} {w : World} {l : (List S_diff_Edit)} {al1 : Option Addr} {cl2 : Nat} {Q : Int → Prop} (hX0 : Old X w) (hl3 : Sl r_diff_Edit X w al1 cl2 l) (hp : diff_Cost_p l Q) :
    Calls Tryd.prog 45 #[(.slice al1 l.length cl2)] w (Ret fun v w' => ∃ (r0 : Int), Q r0 ∧ Evo [] w w' ∧ v = (.int .i64 r0) ∧ inR .i64 r0) := by
  have hXo := hX0
  have E0 : Evo [] w w := RB.refl _ _ _
  have hS : Sub X X := Sub.refl _
  unfold diff_Cost_p at hp
  refine enter_ Tryd.func45 rfl 19 [(0, (.slice al1 l.length cl2))] (by kernel_rfl) (fun Qe hQ => ?_)
  replace hp := hp (Sl.len hl3)
  refine seq_ (fun _ K4 => ?_)
  refine reg_ ?_
  refine sq (o_pv (.int .i64 (0 : Int)) rfl (by kernel_rfl) ?_)
  refine nil_ ?_
  refine then_normal (K4 _ _ _ _ ?_)
  refine seq_ (fun _ K5 => ?_)
  refine reg_ ?_
  refine sq (o_pv (.int .i64 (0 : Int)) rfl (by kernel_rfl) ?_)
  refine nil_ ?_
  refine then_normal (K5 _ _ _ _ ?_)
  refine seq_ (fun _ K6 => ?_)
  refine seq_ (fun _ K7 => ?_)
  refine reg_ ?_
  refine sq (o_pv (.slice al1 l.length cl2) rfl (by kernel_rfl) ?_)
  refine sq (o_pv (.int .i64 (l.length : Int)) rfl (by kernel_rfl) ?_)
  refine sq (o_pv (.int .i64 (0 : Int)) rfl (by kernel_rfl) ?_)
  refine nil_ ?_
  refine then_normal (K7 _ _ _ _ ?_)
  refine wp_block ?_
  obtain ⟨I93, m94, hI95, hp⟩ := hp
  refine loop_ 261928 (fun kq lq w97 => ∃ (X98 : List Nat) (n_8 : Int) (s10 : Int), (lq = [(3, (.int .i64 n_8)), (8, (.int .i64 s10))]) ∧ (kq = m94 n_8 s10) ∧ (Evo [] w w97) ∧ (Old X98 w97) ∧ (Sub X X98) ∧ (Sl r_diff_Edit X98 w97 al1 cl2 l) ∧ (inR .i64 n_8) ∧ (inR .i64 s10) ∧ (I93 n_8 s10)) (m94 (0 : Int) (0 : Int)) [(3, (.int .i64 (0 : Int))), (8, (.int .i64 (0 : Int)))] (vs_cons (by kernel_rfl) (vs_cons (by kernel_rfl) vs_nil)) ⟨X, (0 : Int), (0 : Int), rfl, rfl, E0, hXo, hS, hl3, (by decide : inR .i64 (0 : Int)), (by decide : inR .i64 (0 : Int)), hI95⟩ ?_
  rintro _ _ w97 g100 ⟨X98, n_8, s10, rfl, rfl, E103, hXo104, hS105, hl106, rn_9, rs11, hI96⟩ Kl101 hA102
  replace hp := hp n_8 s10 hI96 rn_9 rs11
  refine seq_ (fun _ K107 => ?_)
  refine reg_ ?_
  refine sq (o_pv (.bool (decide (s10 < (l.length : Int)))) rfl (by kernel_rfl) ?_)
  refine nil_ ?_
  refine then_normal (K107 _ _ _ _ ?_)
  refine seq_ (fun _ K108 => ?_)
  refine cond_d (s10 < (l.length : Int)) (by kernel_rfl) (fun h109 => ?_) (fun h109 => ?_)
  ·
    replace hp := hp.1 h109
    refine wp_skip ?_
    refine then_normal (K108 _ _ _ _ ?_)
    refine seq_ (fun _ K110 => ?_)
    obtain ⟨k138, hk139, hp⟩ := hp
    refine ground_ ?_
    refine join_ 130088 (fun lq w140 => ∃ (X141 : List Nat) (n_136 : Int), (lq = [(3, (.int .i64 n_136))]) ∧ (Evo [] w w140) ∧ (Old X141 w140) ∧ (Sub X X141) ∧ (Sl r_diff_Edit X141 w140 al1 cl2 l) ∧ (inR .i64 n_136) ∧ (k138 n_136)) (fun Kj142 hJ143 => ?_) ?_
    ·
      refine wp_block ?_
      refine seq_ (fun _ K149 => ?_)
      refine reg_ ?_
      obtain ⟨h150, hp⟩ := hp
      obtain ⟨b151, o152, cs153, ha154, nx155, lt156, ok157, hc158⟩ := Sl.atI hl106 s10 h150
      obtain ⟨rfl, reOp159, zeLine160⟩ := r_diff_Edit_open ok157
      replace hp := hp reOp159
      replace hp := hp zeLine160
      refine sq (o_pv (.pointer (some ⟨b151, o152 + s10.toNat * 2, none⟩)) rfl (x_ixA (m := l.length) (c := cl2) (k := .i64) (i := s10) Tryd.underlying33 Tryd.sizeOf100 (by rw [← ha154]; kernel_rfl) (by kernel_rfl) h150) ?_)
      refine sq (o_pv (.agg #[(.int .i64 ((lget l s10).Op)), (.string ((lget l s10).Line))]) rfl (x_loadN [(.int .i64 ((lget l s10).Op)), (.string ((lget l s10).Line))] (by kernel_rfl) Tryd.isAgg100 Tryd.sizeOf100 hc158) ?_)
      refine sq (o_newX [(.int .i64 (0 : Int)), (.string (ByteArray.mk #[]))] 100 (X := X98) (B := w.heap.size) E103.size rfl (by kernel_rfl) ?_)
      intro b161 w162 X163 s164 k165 n166
      have E167 := (Evo.then0 E103 (Step.evo s164))
      refine sq (o_stB (o := 0) (v := (.agg #[(.int .i64 ((lget l s10).Op)), (.string ((lget l s10).Line))])) [(.int .i64 ((lget l s10).Op)), (.string ((lget l s10).Line))] rfl k165 (by kernel_rfl) (by kernel_rfl) Tryd.sizeOf100 rfl rfl rfl ?_)
      intro w168 s169 k170
      refine nil_ ?_
      refine then_normal (K149 _ _ _ _ ?_)
      refine seq_ (fun _ K171 => ?_)
      refine reg_ ?_
      refine sq (o_pv (.pointer (some ⟨b161, 0, none⟩)) rfl (by kernel_rfl) ?_)
      refine sq (o_pv (.int .i64 ((lget l s10).Op)) rfl (x_load1 (by kernel_rfl) Tryd.isAgg3 (k170.2.1.cell' 0 rfl)) ?_)
      refine sq (o_pv (.bool (!decide (((lget l s10).Op) = (1 : Int)))) rfl (by kernel_rfl) ?_)
      refine nil_ ?_
      refine then_normal (K171 _ _ _ _ ?_)
      refine cond_nd (((lget l s10).Op) = (1 : Int)) (by kernel_rfl) (fun h172 => ?_) (fun h172 => ?_)
      ·
        replace hp := hp.1 h172
        refine reg_ ?_
        refine sq (o_pv (.int .i64 n_8) rfl (by kernel_rfl) ?_)
        obtain ⟨h173, hp⟩ := hp
        refine sq (o_pv (.int .i64 (n_8 + (1 : Int))) rfl (x_add2 (k := .i64) (a := n_8) (b := (1 : Int)) (n_8 + (1 : Int)) (by kernel_rfl) (by kernel_rfl) (wrap_inR h173)) ?_)
        refine sq (o_pv (.int .i64 (n_8 + (1 : Int))) rfl (by kernel_rfl) ?_)
        refine nil_ ?_
        refine blk_normal ?_
        have E174 := (Evo.thenW E167 (Step.evo s169) k165.2.2)
        have hXo175 := (Old.step (Old.step hXo104 s164) s169)
        have hS176 := (Sub.trans (Sub.trans hS105 (Step.up s164)) (Step.up s169))
        have hl177 := (Sl.step (Sl.step hl106 s164) s169)
        refine then_normal (hJ143 _ _ _ ⟨[(3, (.int .i64 (n_8 + (1 : Int))))], fit_mk (fun _ _ => rfl) (by kernel_rfl) (vs_cons (by kernel_rfl) vs_nil), ?_⟩)
        exact ⟨X163, (n_8 + (1 : Int)), rfl, E174, hXo175, hS176, hl177, h173, hp⟩
      ·
        replace hp := hp.2 h172
        refine wp_skip ?_
        refine blk_normal ?_
        have E178 := (Evo.thenW E167 (Step.evo s169) k165.2.2)
        have hXo179 := (Old.step (Old.step hXo104 s164) s169)
        have hS180 := (Sub.trans (Sub.trans hS105 (Step.up s164)) (Step.up s169))
        have hl181 := (Sl.step (Sl.step hl106 s164) s169)
        refine then_normal (hJ143 _ _ _ ⟨[(3, (.int .i64 n_8))], fit_mk (fun _ _ => rfl) (by kernel_rfl) (vs_cons (by kernel_rfl) vs_nil), ?_⟩)
        exact ⟨X163, n_8, rfl, E178, hXo179, hS180, hl181, rn_9, hp⟩
    ·
      rintro _ w140 g182 ⟨X141, n_136, rfl, E145, hXo146, hS147, hl148, rn_137, hv144⟩
      replace hp := hk139 n_136 hv144 rn_137
      refine then_normal (K110 _ _ _ _ ?_)
      refine reg_ ?_
      obtain ⟨h183, hp⟩ := hp
      refine sq (o_pv (.int .i64 (s10 + (1 : Int))) rfl (x_add2 (k := .i64) (a := s10) (b := (1 : Int)) (s10 + (1 : Int)) (by kernel_rfl) (by kernel_rfl) (wrap_inR h183)) ?_)
      refine sq (o_pv (.int .i64 (s10 + (1 : Int))) rfl (by kernel_rfl) ?_)
      refine nil_ ?_
      refine then_normal (hA102 _ _ _ ⟨_, [(3, (.int .i64 n_136)), (8, (.int .i64 (s10 + (1 : Int))))], hp.2, fit_mk (AgB.nest (AgB.look (AgB.mix _ _ _) (by kernel_rfl)) (by kernel_rfl) (by kernel_rfl)) (by kernel_rfl) (vs_cons (by kernel_rfl) (vs_cons (by kernel_rfl) vs_nil)), ?_⟩)
      exact ⟨X141, n_136, (s10 + (1 : Int)), rfl, rfl, E145, hXo146, hS147, hl148, rn_137, h183, hp.1⟩
  ·
    replace hp := hp.2 h109
    refine wp_exit ?_
    refine then_exit ?_
    refine then_exit ?_
    refine blk_exit ?_
    refine then_normal (K6 _ _ _ _ ?_)
    refine seq_ (fun _ K184 => ?_)
    refine reg_ ?_
    refine sq (o_pv (.int .i64 n_8) rfl (by kernel_rfl) ?_)
    refine sq (o_pv (.int .i64 n_8) rfl (by kernel_rfl) ?_)
    refine nil_ ?_
    refine then_normal (K184 _ _ _ _ ?_)
    refine wp_ret ?_
    refine end_ret hQ (.int .i64 n_8) (by kernel_rfl) ?_
    exact ⟨n_8, hp, E103, rfl, rn_9⟩

def rectolaw11_known_p (Q : Bool → Prop) : Prop :=
  (diff_Lines_p ([(ByteArray.mk #[97]), (ByteArray.mk #[98])]) ([(ByteArray.mk #[97]), (ByteArray.mk #[99])]) (fun (r37 : (List S_diff_Edit)) (r38 : PErr) => ((r37.length ≤ 9223372036854775807) → (diff_Matches_p ([(ByteArray.mk #[97]), (ByteArray.mk #[98])]) ([(ByteArray.mk #[97]), (ByteArray.mk #[99])]) (fun (r91 : (List S_diff_Match)) (r92 : PErr) => ((r91.length ≤ 9223372036854775807) → (diff_Common_p ([(ByteArray.mk #[97]), (ByteArray.mk #[98])]) ([(ByteArray.mk #[97]), (ByteArray.mk #[99])]) (fun (r153 : Int) (r154 : PErr) => ((inR .i64 r153) → (∃ k237 : Bool → Prop, (∀ (s236 : Bool), k237 s236 → Q s236) ∧ (((r38.isNil = true) → (((r92.isNil = true) → (((r154.isNil = true) → ((((r37.length : Int) = (3 : Int)) → ((inL r37 (0 : Int)) ∧ ((inR .i64 ((lget r37 (0 : Int)).Op)) → ((((lget r37 (0 : Int)).Line).size ≤ maxLen) → (((((lget r37 (0 : Int)).Op) = (1 : Int)) → ((inL r37 (1 : Int)) ∧ ((inR .i64 ((lget r37 (1 : Int)).Op)) → ((((lget r37 (1 : Int)).Line).size ≤ maxLen) → (((((lget r37 (1 : Int)).Op) = (2 : Int)) → ((inL r37 (2 : Int)) ∧ ((inR .i64 ((lget r37 (2 : Int)).Op)) → ((((lget r37 (2 : Int)).Line).size ≤ maxLen) → (((((lget r37 (2 : Int)).Op) = (3 : Int)) → ((inL r37 (2 : Int)) ∧ ((inR .i64 ((lget r37 (2 : Int)).Op)) → ((((lget r37 (2 : Int)).Line).size ≤ maxLen) → (((((lget r37 (2 : Int)).Line : ByteArray) = (ByteArray.mk #[99])) → ((((r91.length : Int) = (1 : Int)) → ((inL r91 (0 : Int)) ∧ ((inR .i64 ((lget r91 (0 : Int)).A)) → ((inR .i64 ((lget r91 (0 : Int)).B)) → ((inR .i64 ((lget r91 (0 : Int)).N)) → (((((lget r91 (0 : Int)).N) = (1 : Int)) → (((r153 = (1 : Int)) → (diff_Cost_p r37 (fun (r327 : Int) => ((inR .i64 r327) → (k237 (decide (r327 = (2 : Int)))))))) ∧ ((¬ (r153 = (1 : Int))) → (k237 false)))) ∧ ((¬ (((lget r91 (0 : Int)).N) = (1 : Int))) → (k237 false)))))))) ∧ ((¬ ((r91.length : Int) = (1 : Int))) → (k237 false)))) ∧ ((¬ (((lget r37 (2 : Int)).Line : ByteArray) = (ByteArray.mk #[99]))) → (k237 false))))))) ∧ ((¬ (((lget r37 (2 : Int)).Op) = (3 : Int))) → (k237 false))))))) ∧ ((¬ (((lget r37 (1 : Int)).Op) = (2 : Int))) → (k237 false))))))) ∧ ((¬ (((lget r37 (0 : Int)).Op) = (1 : Int))) → (k237 false))))))) ∧ ((¬ ((r37.length : Int) = (3 : Int))) → (k237 false)))) ∧ ((¬ (r154.isNil = true)) → (k237 false)))) ∧ ((¬ (r92.isNil = true)) → (k237 false)))) ∧ ((¬ (r38.isNil = true)) → (k237 false)))))))))))))
set_option maxRecDepth 20000 in
set_option maxHeartbeats 4000000 in
theorem rectolaw11_known_w {X : List Nat} {w : World} {Q : Bool → Prop} (hX0 : Old X w) (hp : rectolaw11_known_p Q) :
    Calls Tryd.prog 36 #[] w (Ret fun v w' => ∃ (r0 : Bool), Q r0 ∧ Evo [] w w' ∧ v = (.bool r0)) := by
  have hXo := hX0
  have E0 : Evo [] w w := RB.refl _ _ _
  have hS : Sub X X := Sub.refl _
  unfold rectolaw11_known_p at hp
  refine enter_ Tryd.func36 rfl 89 [] (by kernel_rfl) (fun Qe hQ => ?_)
  refine seq_ (fun _ K1 => ?_)
  refine reg_ ?_
  refine sq (o_pv (.bool false) rfl (by kernel_rfl) ?_)
  refine nil_ ?_
  refine then_normal (K1 _ _ _ _ ?_)
  refine seq_ (fun _ K2 => ?_)
  refine reg_ ?_
  refine sq (o_rowX (R := rStr) [(.string (ByteArray.mk #[97])), (.string (ByteArray.mk #[98]))] [(ByteArray.mk #[97]), (ByteArray.mk #[98])] 9 2 (X := X) (B := w.heap.size) E0.size rfl (by kernel_rfl) (Flat.cons (cs := [(.string (ByteArray.mk #[97]))]) (rStr_mk (by decide : (ByteArray.mk #[97]).size ≤ maxLen)) (Flat.cons (cs := [(.string (ByteArray.mk #[98]))]) (rStr_mk (by decide : (ByteArray.mk #[98]).size ≤ maxLen)) Flat.nil)) rfl (by decide) ?_)
  intro b3 w4 X5 s6 O7 n8
  have E15 := (Evo.then0 E0 (Step.evo s6))
  refine sq (o_rowX (R := rStr) [(.string (ByteArray.mk #[97])), (.string (ByteArray.mk #[99]))] [(ByteArray.mk #[97]), (ByteArray.mk #[99])] 9 2 (X := X5) (B := w.heap.size) E15.size rfl (by kernel_rfl) (Flat.cons (cs := [(.string (ByteArray.mk #[97]))]) (rStr_mk (by decide : (ByteArray.mk #[97]).size ≤ maxLen)) (Flat.cons (cs := [(.string (ByteArray.mk #[99]))]) (rStr_mk (by decide : (ByteArray.mk #[99]).size ≤ maxLen)) Flat.nil)) rfl (by decide) ?_)
  intro b9 w10 X11 s12 O13 n14
  have p16 := n14 _ (OS.old O7)
  have O17 := (OS.step0 O7 s12)
  have hS18 := (Sub.trans (Sub.trans hS (Step.up s6)) (Step.up s12))
  have hXo24 := (Old.step (Old.step hXo s6) s12)
  have E25 := (Evo.then0 E15 (Step.evo s12))
  have ax23 := OS.apold O17 hX0
  obtain ⟨X19, u20, r21, hm22⟩ := OS.release O17
  have O26 := (OS.less O13 u20 (hm22 _ (Ap.symm p16) (OS.mem O13)))
  have hS27 := (hm22 _ ax23 hS18)
  have hXo33 := (Old.less hXo24 u20)
  have E34 := E25
  have ax32 := OS.apold O26 hX0
  obtain ⟨X28, u29, r30, hm31⟩ := OS.release O26
  have r35 := (Sl.less r21 u29)
  have hXo36 := (Old.less hXo33 u29)
  refine sq (o_call 38 #[(.slice (some ⟨b3, 0, none⟩) ([(ByteArray.mk #[97]), (ByteArray.mk #[98])]).length 2), (.slice (some ⟨b9, 0, none⟩) ([(ByteArray.mk #[97]), (ByteArray.mk #[99])]).length 2)] rfl (x_call Tryd.call38 (by rw [← show 2 = ([(ByteArray.mk #[97]), (ByteArray.mk #[98])]).length from O17.1, ← show 2 = ([(ByteArray.mk #[97]), (ByteArray.mk #[99])]).length from O26.1]; kernel_rfl)) (diff_Lines_w (X := X28) (a := [(ByteArray.mk #[97]), (ByteArray.mk #[98])]) (b := [(ByteArray.mk #[97]), (ByteArray.mk #[99])]) hXo36 r35 r30 hp) ?_)
  rintro _ w39 ⟨r37, r38, hp, e40, ar42, cr43, vr45, rfl, hr44, hr46⟩
  have s41 := Step.of0 X28 e40
  replace hp := hp (Sl.len hr44)
  refine sq (o_pv (.tuple #[(.slice ar42 r37.length cr43), vr45]) rfl (by kernel_rfl) ?_)
  refine sq (o_pv (.slice ar42 r37.length cr43) rfl (by kernel_rfl) ?_)
  refine sq (o_pv vr45 rfl (by kernel_rfl) ?_)
  refine sq (o_pv (.slice ar42 r37.length cr43) rfl (by kernel_rfl) ?_)
  refine sq (o_pv vr45 rfl (by kernel_rfl) ?_)
  refine nil_ ?_
  refine then_normal (K2 _ _ _ _ ?_)
  refine seq_ (fun _ K47 => ?_)
  refine reg_ ?_
  have E54 := (Evo.then0 E34 e40)
  refine sq (o_rowX (R := rStr) [(.string (ByteArray.mk #[97])), (.string (ByteArray.mk #[98]))] [(ByteArray.mk #[97]), (ByteArray.mk #[98])] 9 2 (X := X28) (B := w.heap.size) E54.size rfl (by kernel_rfl) (Flat.cons (cs := [(.string (ByteArray.mk #[97]))]) (rStr_mk (by decide : (ByteArray.mk #[97]).size ≤ maxLen)) (Flat.cons (cs := [(.string (ByteArray.mk #[98]))]) (rStr_mk (by decide : (ByteArray.mk #[98]).size ≤ maxLen)) Flat.nil)) rfl (by decide) ?_)
  intro b48 w49 X50 s51 O52 n53
  have E61 := (Evo.then0 E54 (Step.evo s51))
  refine sq (o_rowX (R := rStr) [(.string (ByteArray.mk #[97])), (.string (ByteArray.mk #[99]))] [(ByteArray.mk #[97]), (ByteArray.mk #[99])] 9 2 (X := X50) (B := w.heap.size) E61.size rfl (by kernel_rfl) (Flat.cons (cs := [(.string (ByteArray.mk #[97]))]) (rStr_mk (by decide : (ByteArray.mk #[97]).size ≤ maxLen)) (Flat.cons (cs := [(.string (ByteArray.mk #[99]))]) (rStr_mk (by decide : (ByteArray.mk #[99]).size ≤ maxLen)) Flat.nil)) rfl (by decide) ?_)
  intro b55 w56 X57 s58 O59 n60
  have p62 := n60 _ (OS.old O52)
  have O63 := (OS.step0 O52 s58)
  have hS64 := (Sub.trans (Sub.trans (Sub.trans (hm31 _ ax32 hS27) (Step.up s41)) (Step.up s51)) (Step.up s58))
  have hXo70 := (Old.step (Old.step (Old.step hXo36 s41) s51) s58)
  have E71 := (Evo.then0 E61 (Step.evo s58))
  have r72 := (Sl.step (Sl.step (Sl.step r35 s41) s51) s58)
  have r73 := (Sl.step (Sl.step (Sl.step r30 s41) s51) s58)
  have hr74 := (Sl.step (Sl.step hr44 s51) s58)
  have hr75 := (Rep.step (rErr 63 122 124) (Rep.step (rErr 63 122 124) hr46 s51) s58)
  have ax69 := OS.apold O63 hX0
  obtain ⟨X65, u66, r67, hm68⟩ := OS.release O63
  have O76 := (OS.less O59 u66 (hm68 _ (Ap.symm p62) (OS.mem O59)))
  have hS77 := (hm68 _ ax69 hS64)
  have hXo83 := (Old.less hXo70 u66)
  have E84 := E71
  have r85 := (Sl.less r72 u66)
  have r86 := (Sl.less r73 u66)
  have hr87 := (Sl.less hr74 u66)
  have hr88 := (Rep.less (rErr 63 122 124) hr75 u66)
  have ax82 := OS.apold O76 hX0
  obtain ⟨X78, u79, r80, hm81⟩ := OS.release O76
  have r89 := (Sl.less r67 u79)
  have hXo90 := (Old.less hXo83 u79)
  refine sq (o_call 39 #[(.slice (some ⟨b48, 0, none⟩) ([(ByteArray.mk #[97]), (ByteArray.mk #[98])]).length 2), (.slice (some ⟨b55, 0, none⟩) ([(ByteArray.mk #[97]), (ByteArray.mk #[99])]).length 2)] rfl (x_call Tryd.call39 (by rw [← show 2 = ([(ByteArray.mk #[97]), (ByteArray.mk #[98])]).length from O63.1, ← show 2 = ([(ByteArray.mk #[97]), (ByteArray.mk #[99])]).length from O76.1]; kernel_rfl)) (diff_Matches_w (X := X78) (a := [(ByteArray.mk #[97]), (ByteArray.mk #[98])]) (b := [(ByteArray.mk #[97]), (ByteArray.mk #[99])]) hXo90 r89 r80 hp) ?_)
  rintro _ w93 ⟨r91, r92, hp, e94, ar96, cr97, vr99, rfl, hr98, hr100⟩
  have s95 := Step.of0 X78 e94
  replace hp := hp (Sl.len hr98)
  refine sq (o_pv (.tuple #[(.slice ar96 r91.length cr97), vr99]) rfl (by kernel_rfl) ?_)
  refine sq (o_pv (.slice ar96 r91.length cr97) rfl (by kernel_rfl) ?_)
  refine sq (o_pv vr99 rfl (by kernel_rfl) ?_)
  refine sq (o_pv (.slice ar96 r91.length cr97) rfl (by kernel_rfl) ?_)
  refine sq (o_pv vr99 rfl (by kernel_rfl) ?_)
  refine nil_ ?_
  refine then_normal (K47 _ _ _ _ ?_)
  refine seq_ (fun _ K101 => ?_)
  refine reg_ ?_
  have E108 := (Evo.then0 E84 e94)
  refine sq (o_rowX (R := rStr) [(.string (ByteArray.mk #[97])), (.string (ByteArray.mk #[98]))] [(ByteArray.mk #[97]), (ByteArray.mk #[98])] 9 2 (X := X78) (B := w.heap.size) E108.size rfl (by kernel_rfl) (Flat.cons (cs := [(.string (ByteArray.mk #[97]))]) (rStr_mk (by decide : (ByteArray.mk #[97]).size ≤ maxLen)) (Flat.cons (cs := [(.string (ByteArray.mk #[98]))]) (rStr_mk (by decide : (ByteArray.mk #[98]).size ≤ maxLen)) Flat.nil)) rfl (by decide) ?_)
  intro b102 w103 X104 s105 O106 n107
  have E115 := (Evo.then0 E108 (Step.evo s105))
  refine sq (o_rowX (R := rStr) [(.string (ByteArray.mk #[97])), (.string (ByteArray.mk #[99]))] [(ByteArray.mk #[97]), (ByteArray.mk #[99])] 9 2 (X := X104) (B := w.heap.size) E115.size rfl (by kernel_rfl) (Flat.cons (cs := [(.string (ByteArray.mk #[97]))]) (rStr_mk (by decide : (ByteArray.mk #[97]).size ≤ maxLen)) (Flat.cons (cs := [(.string (ByteArray.mk #[99]))]) (rStr_mk (by decide : (ByteArray.mk #[99]).size ≤ maxLen)) Flat.nil)) rfl (by decide) ?_)
  intro b109 w110 X111 s112 O113 n114
  have p116 := n114 _ (OS.old O106)
  have O117 := (OS.step0 O106 s112)
  have hS118 := (Sub.trans (Sub.trans (Sub.trans (hm81 _ ax82 hS77) (Step.up s95)) (Step.up s105)) (Step.up s112))
  have hXo124 := (Old.step (Old.step (Old.step hXo90 s95) s105) s112)
  have E125 := (Evo.then0 E115 (Step.evo s112))
  have r126 := (Sl.step (Sl.step (Sl.step (Sl.less r85 u79) s95) s105) s112)
  have r127 := (Sl.step (Sl.step (Sl.step (Sl.less r86 u79) s95) s105) s112)
  have hr128 := (Sl.step (Sl.step (Sl.step (Sl.less hr87 u79) s95) s105) s112)
  have hr129 := (Rep.step (rErr 63 122 124) (Rep.step (rErr 63 122 124) (Rep.step (rErr 63 122 124) (Rep.less (rErr 63 122 124) hr88 u79) s95) s105) s112)
  have r130 := (Sl.step (Sl.step (Sl.step r89 s95) s105) s112)
  have r131 := (Sl.step (Sl.step (Sl.step r80 s95) s105) s112)
  have hr132 := (Sl.step (Sl.step hr98 s105) s112)
  have hr133 := (Rep.step (rErr 63 122 124) (Rep.step (rErr 63 122 124) hr100 s105) s112)
  have ax123 := OS.apold O117 hX0
  obtain ⟨X119, u120, r121, hm122⟩ := OS.release O117
  have O134 := (OS.less O113 u120 (hm122 _ (Ap.symm p116) (OS.mem O113)))
  have hS135 := (hm122 _ ax123 hS118)
  have hXo141 := (Old.less hXo124 u120)
  have E142 := E125
  have r143 := (Sl.less r126 u120)
  have r144 := (Sl.less r127 u120)
  have hr145 := (Sl.less hr128 u120)
  have hr146 := (Rep.less (rErr 63 122 124) hr129 u120)
  have r147 := (Sl.less r130 u120)
  have r148 := (Sl.less r131 u120)
  have hr149 := (Sl.less hr132 u120)
  have hr150 := (Rep.less (rErr 63 122 124) hr133 u120)
  have ax140 := OS.apold O134 hX0
  obtain ⟨X136, u137, r138, hm139⟩ := OS.release O134
  have r151 := (Sl.less r121 u137)
  have hXo152 := (Old.less hXo141 u137)
  refine sq (o_call 40 #[(.slice (some ⟨b102, 0, none⟩) ([(ByteArray.mk #[97]), (ByteArray.mk #[98])]).length 2), (.slice (some ⟨b109, 0, none⟩) ([(ByteArray.mk #[97]), (ByteArray.mk #[99])]).length 2)] rfl (x_call Tryd.call40 (by rw [← show 2 = ([(ByteArray.mk #[97]), (ByteArray.mk #[98])]).length from O117.1, ← show 2 = ([(ByteArray.mk #[97]), (ByteArray.mk #[99])]).length from O134.1]; kernel_rfl)) (diff_Common_w (X := X136) (a := [(ByteArray.mk #[97]), (ByteArray.mk #[98])]) (b := [(ByteArray.mk #[97]), (ByteArray.mk #[99])]) hXo152 r151 r138 hp) ?_)
  rintro _ w155 ⟨r153, r154, hp, e156, vr159, rfl, rr158, hr160⟩
  have s157 := Step.of0 X136 e156
  replace hp := hp rr158
  refine sq (o_pv (.tuple #[(.int .i64 r153), vr159]) rfl (by kernel_rfl) ?_)
  refine sq (o_pv (.int .i64 r153) rfl (by kernel_rfl) ?_)
  refine sq (o_pv vr159 rfl (by kernel_rfl) ?_)
  refine sq (o_pv (.int .i64 r153) rfl (by kernel_rfl) ?_)
  refine sq (o_pv vr159 rfl (by kernel_rfl) ?_)
  refine nil_ ?_
  refine then_normal (K101 _ _ _ _ ?_)
  refine seq_ (fun _ K161 => ?_)
  have hXo244 := (Old.step hXo152 s157)
  have E245 := (Evo.then0 E142 e156)
  have hS246 := (Sub.trans (hm139 _ ax140 hS135) (Step.up s157))
  have r247 := (Sl.step (Sl.less r143 u137) s157)
  have r248 := (Sl.step (Sl.less r144 u137) s157)
  have hr249 := (Sl.step (Sl.less hr145 u137) s157)
  have hr250 := (Rep.step (rErr 63 122 124) (Rep.less (rErr 63 122 124) hr146 u137) s157)
  have r251 := (Sl.step (Sl.less r147 u137) s157)
  have r252 := (Sl.step (Sl.less r148 u137) s157)
  have hr253 := (Sl.step (Sl.less hr149 u137) s157)
  have hr254 := (Rep.step (rErr 63 122 124) (Rep.less (rErr 63 122 124) hr150 u137) s157)
  have r255 := (Sl.step r151 s157)
  have r256 := (Sl.step r138 s157)
  obtain ⟨k237, hk238, hp⟩ := hp
  refine ground_ ?_
  refine join_ 618970019642690137416007681 (fun lq w239 => ∃ (X240 : List Nat) (s236 : Bool), (lq = [(0, (.bool s236))]) ∧ (Evo [] w w239) ∧ (Old X240 w239) ∧ (Sub X X240) ∧ (k237 s236)) (fun Kj241 hJ242 => ?_) ?_
  ·
    refine reg_ ?_
    refine sq (o_pv vr45 rfl (by kernel_rfl) ?_)
    by_cases h260 : r38.isNil = true
    ·
      replace hp := hp.1 h260
      refine sq (o_pv (.bool true) rfl (x_bt (x_err_eq r38 hr250 Tryd.underlying43 (by kernel_rfl)) h260) ?_)
      refine sq (o_pv (.bool true) rfl (by kernel_rfl) ?_)
      refine sq (o_pv vr99 (by kernel_rfl) (by kernel_rfl) ?_)
      by_cases h261 : r92.isNil = true
      ·
        replace hp := hp.1 h261
        refine sq (o_pv (.bool true) (by kernel_rfl) (x_bt (x_err_eq r92 hr254 Tryd.underlying43 (by kernel_rfl)) h261) ?_)
        refine sq (o_pv (.bool true) rfl (by kernel_rfl) ?_)
        refine sq (o_pv (.bool true) rfl (by kernel_rfl) ?_)
        refine sq (o_pv vr159 (by kernel_rfl) (by kernel_rfl) ?_)
        by_cases h262 : r154.isNil = true
        ·
          replace hp := hp.1 h262
          refine sq (o_pv (.bool true) (by kernel_rfl) (x_bt (x_err_eq r154 hr160 Tryd.underlying43 (by kernel_rfl)) h262) ?_)
          refine sq (o_pv (.bool true) rfl (by kernel_rfl) ?_)
          refine sq (o_pv (.bool true) rfl (by kernel_rfl) ?_)
          refine sq (o_pv (.slice ar42 r37.length cr43) (by kernel_rfl) (by kernel_rfl) ?_)
          refine sq (o_pv (.int .i64 (r37.length : Int)) (by kernel_rfl) (by kernel_rfl) ?_)
          by_cases h263 : (r37.length : Int) = (3 : Int)
          ·
            replace hp := hp.1 h263
            refine sq (o_pv (.bool true) (by kernel_rfl) (x_dt (p := (r37.length : Int) = (3 : Int)) (by kernel_rfl) h263) ?_)
            refine sq (o_pv (.bool true) rfl (by kernel_rfl) ?_)
            refine sq (o_pv (.bool true) rfl (by kernel_rfl) ?_)
            refine sq (o_pv (.slice ar42 r37.length cr43) (by kernel_rfl) (by kernel_rfl) ?_)
            obtain ⟨h264, hp⟩ := hp
            obtain ⟨b265, o266, cs267, ha268, nx269, lt270, ok271, hc272⟩ := Sl.atI hr249 (0 : Int) h264
            obtain ⟨rfl, reOp273, zeLine274⟩ := r_diff_Edit_open ok271
            replace hp := hp reOp273
            replace hp := hp zeLine274
            refine sq (o_pv (.pointer (some ⟨b265, o266 + (0 : Int).toNat * 2, none⟩)) (by kernel_rfl) (x_ixA (m := r37.length) (c := cr43) (k := .i64) (i := (0 : Int)) Tryd.underlying33 Tryd.sizeOf100 (by rw [← ha268]; kernel_rfl) (by kernel_rfl) h264) ?_)
            refine sq (o_pv (.pointer (some ⟨b265, o266 + (0 : Int).toNat * 2, none⟩)) (by kernel_rfl) (by kernel_rfl) ?_)
            refine sq (o_pv (.int .i64 ((lget r37 (0 : Int)).Op)) (by kernel_rfl) (x_load1 (by kernel_rfl) Tryd.isAgg3 (hc272 0 _ rfl)) ?_)
            by_cases h275 : ((lget r37 (0 : Int)).Op) = (1 : Int)
            ·
              replace hp := hp.1 h275
              refine sq (o_pv (.bool true) (by kernel_rfl) (x_dt (p := ((lget r37 (0 : Int)).Op) = (1 : Int)) (by kernel_rfl) h275) ?_)
              refine sq (o_pv (.bool true) rfl (by kernel_rfl) ?_)
              refine sq (o_pv (.bool true) rfl (by kernel_rfl) ?_)
              refine sq (o_pv (.slice ar42 r37.length cr43) (by kernel_rfl) (by kernel_rfl) ?_)
              obtain ⟨h276, hp⟩ := hp
              obtain ⟨b277, o278, cs279, ha280, nx281, lt282, ok283, hc284⟩ := Sl.atI hr249 (1 : Int) h276
              obtain ⟨rfl, reOp285, zeLine286⟩ := r_diff_Edit_open ok283
              replace hp := hp reOp285
              replace hp := hp zeLine286
              refine sq (o_pv (.pointer (some ⟨b277, o278 + (1 : Int).toNat * 2, none⟩)) (by kernel_rfl) (x_ixA (m := r37.length) (c := cr43) (k := .i64) (i := (1 : Int)) Tryd.underlying33 Tryd.sizeOf100 (by rw [← ha280]; kernel_rfl) (by kernel_rfl) h276) ?_)
              refine sq (o_pv (.pointer (some ⟨b277, o278 + (1 : Int).toNat * 2, none⟩)) (by kernel_rfl) (by kernel_rfl) ?_)
              refine sq (o_pv (.int .i64 ((lget r37 (1 : Int)).Op)) (by kernel_rfl) (x_load1 (by kernel_rfl) Tryd.isAgg3 (hc284 0 _ rfl)) ?_)
              by_cases h287 : ((lget r37 (1 : Int)).Op) = (2 : Int)
              ·
                replace hp := hp.1 h287
                refine sq (o_pv (.bool true) (by kernel_rfl) (x_dt (p := ((lget r37 (1 : Int)).Op) = (2 : Int)) (by kernel_rfl) h287) ?_)
                refine sq (o_pv (.bool true) rfl (by kernel_rfl) ?_)
                refine sq (o_pv (.bool true) rfl (by kernel_rfl) ?_)
                refine sq (o_pv (.slice ar42 r37.length cr43) (by kernel_rfl) (by kernel_rfl) ?_)
                obtain ⟨h288, hp⟩ := hp
                obtain ⟨b289, o290, cs291, ha292, nx293, lt294, ok295, hc296⟩ := Sl.atI hr249 (2 : Int) h288
                obtain ⟨rfl, reOp297, zeLine298⟩ := r_diff_Edit_open ok295
                replace hp := hp reOp297
                replace hp := hp zeLine298
                refine sq (o_pv (.pointer (some ⟨b289, o290 + (2 : Int).toNat * 2, none⟩)) (by kernel_rfl) (x_ixA (m := r37.length) (c := cr43) (k := .i64) (i := (2 : Int)) Tryd.underlying33 Tryd.sizeOf100 (by rw [← ha292]; kernel_rfl) (by kernel_rfl) h288) ?_)
                refine sq (o_pv (.pointer (some ⟨b289, o290 + (2 : Int).toNat * 2, none⟩)) (by kernel_rfl) (by kernel_rfl) ?_)
                refine sq (o_pv (.int .i64 ((lget r37 (2 : Int)).Op)) (by kernel_rfl) (x_load1 (by kernel_rfl) Tryd.isAgg3 (hc296 0 _ rfl)) ?_)
                by_cases h299 : ((lget r37 (2 : Int)).Op) = (3 : Int)
                ·
                  replace hp := hp.1 h299
                  refine sq (o_pv (.bool true) (by kernel_rfl) (x_dt (p := ((lget r37 (2 : Int)).Op) = (3 : Int)) (by kernel_rfl) h299) ?_)
                  refine sq (o_pv (.bool true) rfl (by kernel_rfl) ?_)
                  refine sq (o_pv (.bool true) rfl (by kernel_rfl) ?_)
                  refine sq (o_pv (.slice ar42 r37.length cr43) (by kernel_rfl) (by kernel_rfl) ?_)
                  obtain ⟨h300, hp⟩ := hp
                  obtain ⟨b301, o302, cs303, ha304, nx305, lt306, ok307, hc308⟩ := Sl.atI hr249 (2 : Int) h300
                  obtain ⟨rfl, reOp309, zeLine310⟩ := r_diff_Edit_open ok307
                  replace hp := hp reOp309
                  replace hp := hp zeLine310
                  refine sq (o_pv (.pointer (some ⟨b301, o302 + (2 : Int).toNat * 2, none⟩)) (by kernel_rfl) (x_ixA (m := r37.length) (c := cr43) (k := .i64) (i := (2 : Int)) Tryd.underlying33 Tryd.sizeOf100 (by rw [← ha304]; kernel_rfl) (by kernel_rfl) h300) ?_)
                  refine sq (o_pv (.pointer (some ⟨b301, o302 + (2 : Int).toNat * 2 + 1, none⟩)) (by kernel_rfl) (by kernel_rfl) ?_)
                  refine sq (o_pv (.string ((lget r37 (2 : Int)).Line)) (by kernel_rfl) (x_load1 (by kernel_rfl) Tryd.isAgg9 (hc308 1 _ rfl)) ?_)
                  by_cases h311 : ((lget r37 (2 : Int)).Line : ByteArray) = (ByteArray.mk #[99])
                  ·
                    replace hp := hp.1 h311
                    refine sq (o_pv (.bool true) (by kernel_rfl) (x_dt (p := ((lget r37 (2 : Int)).Line : ByteArray) = (ByteArray.mk #[99])) (x_streq (by kernel_rfl) (by kernel_rfl)) h311) ?_)
                    refine sq (o_pv (.bool true) rfl (by kernel_rfl) ?_)
                    refine sq (o_pv (.bool true) rfl (by kernel_rfl) ?_)
                    refine sq (o_pv (.slice ar96 r91.length cr97) (by kernel_rfl) (by kernel_rfl) ?_)
                    refine sq (o_pv (.int .i64 (r91.length : Int)) (by kernel_rfl) (by kernel_rfl) ?_)
                    by_cases h312 : (r91.length : Int) = (1 : Int)
                    ·
                      replace hp := hp.1 h312
                      refine sq (o_pv (.bool true) (by kernel_rfl) (x_dt (p := (r91.length : Int) = (1 : Int)) (by kernel_rfl) h312) ?_)
                      refine sq (o_pv (.bool true) rfl (by kernel_rfl) ?_)
                      refine sq (o_pv (.bool true) rfl (by kernel_rfl) ?_)
                      refine sq (o_pv (.slice ar96 r91.length cr97) (by kernel_rfl) (by kernel_rfl) ?_)
                      obtain ⟨h313, hp⟩ := hp
                      obtain ⟨b314, o315, cs316, ha317, nx318, lt319, ok320, hc321⟩ := Sl.atI hr253 (0 : Int) h313
                      obtain ⟨rfl, reA322, reB323, reN324⟩ := r_diff_Match_open ok320
                      replace hp := hp reA322
                      replace hp := hp reB323
                      replace hp := hp reN324
                      refine sq (o_pv (.pointer (some ⟨b314, o315 + (0 : Int).toNat * 3, none⟩)) (by kernel_rfl) (x_ixA (m := r91.length) (c := cr97) (k := .i64) (i := (0 : Int)) Tryd.underlying73 Tryd.sizeOf85 (by rw [← ha317]; kernel_rfl) (by kernel_rfl) h313) ?_)
                      refine sq (o_pv (.pointer (some ⟨b314, o315 + (0 : Int).toNat * 3 + 2, none⟩)) (by kernel_rfl) (by kernel_rfl) ?_)
                      refine sq (o_pv (.int .i64 ((lget r91 (0 : Int)).N)) (by kernel_rfl) (x_load1 (by kernel_rfl) Tryd.isAgg3 (hc321 2 _ rfl)) ?_)
                      by_cases h325 : ((lget r91 (0 : Int)).N) = (1 : Int)
                      ·
                        replace hp := hp.1 h325
                        refine sq (o_pv (.bool true) (by kernel_rfl) (x_dt (p := ((lget r91 (0 : Int)).N) = (1 : Int)) (by kernel_rfl) h325) ?_)
                        refine sq (o_pv (.bool true) rfl (by kernel_rfl) ?_)
                        refine sq (o_pv (.bool true) rfl (by kernel_rfl) ?_)
                        refine sq (o_pv (.int .i64 r153) (by kernel_rfl) (by kernel_rfl) ?_)
                        by_cases h326 : r153 = (1 : Int)
                        ·
                          replace hp := hp.1 h326
                          refine sq (o_pv (.bool true) (by kernel_rfl) (x_dt (p := r153 = (1 : Int)) (by kernel_rfl) h326) ?_)
                          refine sq (o_pv (.bool true) rfl (by kernel_rfl) ?_)
                          refine sq (o_pv (.bool true) rfl (by kernel_rfl) ?_)
                          refine sq (o_pv (.slice ar42 r37.length cr43) (by kernel_rfl) (by kernel_rfl) ?_)
                          refine sq (o_call 45 #[(.slice ar42 r37.length cr43)] (by kernel_rfl) (x_call Tryd.call45 (by kernel_rfl)) (diff_Cost_w (X := []) (l := r37) (Old.nil _) (Sl.less hr249 (Sub.nil _)) hp) ?_)
                          rintro _ w328 ⟨r327, hp, e329, rfl, rr331⟩
                          have s330 := Step.of0 X136 e329
                          replace hp := hp rr331
                          refine sq (o_pv (.bool (decide (r327 = (2 : Int)))) (by kernel_rfl) (by kernel_rfl) ?_)
                          refine sq (o_pv (.bool (decide (r327 = (2 : Int)))) rfl (by kernel_rfl) ?_)
                          refine sq (o_pv (.bool (decide (r327 = (2 : Int)))) rfl (by kernel_rfl) ?_)
                          refine nil_ ?_
                          have E332 := (Evo.then0 E245 e329)
                          have hXo333 := (Old.step hXo244 s330)
                          have hS334 := (Sub.trans hS246 (Step.up s330))
                          refine then_normal (hJ242 _ _ _ ⟨[(0, (.bool (decide (r327 = (2 : Int)))))], fit_mk (fun _ _ => rfl) (by kernel_rfl) (vs_cons (by kernel_rfl) vs_nil), ?_⟩)
                          exact ⟨X136, (decide (r327 = (2 : Int))), rfl, E332, hXo333, hS334, hp⟩
                        ·
                          replace hp := hp.2 h326
                          refine sq (o_pv (.bool false) (by kernel_rfl) (x_df (p := r153 = (1 : Int)) (by kernel_rfl) h326) ?_)
                          refine sq (o_pv (.bool false) rfl (by kernel_rfl) ?_)
                          refine sq (o_pv (.bool false) rfl (by kernel_rfl) ?_)
                          refine sq (o_not (by kernel_rfl) ?_)
                          refine sq (o_not (by kernel_rfl) ?_)
                          refine sq (o_not (by kernel_rfl) ?_)
                          refine sq (o_pv (.bool false) rfl (by kernel_rfl) ?_)
                          refine sq (o_pv (.bool false) rfl (by kernel_rfl) ?_)
                          refine nil_ ?_
                          refine then_normal (hJ242 _ _ _ ⟨[(0, (.bool false))], fit_mk (fun _ _ => rfl) (by kernel_rfl) (vs_cons (by kernel_rfl) vs_nil), ?_⟩)
                          exact ⟨X136, false, rfl, E245, hXo244, hS246, hp⟩
                      ·
                        replace hp := hp.2 h325
                        refine sq (o_pv (.bool false) (by kernel_rfl) (x_df (p := ((lget r91 (0 : Int)).N) = (1 : Int)) (by kernel_rfl) h325) ?_)
                        refine sq (o_pv (.bool false) rfl (by kernel_rfl) ?_)
                        refine sq (o_pv (.bool false) rfl (by kernel_rfl) ?_)
                        refine sq (o_not (by kernel_rfl) ?_)
                        refine sq (o_not (by kernel_rfl) ?_)
                        refine sq (o_pv (.bool false) rfl (by kernel_rfl) ?_)
                        refine sq (o_pv (.bool false) rfl (by kernel_rfl) ?_)
                        refine sq (o_not (by kernel_rfl) ?_)
                        refine sq (o_not (by kernel_rfl) ?_)
                        refine sq (o_not (by kernel_rfl) ?_)
                        refine sq (o_pv (.bool false) rfl (by kernel_rfl) ?_)
                        refine sq (o_pv (.bool false) rfl (by kernel_rfl) ?_)
                        refine nil_ ?_
                        refine then_normal (hJ242 _ _ _ ⟨[(0, (.bool false))], fit_mk (fun _ _ => rfl) (by kernel_rfl) (vs_cons (by kernel_rfl) vs_nil), ?_⟩)
                        exact ⟨X136, false, rfl, E245, hXo244, hS246, hp⟩
                    ·
                      replace hp := hp.2 h312
                      refine sq (o_pv (.bool false) (by kernel_rfl) (x_df (p := (r91.length : Int) = (1 : Int)) (by kernel_rfl) h312) ?_)
                      refine sq (o_pv (.bool false) rfl (by kernel_rfl) ?_)
                      refine sq (o_pv (.bool false) rfl (by kernel_rfl) ?_)
                      refine sq (o_not (by kernel_rfl) ?_)
                      refine sq (o_not (by kernel_rfl) ?_)
                      refine sq (o_not (by kernel_rfl) ?_)
                      refine sq (o_not (by kernel_rfl) ?_)
                      refine sq (o_not (by kernel_rfl) ?_)
                      refine sq (o_pv (.bool false) rfl (by kernel_rfl) ?_)
                      refine sq (o_pv (.bool false) rfl (by kernel_rfl) ?_)
                      refine sq (o_not (by kernel_rfl) ?_)
                      refine sq (o_not (by kernel_rfl) ?_)
                      refine sq (o_pv (.bool false) rfl (by kernel_rfl) ?_)
                      refine sq (o_pv (.bool false) rfl (by kernel_rfl) ?_)
                      refine sq (o_not (by kernel_rfl) ?_)
                      refine sq (o_not (by kernel_rfl) ?_)
                      refine sq (o_not (by kernel_rfl) ?_)
                      refine sq (o_pv (.bool false) rfl (by kernel_rfl) ?_)
                      refine sq (o_pv (.bool false) rfl (by kernel_rfl) ?_)
                      refine nil_ ?_
                      refine then_normal (hJ242 _ _ _ ⟨[(0, (.bool false))], fit_mk (fun _ _ => rfl) (by kernel_rfl) (vs_cons (by kernel_rfl) vs_nil), ?_⟩)
                      exact ⟨X136, false, rfl, E245, hXo244, hS246, hp⟩
                  ·
                    replace hp := hp.2 h311
                    refine sq (o_pv (.bool false) (by kernel_rfl) (x_df (p := ((lget r37 (2 : Int)).Line : ByteArray) = (ByteArray.mk #[99])) (x_streq (by kernel_rfl) (by kernel_rfl)) h311) ?_)
                    refine sq (o_pv (.bool false) rfl (by kernel_rfl) ?_)
                    refine sq (o_pv (.bool false) rfl (by kernel_rfl) ?_)
                    refine sq (o_not (by kernel_rfl) ?_)
                    refine sq (o_not (by kernel_rfl) ?_)
                    refine sq (o_not (by kernel_rfl) ?_)
                    refine sq (o_pv (.bool false) rfl (by kernel_rfl) ?_)
                    refine sq (o_pv (.bool false) rfl (by kernel_rfl) ?_)
                    refine sq (o_not (by kernel_rfl) ?_)
                    refine sq (o_not (by kernel_rfl) ?_)
                    refine sq (o_not (by kernel_rfl) ?_)
                    refine sq (o_not (by kernel_rfl) ?_)
                    refine sq (o_not (by kernel_rfl) ?_)
                    refine sq (o_pv (.bool false) rfl (by kernel_rfl) ?_)
                    refine sq (o_pv (.bool false) rfl (by kernel_rfl) ?_)
                    refine sq (o_not (by kernel_rfl) ?_)
                    refine sq (o_not (by kernel_rfl) ?_)
                    refine sq (o_pv (.bool false) rfl (by kernel_rfl) ?_)
                    refine sq (o_pv (.bool false) rfl (by kernel_rfl) ?_)
                    refine sq (o_not (by kernel_rfl) ?_)
                    refine sq (o_not (by kernel_rfl) ?_)
                    refine sq (o_not (by kernel_rfl) ?_)
                    refine sq (o_pv (.bool false) rfl (by kernel_rfl) ?_)
                    refine sq (o_pv (.bool false) rfl (by kernel_rfl) ?_)
                    refine nil_ ?_
                    refine then_normal (hJ242 _ _ _ ⟨[(0, (.bool false))], fit_mk (fun _ _ => rfl) (by kernel_rfl) (vs_cons (by kernel_rfl) vs_nil), ?_⟩)
                    exact ⟨X136, false, rfl, E245, hXo244, hS246, hp⟩
                ·
                  replace hp := hp.2 h299
                  refine sq (o_pv (.bool false) (by kernel_rfl) (x_df (p := ((lget r37 (2 : Int)).Op) = (3 : Int)) (by kernel_rfl) h299) ?_)
                  refine sq (o_pv (.bool false) rfl (by kernel_rfl) ?_)
                  refine sq (o_pv (.bool false) rfl (by kernel_rfl) ?_)
                  refine sq (o_not (by kernel_rfl) ?_)
                  refine sq (o_not (by kernel_rfl) ?_)
                  refine sq (o_not (by kernel_rfl) ?_)
                  refine sq (o_not (by kernel_rfl) ?_)
                  refine sq (o_not (by kernel_rfl) ?_)
                  refine sq (o_pv (.bool false) rfl (by kernel_rfl) ?_)
                  refine sq (o_pv (.bool false) rfl (by kernel_rfl) ?_)
                  refine sq (o_not (by kernel_rfl) ?_)
                  refine sq (o_not (by kernel_rfl) ?_)
                  refine sq (o_not (by kernel_rfl) ?_)
                  refine sq (o_pv (.bool false) rfl (by kernel_rfl) ?_)
                  refine sq (o_pv (.bool false) rfl (by kernel_rfl) ?_)
                  refine sq (o_not (by kernel_rfl) ?_)
                  refine sq (o_not (by kernel_rfl) ?_)
                  refine sq (o_not (by kernel_rfl) ?_)
                  refine sq (o_not (by kernel_rfl) ?_)
                  refine sq (o_not (by kernel_rfl) ?_)
                  refine sq (o_pv (.bool false) rfl (by kernel_rfl) ?_)
                  refine sq (o_pv (.bool false) rfl (by kernel_rfl) ?_)
                  refine sq (o_not (by kernel_rfl) ?_)
                  refine sq (o_not (by kernel_rfl) ?_)
                  refine sq (o_pv (.bool false) rfl (by kernel_rfl) ?_)
                  refine sq (o_pv (.bool false) rfl (by kernel_rfl) ?_)
                  refine sq (o_not (by kernel_rfl) ?_)
                  refine sq (o_not (by kernel_rfl) ?_)
                  refine sq (o_not (by kernel_rfl) ?_)
                  refine sq (o_pv (.bool false) rfl (by kernel_rfl) ?_)
                  refine sq (o_pv (.bool false) rfl (by kernel_rfl) ?_)
                  refine nil_ ?_
                  refine then_normal (hJ242 _ _ _ ⟨[(0, (.bool false))], fit_mk (fun _ _ => rfl) (by kernel_rfl) (vs_cons (by kernel_rfl) vs_nil), ?_⟩)
                  exact ⟨X136, false, rfl, E245, hXo244, hS246, hp⟩
              ·
                replace hp := hp.2 h287
                refine sq (o_pv (.bool false) (by kernel_rfl) (x_df (p := ((lget r37 (1 : Int)).Op) = (2 : Int)) (by kernel_rfl) h287) ?_)
                refine sq (o_pv (.bool false) rfl (by kernel_rfl) ?_)
                refine sq (o_pv (.bool false) rfl (by kernel_rfl) ?_)
                refine sq (o_not (by kernel_rfl) ?_)
                refine sq (o_not (by kernel_rfl) ?_)
                refine sq (o_not (by kernel_rfl) ?_)
                refine sq (o_not (by kernel_rfl) ?_)
                refine sq (o_not (by kernel_rfl) ?_)
                refine sq (o_pv (.bool false) rfl (by kernel_rfl) ?_)
                refine sq (o_pv (.bool false) rfl (by kernel_rfl) ?_)
                refine sq (o_not (by kernel_rfl) ?_)
                refine sq (o_not (by kernel_rfl) ?_)
                refine sq (o_not (by kernel_rfl) ?_)
                refine sq (o_not (by kernel_rfl) ?_)
                refine sq (o_not (by kernel_rfl) ?_)
                refine sq (o_pv (.bool false) rfl (by kernel_rfl) ?_)
                refine sq (o_pv (.bool false) rfl (by kernel_rfl) ?_)
                refine sq (o_not (by kernel_rfl) ?_)
                refine sq (o_not (by kernel_rfl) ?_)
                refine sq (o_not (by kernel_rfl) ?_)
                refine sq (o_pv (.bool false) rfl (by kernel_rfl) ?_)
                refine sq (o_pv (.bool false) rfl (by kernel_rfl) ?_)
                refine sq (o_not (by kernel_rfl) ?_)
                refine sq (o_not (by kernel_rfl) ?_)
                refine sq (o_not (by kernel_rfl) ?_)
                refine sq (o_not (by kernel_rfl) ?_)
                refine sq (o_not (by kernel_rfl) ?_)
                refine sq (o_pv (.bool false) rfl (by kernel_rfl) ?_)
                refine sq (o_pv (.bool false) rfl (by kernel_rfl) ?_)
                refine sq (o_not (by kernel_rfl) ?_)
                refine sq (o_not (by kernel_rfl) ?_)
                refine sq (o_pv (.bool false) rfl (by kernel_rfl) ?_)
                refine sq (o_pv (.bool false) rfl (by kernel_rfl) ?_)
                refine sq (o_not (by kernel_rfl) ?_)
                refine sq (o_not (by kernel_rfl) ?_)
                refine sq (o_not (by kernel_rfl) ?_)
                refine sq (o_pv (.bool false) rfl (by kernel_rfl) ?_)
                refine sq (o_pv (.bool false) rfl (by kernel_rfl) ?_)
                refine nil_ ?_
                refine then_normal (hJ242 _ _ _ ⟨[(0, (.bool false))], fit_mk (fun _ _ => rfl) (by kernel_rfl) (vs_cons (by kernel_rfl) vs_nil), ?_⟩)
                exact ⟨X136, false, rfl, E245, hXo244, hS246, hp⟩
            ·
              replace hp := hp.2 h275
              refine sq (o_pv (.bool false) (by kernel_rfl) (x_df (p := ((lget r37 (0 : Int)).Op) = (1 : Int)) (by kernel_rfl) h275) ?_)
              refine sq (o_pv (.bool false) rfl (by kernel_rfl) ?_)
              refine sq (o_pv (.bool false) rfl (by kernel_rfl) ?_)
              refine sq (o_not (by kernel_rfl) ?_)
              refine sq (o_not (by kernel_rfl) ?_)
              refine sq (o_not (by kernel_rfl) ?_)
              refine sq (o_not (by kernel_rfl) ?_)
              refine sq (o_not (by kernel_rfl) ?_)
              refine sq (o_pv (.bool false) rfl (by kernel_rfl) ?_)
              refine sq (o_pv (.bool false) rfl (by kernel_rfl) ?_)
              refine sq (o_not (by kernel_rfl) ?_)
              refine sq (o_not (by kernel_rfl) ?_)
              refine sq (o_not (by kernel_rfl) ?_)
              refine sq (o_not (by kernel_rfl) ?_)
              refine sq (o_not (by kernel_rfl) ?_)
              refine sq (o_pv (.bool false) rfl (by kernel_rfl) ?_)
              refine sq (o_pv (.bool false) rfl (by kernel_rfl) ?_)
              refine sq (o_not (by kernel_rfl) ?_)
              refine sq (o_not (by kernel_rfl) ?_)
              refine sq (o_not (by kernel_rfl) ?_)
              refine sq (o_not (by kernel_rfl) ?_)
              refine sq (o_not (by kernel_rfl) ?_)
              refine sq (o_pv (.bool false) rfl (by kernel_rfl) ?_)
              refine sq (o_pv (.bool false) rfl (by kernel_rfl) ?_)
              refine sq (o_not (by kernel_rfl) ?_)
              refine sq (o_not (by kernel_rfl) ?_)
              refine sq (o_not (by kernel_rfl) ?_)
              refine sq (o_pv (.bool false) rfl (by kernel_rfl) ?_)
              refine sq (o_pv (.bool false) rfl (by kernel_rfl) ?_)
              refine sq (o_not (by kernel_rfl) ?_)
              refine sq (o_not (by kernel_rfl) ?_)
              refine sq (o_not (by kernel_rfl) ?_)
              refine sq (o_not (by kernel_rfl) ?_)
              refine sq (o_not (by kernel_rfl) ?_)
              refine sq (o_pv (.bool false) rfl (by kernel_rfl) ?_)
              refine sq (o_pv (.bool false) rfl (by kernel_rfl) ?_)
              refine sq (o_not (by kernel_rfl) ?_)
              refine sq (o_not (by kernel_rfl) ?_)
              refine sq (o_pv (.bool false) rfl (by kernel_rfl) ?_)
              refine sq (o_pv (.bool false) rfl (by kernel_rfl) ?_)
              refine sq (o_not (by kernel_rfl) ?_)
              refine sq (o_not (by kernel_rfl) ?_)
              refine sq (o_not (by kernel_rfl) ?_)
              refine sq (o_pv (.bool false) rfl (by kernel_rfl) ?_)
              refine sq (o_pv (.bool false) rfl (by kernel_rfl) ?_)
              refine nil_ ?_
              refine then_normal (hJ242 _ _ _ ⟨[(0, (.bool false))], fit_mk (fun _ _ => rfl) (by kernel_rfl) (vs_cons (by kernel_rfl) vs_nil), ?_⟩)
              exact ⟨X136, false, rfl, E245, hXo244, hS246, hp⟩
          ·
            replace hp := hp.2 h263
            refine sq (o_pv (.bool false) (by kernel_rfl) (x_df (p := (r37.length : Int) = (3 : Int)) (by kernel_rfl) h263) ?_)
            refine sq (o_pv (.bool false) rfl (by kernel_rfl) ?_)
            refine sq (o_pv (.bool false) rfl (by kernel_rfl) ?_)
            refine sq (o_not (by kernel_rfl) ?_)
            refine sq (o_not (by kernel_rfl) ?_)
            refine sq (o_not (by kernel_rfl) ?_)
            refine sq (o_not (by kernel_rfl) ?_)
            refine sq (o_not (by kernel_rfl) ?_)
            refine sq (o_pv (.bool false) rfl (by kernel_rfl) ?_)
            refine sq (o_pv (.bool false) rfl (by kernel_rfl) ?_)
            refine sq (o_not (by kernel_rfl) ?_)
            refine sq (o_not (by kernel_rfl) ?_)
            refine sq (o_not (by kernel_rfl) ?_)
            refine sq (o_not (by kernel_rfl) ?_)
            refine sq (o_not (by kernel_rfl) ?_)
            refine sq (o_pv (.bool false) rfl (by kernel_rfl) ?_)
            refine sq (o_pv (.bool false) rfl (by kernel_rfl) ?_)
            refine sq (o_not (by kernel_rfl) ?_)
            refine sq (o_not (by kernel_rfl) ?_)
            refine sq (o_not (by kernel_rfl) ?_)
            refine sq (o_not (by kernel_rfl) ?_)
            refine sq (o_not (by kernel_rfl) ?_)
            refine sq (o_pv (.bool false) rfl (by kernel_rfl) ?_)
            refine sq (o_pv (.bool false) rfl (by kernel_rfl) ?_)
            refine sq (o_not (by kernel_rfl) ?_)
            refine sq (o_not (by kernel_rfl) ?_)
            refine sq (o_not (by kernel_rfl) ?_)
            refine sq (o_not (by kernel_rfl) ?_)
            refine sq (o_not (by kernel_rfl) ?_)
            refine sq (o_pv (.bool false) rfl (by kernel_rfl) ?_)
            refine sq (o_pv (.bool false) rfl (by kernel_rfl) ?_)
            refine sq (o_not (by kernel_rfl) ?_)
            refine sq (o_not (by kernel_rfl) ?_)
            refine sq (o_not (by kernel_rfl) ?_)
            refine sq (o_pv (.bool false) rfl (by kernel_rfl) ?_)
            refine sq (o_pv (.bool false) rfl (by kernel_rfl) ?_)
            refine sq (o_not (by kernel_rfl) ?_)
            refine sq (o_not (by kernel_rfl) ?_)
            refine sq (o_not (by kernel_rfl) ?_)
            refine sq (o_not (by kernel_rfl) ?_)
            refine sq (o_not (by kernel_rfl) ?_)
            refine sq (o_pv (.bool false) rfl (by kernel_rfl) ?_)
            refine sq (o_pv (.bool false) rfl (by kernel_rfl) ?_)
            refine sq (o_not (by kernel_rfl) ?_)
            refine sq (o_not (by kernel_rfl) ?_)
            refine sq (o_pv (.bool false) rfl (by kernel_rfl) ?_)
            refine sq (o_pv (.bool false) rfl (by kernel_rfl) ?_)
            refine sq (o_not (by kernel_rfl) ?_)
            refine sq (o_not (by kernel_rfl) ?_)
            refine sq (o_not (by kernel_rfl) ?_)
            refine sq (o_pv (.bool false) rfl (by kernel_rfl) ?_)
            refine sq (o_pv (.bool false) rfl (by kernel_rfl) ?_)
            refine nil_ ?_
            refine then_normal (hJ242 _ _ _ ⟨[(0, (.bool false))], fit_mk (fun _ _ => rfl) (by kernel_rfl) (vs_cons (by kernel_rfl) vs_nil), ?_⟩)
            exact ⟨X136, false, rfl, E245, hXo244, hS246, hp⟩
        ·
          replace hp := hp.2 h262
          refine sq (o_pv (.bool false) (by kernel_rfl) (x_bf (x_err_eq r154 hr160 Tryd.underlying43 (by kernel_rfl)) h262) ?_)
          refine sq (o_pv (.bool false) rfl (by kernel_rfl) ?_)
          refine sq (o_pv (.bool false) rfl (by kernel_rfl) ?_)
          refine sq (o_not (by kernel_rfl) ?_)
          refine sq (o_not (by kernel_rfl) ?_)
          refine sq (o_not (by kernel_rfl) ?_)
          refine sq (o_pv (.bool false) rfl (by kernel_rfl) ?_)
          refine sq (o_pv (.bool false) rfl (by kernel_rfl) ?_)
          refine sq (o_not (by kernel_rfl) ?_)
          refine sq (o_not (by kernel_rfl) ?_)
          refine sq (o_not (by kernel_rfl) ?_)
          refine sq (o_not (by kernel_rfl) ?_)
          refine sq (o_not (by kernel_rfl) ?_)
          refine sq (o_pv (.bool false) rfl (by kernel_rfl) ?_)
          refine sq (o_pv (.bool false) rfl (by kernel_rfl) ?_)
          refine sq (o_not (by kernel_rfl) ?_)
          refine sq (o_not (by kernel_rfl) ?_)
          refine sq (o_not (by kernel_rfl) ?_)
          refine sq (o_not (by kernel_rfl) ?_)
          refine sq (o_not (by kernel_rfl) ?_)
          refine sq (o_pv (.bool false) rfl (by kernel_rfl) ?_)
          refine sq (o_pv (.bool false) rfl (by kernel_rfl) ?_)
          refine sq (o_not (by kernel_rfl) ?_)
          refine sq (o_not (by kernel_rfl) ?_)
          refine sq (o_not (by kernel_rfl) ?_)
          refine sq (o_not (by kernel_rfl) ?_)
          refine sq (o_not (by kernel_rfl) ?_)
          refine sq (o_pv (.bool false) rfl (by kernel_rfl) ?_)
          refine sq (o_pv (.bool false) rfl (by kernel_rfl) ?_)
          refine sq (o_not (by kernel_rfl) ?_)
          refine sq (o_not (by kernel_rfl) ?_)
          refine sq (o_not (by kernel_rfl) ?_)
          refine sq (o_not (by kernel_rfl) ?_)
          refine sq (o_not (by kernel_rfl) ?_)
          refine sq (o_pv (.bool false) rfl (by kernel_rfl) ?_)
          refine sq (o_pv (.bool false) rfl (by kernel_rfl) ?_)
          refine sq (o_not (by kernel_rfl) ?_)
          refine sq (o_not (by kernel_rfl) ?_)
          refine sq (o_not (by kernel_rfl) ?_)
          refine sq (o_pv (.bool false) rfl (by kernel_rfl) ?_)
          refine sq (o_pv (.bool false) rfl (by kernel_rfl) ?_)
          refine sq (o_not (by kernel_rfl) ?_)
          refine sq (o_not (by kernel_rfl) ?_)
          refine sq (o_not (by kernel_rfl) ?_)
          refine sq (o_not (by kernel_rfl) ?_)
          refine sq (o_not (by kernel_rfl) ?_)
          refine sq (o_pv (.bool false) rfl (by kernel_rfl) ?_)
          refine sq (o_pv (.bool false) rfl (by kernel_rfl) ?_)
          refine sq (o_not (by kernel_rfl) ?_)
          refine sq (o_not (by kernel_rfl) ?_)
          refine sq (o_pv (.bool false) rfl (by kernel_rfl) ?_)
          refine sq (o_pv (.bool false) rfl (by kernel_rfl) ?_)
          refine sq (o_not (by kernel_rfl) ?_)
          refine sq (o_not (by kernel_rfl) ?_)
          refine sq (o_not (by kernel_rfl) ?_)
          refine sq (o_pv (.bool false) rfl (by kernel_rfl) ?_)
          refine sq (o_pv (.bool false) rfl (by kernel_rfl) ?_)
          refine nil_ ?_
          refine then_normal (hJ242 _ _ _ ⟨[(0, (.bool false))], fit_mk (fun _ _ => rfl) (by kernel_rfl) (vs_cons (by kernel_rfl) vs_nil), ?_⟩)
          exact ⟨X136, false, rfl, E245, hXo244, hS246, hp⟩
      ·
        replace hp := hp.2 h261
        refine sq (o_pv (.bool false) (by kernel_rfl) (x_bf (x_err_eq r92 hr254 Tryd.underlying43 (by kernel_rfl)) h261) ?_)
        refine sq (o_pv (.bool false) rfl (by kernel_rfl) ?_)
        refine sq (o_pv (.bool false) rfl (by kernel_rfl) ?_)
        refine sq (o_not (by kernel_rfl) ?_)
        refine sq (o_not (by kernel_rfl) ?_)
        refine sq (o_pv (.bool false) rfl (by kernel_rfl) ?_)
        refine sq (o_pv (.bool false) rfl (by kernel_rfl) ?_)
        refine sq (o_not (by kernel_rfl) ?_)
        refine sq (o_not (by kernel_rfl) ?_)
        refine sq (o_not (by kernel_rfl) ?_)
        refine sq (o_pv (.bool false) rfl (by kernel_rfl) ?_)
        refine sq (o_pv (.bool false) rfl (by kernel_rfl) ?_)
        refine sq (o_not (by kernel_rfl) ?_)
        refine sq (o_not (by kernel_rfl) ?_)
        refine sq (o_not (by kernel_rfl) ?_)
        refine sq (o_not (by kernel_rfl) ?_)
        refine sq (o_not (by kernel_rfl) ?_)
        refine sq (o_pv (.bool false) rfl (by kernel_rfl) ?_)
        refine sq (o_pv (.bool false) rfl (by kernel_rfl) ?_)
        refine sq (o_not (by kernel_rfl) ?_)
        refine sq (o_not (by kernel_rfl) ?_)
        refine sq (o_not (by kernel_rfl) ?_)
        refine sq (o_not (by kernel_rfl) ?_)
        refine sq (o_not (by kernel_rfl) ?_)
        refine sq (o_pv (.bool false) rfl (by kernel_rfl) ?_)
        refine sq (o_pv (.bool false) rfl (by kernel_rfl) ?_)
        refine sq (o_not (by kernel_rfl) ?_)
        refine sq (o_not (by kernel_rfl) ?_)
        refine sq (o_not (by kernel_rfl) ?_)
        refine sq (o_not (by kernel_rfl) ?_)
        refine sq (o_not (by kernel_rfl) ?_)
        refine sq (o_pv (.bool false) rfl (by kernel_rfl) ?_)
        refine sq (o_pv (.bool false) rfl (by kernel_rfl) ?_)
        refine sq (o_not (by kernel_rfl) ?_)
        refine sq (o_not (by kernel_rfl) ?_)
        refine sq (o_not (by kernel_rfl) ?_)
        refine sq (o_not (by kernel_rfl) ?_)
        refine sq (o_not (by kernel_rfl) ?_)
        refine sq (o_pv (.bool false) rfl (by kernel_rfl) ?_)
        refine sq (o_pv (.bool false) rfl (by kernel_rfl) ?_)
        refine sq (o_not (by kernel_rfl) ?_)
        refine sq (o_not (by kernel_rfl) ?_)
        refine sq (o_not (by kernel_rfl) ?_)
        refine sq (o_pv (.bool false) rfl (by kernel_rfl) ?_)
        refine sq (o_pv (.bool false) rfl (by kernel_rfl) ?_)
        refine sq (o_not (by kernel_rfl) ?_)
        refine sq (o_not (by kernel_rfl) ?_)
        refine sq (o_not (by kernel_rfl) ?_)
        refine sq (o_not (by kernel_rfl) ?_)
        refine sq (o_not (by kernel_rfl) ?_)
        refine sq (o_pv (.bool false) rfl (by kernel_rfl) ?_)
        refine sq (o_pv (.bool false) rfl (by kernel_rfl) ?_)
        refine sq (o_not (by kernel_rfl) ?_)
        refine sq (o_not (by kernel_rfl) ?_)
        refine sq (o_pv (.bool false) rfl (by kernel_rfl) ?_)
        refine sq (o_pv (.bool false) rfl (by kernel_rfl) ?_)
        refine sq (o_not (by kernel_rfl) ?_)
        refine sq (o_not (by kernel_rfl) ?_)
        refine sq (o_not (by kernel_rfl) ?_)
        refine sq (o_pv (.bool false) rfl (by kernel_rfl) ?_)
        refine sq (o_pv (.bool false) rfl (by kernel_rfl) ?_)
        refine nil_ ?_
        refine then_normal (hJ242 _ _ _ ⟨[(0, (.bool false))], fit_mk (fun _ _ => rfl) (by kernel_rfl) (vs_cons (by kernel_rfl) vs_nil), ?_⟩)
        exact ⟨X136, false, rfl, E245, hXo244, hS246, hp⟩
    ·
      replace hp := hp.2 h260
      refine sq (o_pv (.bool false) rfl (x_bf (x_err_eq r38 hr250 Tryd.underlying43 (by kernel_rfl)) h260) ?_)
      refine sq (o_pv (.bool false) rfl (by kernel_rfl) ?_)
      refine sq (o_not (by kernel_rfl) ?_)
      refine sq (o_not (by kernel_rfl) ?_)
      refine sq (o_pv (.bool false) rfl (by kernel_rfl) ?_)
      refine sq (o_pv (.bool false) rfl (by kernel_rfl) ?_)
      refine sq (o_not (by kernel_rfl) ?_)
      refine sq (o_not (by kernel_rfl) ?_)
      refine sq (o_pv (.bool false) rfl (by kernel_rfl) ?_)
      refine sq (o_pv (.bool false) rfl (by kernel_rfl) ?_)
      refine sq (o_not (by kernel_rfl) ?_)
      refine sq (o_not (by kernel_rfl) ?_)
      refine sq (o_not (by kernel_rfl) ?_)
      refine sq (o_pv (.bool false) rfl (by kernel_rfl) ?_)
      refine sq (o_pv (.bool false) rfl (by kernel_rfl) ?_)
      refine sq (o_not (by kernel_rfl) ?_)
      refine sq (o_not (by kernel_rfl) ?_)
      refine sq (o_not (by kernel_rfl) ?_)
      refine sq (o_not (by kernel_rfl) ?_)
      refine sq (o_not (by kernel_rfl) ?_)
      refine sq (o_pv (.bool false) rfl (by kernel_rfl) ?_)
      refine sq (o_pv (.bool false) rfl (by kernel_rfl) ?_)
      refine sq (o_not (by kernel_rfl) ?_)
      refine sq (o_not (by kernel_rfl) ?_)
      refine sq (o_not (by kernel_rfl) ?_)
      refine sq (o_not (by kernel_rfl) ?_)
      refine sq (o_not (by kernel_rfl) ?_)
      refine sq (o_pv (.bool false) rfl (by kernel_rfl) ?_)
      refine sq (o_pv (.bool false) rfl (by kernel_rfl) ?_)
      refine sq (o_not (by kernel_rfl) ?_)
      refine sq (o_not (by kernel_rfl) ?_)
      refine sq (o_not (by kernel_rfl) ?_)
      refine sq (o_not (by kernel_rfl) ?_)
      refine sq (o_not (by kernel_rfl) ?_)
      refine sq (o_pv (.bool false) rfl (by kernel_rfl) ?_)
      refine sq (o_pv (.bool false) rfl (by kernel_rfl) ?_)
      refine sq (o_not (by kernel_rfl) ?_)
      refine sq (o_not (by kernel_rfl) ?_)
      refine sq (o_not (by kernel_rfl) ?_)
      refine sq (o_not (by kernel_rfl) ?_)
      refine sq (o_not (by kernel_rfl) ?_)
      refine sq (o_pv (.bool false) rfl (by kernel_rfl) ?_)
      refine sq (o_pv (.bool false) rfl (by kernel_rfl) ?_)
      refine sq (o_not (by kernel_rfl) ?_)
      refine sq (o_not (by kernel_rfl) ?_)
      refine sq (o_not (by kernel_rfl) ?_)
      refine sq (o_pv (.bool false) rfl (by kernel_rfl) ?_)
      refine sq (o_pv (.bool false) rfl (by kernel_rfl) ?_)
      refine sq (o_not (by kernel_rfl) ?_)
      refine sq (o_not (by kernel_rfl) ?_)
      refine sq (o_not (by kernel_rfl) ?_)
      refine sq (o_not (by kernel_rfl) ?_)
      refine sq (o_not (by kernel_rfl) ?_)
      refine sq (o_pv (.bool false) rfl (by kernel_rfl) ?_)
      refine sq (o_pv (.bool false) rfl (by kernel_rfl) ?_)
      refine sq (o_not (by kernel_rfl) ?_)
      refine sq (o_not (by kernel_rfl) ?_)
      refine sq (o_pv (.bool false) rfl (by kernel_rfl) ?_)
      refine sq (o_pv (.bool false) rfl (by kernel_rfl) ?_)
      refine sq (o_not (by kernel_rfl) ?_)
      refine sq (o_not (by kernel_rfl) ?_)
      refine sq (o_not (by kernel_rfl) ?_)
      refine sq (o_pv (.bool false) rfl (by kernel_rfl) ?_)
      refine sq (o_pv (.bool false) rfl (by kernel_rfl) ?_)
      refine nil_ ?_
      refine then_normal (hJ242 _ _ _ ⟨[(0, (.bool false))], fit_mk (fun _ _ => rfl) (by kernel_rfl) (vs_cons (by kernel_rfl) vs_nil), ?_⟩)
      exact ⟨X136, false, rfl, E245, hXo244, hS246, hp⟩
  ·
    rintro _ w239 g335 ⟨X240, s236, rfl, E257, hXo258, hS259, hv243⟩
    replace hp := hk238 s236 hv243
    refine then_normal (K161 _ _ _ _ ?_)
    refine wp_ret ?_
    refine end_ret hQ (.bool s236) (by kernel_rfl) ?_
    exact ⟨s236, hp, E257, rfl⟩

def rectolaw11_Few_p (a : (List ByteArray)) (b : (List ByteArray)) (Q : Bool → Prop) : Prop :=
  ((a.length ≤ 9223372036854775807) → ((b.length ≤ 9223372036854775807) → (((((a.length : Int) > (300 : Int)) → True) ∧ ((¬ ((a.length : Int) > (300 : Int))) → ((((b.length : Int) > (300 : Int)) → True) ∧ ((¬ ((b.length : Int) > (300 : Int))) → ((((a.length : Int) ≤ (256 : Int)) → ((((b.length : Int) ≤ (256 : Int)) → ((inR .i64 ((a.length : Int) * (b.length : Int))) ∧ True)) ∧ ((¬ ((b.length : Int) ≤ (256 : Int))) → True))) ∧ ((¬ ((a.length : Int) ≤ (256 : Int))) → True)))))) ∧ (((((a.length : Int) > (300 : Int)) ∨ (((b.length : Int) > (300 : Int)) ∨ (((a.length : Int) ≤ (256 : Int)) ∧ (((b.length : Int) ≤ (256 : Int)) ∧ (((a.length : Int) * (b.length : Int)) > (2500 : Int)))))) → Q false) ∧ ((¬ (((a.length : Int) > (300 : Int)) ∨ (((b.length : Int) > (300 : Int)) ∨ (((a.length : Int) ≤ (256 : Int)) ∧ (((b.length : Int) ≤ (256 : Int)) ∧ (((a.length : Int) * (b.length : Int)) > (2500 : Int))))))) → (∃ (I50 : Int → Prop) (m51 : Int → Nat), (I50 (0 : Int)) ∧ (∀ (i28 : Int), (I50 i28) → (inR .i64 i28) → (((i28 < (a.length : Int)) → ((inL a i28) ∧ (((lget a i28).size ≤ maxLen) → (((((lget a i28).size : Int) > (300 : Int)) → Q false) ∧ ((¬ (((lget a i28).size : Int) > (300 : Int))) → ((inR .i64 (i28 + (1 : Int))) ∧ ((I50 (i28 + (1 : Int))) ∧ m51 (i28 + (1 : Int)) < m51 i28))))))) ∧ ((¬ (i28 < (a.length : Int))) → (∃ (I107 : Int → Prop) (m108 : Int → Nat), (I107 (0 : Int)) ∧ (∀ (i85 : Int), (I107 i85) → (inR .i64 i85) → (((i85 < (b.length : Int)) → ((inL b i85) ∧ (((lget b i85).size ≤ maxLen) → (((((lget b i85).size : Int) > (300 : Int)) → Q false) ∧ ((¬ (((lget b i85).size : Int) > (300 : Int))) → ((inR .i64 (i85 + (1 : Int))) ∧ ((I107 (i85 + (1 : Int))) ∧ m108 (i85 + (1 : Int)) < m108 i85))))))) ∧ ((¬ (i85 < (b.length : Int))) → Q true)))))))))))))
set_option maxRecDepth 20000 in
set_option maxHeartbeats 4000000 in
theorem rectolaw11_Few_w {X : List Nat} {w : World} {a : (List ByteArray)} {b : (List ByteArray)} {aa1 : Option Addr} {ca2 : Nat} {ab4 : Option Addr} {cb5 : Nat} {Q : Bool → Prop} (hX0 : Old X w) (ha3 : Sl rStr X w aa1 ca2 a) (hb6 : Sl rStr X w ab4 cb5 b) (hp : rectolaw11_Few_p a b Q) :
    Calls Tryd.prog 37 #[(.slice aa1 a.length ca2), (.slice ab4 b.length cb5)] w (Ret fun v w' => ∃ (r0 : Bool), Q r0 ∧ Evo [] w w' ∧ v = (.bool r0)) := by
  have hXo := hX0
  have E0 : Evo [] w w := RB.refl _ _ _
  have hS : Sub X X := Sub.refl _
  unfold rectolaw11_Few_p at hp
  refine enter_ Tryd.func37 rfl 57 [(0, (.slice aa1 a.length ca2)), (1, (.slice ab4 b.length cb5))] (by kernel_rfl) (fun Qe hQ => ?_)
  replace hp := hp (Sl.len ha3)
  replace hp := hp (Sl.len hb6)
  refine seq_ (fun _ K7 => ?_)
  refine reg_ ?_
  refine sq (o_pv (.bool false) rfl (by kernel_rfl) ?_)
  refine nil_ ?_
  refine then_normal (K7 _ _ _ _ ?_)
  refine seq_ (fun _ K8 => ?_)
  refine seq_ (fun _ K9 => ?_)
  obtain ⟨hp, hq⟩ := hp
  refine ground_ ?_
  refine join_ 8589934464 (fun lq w17 => lq = [(32, (.bool (decide (((a.length : Int) > (300 : Int)) ∨ (((b.length : Int) > (300 : Int)) ∨ (((a.length : Int) ≤ (256 : Int)) ∧ (((b.length : Int) ≤ (256 : Int)) ∧ (((a.length : Int) * (b.length : Int)) > (2500 : Int)))))))))] ∧ w = w17) (fun Kj15 hJ16 => ?_) ?_
  ·
    refine reg_ ?_
    refine sq (o_pv (.slice aa1 a.length ca2) rfl (by kernel_rfl) ?_)
    refine sq (o_pv (.int .i64 (a.length : Int)) rfl (by kernel_rfl) ?_)
    by_cases h19 : (a.length : Int) > (300 : Int)
    ·
      replace hp := hp.1 h19
      refine sq (o_pv (.bool true) rfl (x_dt (p := (a.length : Int) > (300 : Int)) (by kernel_rfl) h19) ?_)
      refine sq (o_pv (.bool true) rfl (by kernel_rfl) ?_)
      refine sq (o_not (by kernel_rfl) ?_)
      refine sq (o_not (by kernel_rfl) ?_)
      refine sq (o_not (by kernel_rfl) ?_)
      refine sq (o_pv (.bool true) rfl (by kernel_rfl) ?_)
      refine sq (o_pv (.bool true) rfl (by kernel_rfl) ?_)
      refine sq (o_not (by kernel_rfl) ?_)
      refine sq (o_not (by kernel_rfl) ?_)
      refine sq (o_not (by kernel_rfl) ?_)
      refine sq (o_not (by kernel_rfl) ?_)
      refine sq (o_not (by kernel_rfl) ?_)
      refine sq (o_not (by kernel_rfl) ?_)
      refine sq (o_not (by kernel_rfl) ?_)
      refine sq (o_not (by kernel_rfl) ?_)
      refine sq (o_not (by kernel_rfl) ?_)
      refine sq (o_not (by kernel_rfl) ?_)
      refine sq (o_not (by kernel_rfl) ?_)
      refine sq (o_not (by kernel_rfl) ?_)
      refine sq (o_not (by kernel_rfl) ?_)
      refine sq (o_not (by kernel_rfl) ?_)
      refine sq (o_not (by kernel_rfl) ?_)
      refine sq (o_not (by kernel_rfl) ?_)
      refine sq (o_pv (.bool true) rfl (by kernel_rfl) ?_)
      refine nil_ ?_
      refine then_normal (hJ16 _ _ _ ⟨[(32, (.bool (decide (((a.length : Int) > (300 : Int)) ∨ (((b.length : Int) > (300 : Int)) ∨ (((a.length : Int) ≤ (256 : Int)) ∧ (((b.length : Int) ≤ (256 : Int)) ∧ (((a.length : Int) * (b.length : Int)) > (2500 : Int)))))))))], fit_mk (fun _ _ => rfl) (by kernel_rfl) (vs_cons (Eq.trans (b := (.bool true)) (by kernel_rfl) (dec_t (iff_true_intro (Or.inl h19))).symm) vs_nil), rfl, rfl⟩)
    ·
      replace hp := hp.2 h19
      refine sq (o_pv (.bool false) rfl (x_df (p := (a.length : Int) > (300 : Int)) (by kernel_rfl) h19) ?_)
      refine sq (o_pv (.bool false) rfl (by kernel_rfl) ?_)
      refine sq (o_pv (.slice ab4 b.length cb5) (by kernel_rfl) (by kernel_rfl) ?_)
      refine sq (o_pv (.int .i64 (b.length : Int)) (by kernel_rfl) (by kernel_rfl) ?_)
      by_cases h20 : (b.length : Int) > (300 : Int)
      ·
        replace hp := hp.1 h20
        refine sq (o_pv (.bool true) (by kernel_rfl) (x_dt (p := (b.length : Int) > (300 : Int)) (by kernel_rfl) h20) ?_)
        refine sq (o_pv (.bool true) rfl (by kernel_rfl) ?_)
        refine sq (o_pv (.bool true) rfl (by kernel_rfl) ?_)
        refine sq (o_not (by kernel_rfl) ?_)
        refine sq (o_not (by kernel_rfl) ?_)
        refine sq (o_not (by kernel_rfl) ?_)
        refine sq (o_not (by kernel_rfl) ?_)
        refine sq (o_not (by kernel_rfl) ?_)
        refine sq (o_not (by kernel_rfl) ?_)
        refine sq (o_not (by kernel_rfl) ?_)
        refine sq (o_not (by kernel_rfl) ?_)
        refine sq (o_not (by kernel_rfl) ?_)
        refine sq (o_not (by kernel_rfl) ?_)
        refine sq (o_not (by kernel_rfl) ?_)
        refine sq (o_not (by kernel_rfl) ?_)
        refine sq (o_not (by kernel_rfl) ?_)
        refine sq (o_not (by kernel_rfl) ?_)
        refine sq (o_not (by kernel_rfl) ?_)
        refine sq (o_not (by kernel_rfl) ?_)
        refine sq (o_pv (.bool true) rfl (by kernel_rfl) ?_)
        refine nil_ ?_
        refine then_normal (hJ16 _ _ _ ⟨[(32, (.bool (decide (((a.length : Int) > (300 : Int)) ∨ (((b.length : Int) > (300 : Int)) ∨ (((a.length : Int) ≤ (256 : Int)) ∧ (((b.length : Int) ≤ (256 : Int)) ∧ (((a.length : Int) * (b.length : Int)) > (2500 : Int)))))))))], fit_mk (fun _ _ => rfl) (by kernel_rfl) (vs_cons (Eq.trans (b := (.bool true)) (by kernel_rfl) (dec_t ((or_iff_right h19).trans (iff_true_intro (Or.inl h20)))).symm) vs_nil), rfl, rfl⟩)
      ·
        replace hp := hp.2 h20
        refine sq (o_pv (.bool false) (by kernel_rfl) (x_df (p := (b.length : Int) > (300 : Int)) (by kernel_rfl) h20) ?_)
        refine sq (o_pv (.bool false) rfl (by kernel_rfl) ?_)
        refine sq (o_pv (.bool false) rfl (by kernel_rfl) ?_)
        refine sq (o_pv (.slice aa1 a.length ca2) (by kernel_rfl) (by kernel_rfl) ?_)
        refine sq (o_pv (.int .i64 (a.length : Int)) (by kernel_rfl) (by kernel_rfl) ?_)
        by_cases h21 : (a.length : Int) ≤ (256 : Int)
        ·
          replace hp := hp.1 h21
          refine sq (o_pv (.bool true) (by kernel_rfl) (x_dt (p := (a.length : Int) ≤ (256 : Int)) (by kernel_rfl) h21) ?_)
          refine sq (o_pv (.bool true) (by kernel_rfl) (by kernel_rfl) ?_)
          refine sq (o_pv (.slice ab4 b.length cb5) (by kernel_rfl) (by kernel_rfl) ?_)
          refine sq (o_pv (.int .i64 (b.length : Int)) (by kernel_rfl) (by kernel_rfl) ?_)
          by_cases h22 : (b.length : Int) ≤ (256 : Int)
          ·
            replace hp := hp.1 h22
            refine sq (o_pv (.bool true) (by kernel_rfl) (x_dt (p := (b.length : Int) ≤ (256 : Int)) (by kernel_rfl) h22) ?_)
            refine sq (o_pv (.bool true) (by kernel_rfl) (by kernel_rfl) ?_)
            refine sq (o_pv (.bool true) (by kernel_rfl) (by kernel_rfl) ?_)
            refine sq (o_pv (.slice aa1 a.length ca2) (by kernel_rfl) (by kernel_rfl) ?_)
            refine sq (o_pv (.int .i64 (a.length : Int)) (by kernel_rfl) (by kernel_rfl) ?_)
            refine sq (o_pv (.slice ab4 b.length cb5) (by kernel_rfl) (by kernel_rfl) ?_)
            refine sq (o_pv (.int .i64 (b.length : Int)) (by kernel_rfl) (by kernel_rfl) ?_)
            obtain ⟨h23, hp⟩ := hp
            refine sq (o_pv (.int .i64 ((a.length : Int) * (b.length : Int))) (by kernel_rfl) (x_mul2 (k := .i64) (a := (a.length : Int)) (b := (b.length : Int)) ((a.length : Int) * (b.length : Int)) (by kernel_rfl) (by kernel_rfl) (wrap_inR h23)) ?_)
            refine sq (o_pv (.bool (decide (((a.length : Int) * (b.length : Int)) > (2500 : Int)))) (by kernel_rfl) (by kernel_rfl) ?_)
            refine sq (o_pv (.bool (decide (((a.length : Int) * (b.length : Int)) > (2500 : Int)))) (by kernel_rfl) (by kernel_rfl) ?_)
            refine sq (o_pv (.bool (decide (((a.length : Int) * (b.length : Int)) > (2500 : Int)))) rfl (by kernel_rfl) ?_)
            refine nil_ ?_
            refine then_normal (hJ16 _ _ _ ⟨[(32, (.bool (decide (((a.length : Int) > (300 : Int)) ∨ (((b.length : Int) > (300 : Int)) ∨ (((a.length : Int) ≤ (256 : Int)) ∧ (((b.length : Int) ≤ (256 : Int)) ∧ (((a.length : Int) * (b.length : Int)) > (2500 : Int)))))))))], fit_mk (fun _ _ => rfl) (by kernel_rfl) (vs_cons (Eq.trans (b := (.bool (decide (((a.length : Int) * (b.length : Int)) > (2500 : Int))))) (by kernel_rfl) (dec_d ((or_iff_right h19).trans ((or_iff_right h20).trans ((and_iff_right h21).trans ((and_iff_right h22).trans Iff.rfl))))).symm) vs_nil), rfl, rfl⟩)
          ·
            replace hp := hp.2 h22
            refine sq (o_pv (.bool false) (by kernel_rfl) (x_df (p := (b.length : Int) ≤ (256 : Int)) (by kernel_rfl) h22) ?_)
            refine sq (o_pv (.bool false) (by kernel_rfl) (by kernel_rfl) ?_)
            refine sq (o_pv (.bool false) (by kernel_rfl) (by kernel_rfl) ?_)
            refine sq (o_not (by kernel_rfl) ?_)
            refine sq (o_not (by kernel_rfl) ?_)
            refine sq (o_not (by kernel_rfl) ?_)
            refine sq (o_not (by kernel_rfl) ?_)
            refine sq (o_not (by kernel_rfl) ?_)
            refine sq (o_not (by kernel_rfl) ?_)
            refine sq (o_pv (.bool false) (by kernel_rfl) (by kernel_rfl) ?_)
            refine sq (o_pv (.bool false) rfl (by kernel_rfl) ?_)
            refine nil_ ?_
            refine then_normal (hJ16 _ _ _ ⟨[(32, (.bool (decide (((a.length : Int) > (300 : Int)) ∨ (((b.length : Int) > (300 : Int)) ∨ (((a.length : Int) ≤ (256 : Int)) ∧ (((b.length : Int) ≤ (256 : Int)) ∧ (((a.length : Int) * (b.length : Int)) > (2500 : Int)))))))))], fit_mk (fun _ _ => rfl) (by kernel_rfl) (vs_cons (Eq.trans (b := (.bool false)) (by kernel_rfl) (dec_f ((or_iff_right h19).trans ((or_iff_right h20).trans ((and_iff_right h21).trans (iff_false_intro (fun h => h22 h.1)))))).symm) vs_nil), rfl, rfl⟩)
        ·
          replace hp := hp.2 h21
          refine sq (o_pv (.bool false) (by kernel_rfl) (x_df (p := (a.length : Int) ≤ (256 : Int)) (by kernel_rfl) h21) ?_)
          refine sq (o_pv (.bool false) (by kernel_rfl) (by kernel_rfl) ?_)
          refine sq (o_not (by kernel_rfl) ?_)
          refine sq (o_not (by kernel_rfl) ?_)
          refine sq (o_not (by kernel_rfl) ?_)
          refine sq (o_pv (.bool false) (by kernel_rfl) (by kernel_rfl) ?_)
          refine sq (o_pv (.bool false) (by kernel_rfl) (by kernel_rfl) ?_)
          refine sq (o_not (by kernel_rfl) ?_)
          refine sq (o_not (by kernel_rfl) ?_)
          refine sq (o_not (by kernel_rfl) ?_)
          refine sq (o_not (by kernel_rfl) ?_)
          refine sq (o_not (by kernel_rfl) ?_)
          refine sq (o_not (by kernel_rfl) ?_)
          refine sq (o_pv (.bool false) (by kernel_rfl) (by kernel_rfl) ?_)
          refine sq (o_pv (.bool false) rfl (by kernel_rfl) ?_)
          refine nil_ ?_
          refine then_normal (hJ16 _ _ _ ⟨[(32, (.bool (decide (((a.length : Int) > (300 : Int)) ∨ (((b.length : Int) > (300 : Int)) ∨ (((a.length : Int) ≤ (256 : Int)) ∧ (((b.length : Int) ≤ (256 : Int)) ∧ (((a.length : Int) * (b.length : Int)) > (2500 : Int)))))))))], fit_mk (fun _ _ => rfl) (by kernel_rfl) (vs_cons (Eq.trans (b := (.bool false)) (by kernel_rfl) (dec_f ((or_iff_right h19).trans ((or_iff_right h20).trans (iff_false_intro (fun h => h21 h.1))))).symm) vs_nil), rfl, rfl⟩)
  ·
    rintro _ w17 g18 ⟨rfl, hw⟩
    subst hw
    have hp := hq
    refine then_normal (K9 _ _ _ _ ?_)
    refine cond_d (((a.length : Int) > (300 : Int)) ∨ (((b.length : Int) > (300 : Int)) ∨ (((a.length : Int) ≤ (256 : Int)) ∧ (((b.length : Int) ≤ (256 : Int)) ∧ (((a.length : Int) * (b.length : Int)) > (2500 : Int)))))) (by kernel_rfl) (fun h24 => ?_) (fun h24 => ?_)
    ·
      replace hp := hp.1 h24
      refine seq_ (fun _ K25 => ?_)
      refine reg_ ?_
      refine sq (o_pv (.bool false) rfl (by kernel_rfl) ?_)
      refine nil_ ?_
      refine then_normal (K25 _ _ _ _ ?_)
      refine wp_ret ?_
      refine then_ret ?_
      refine end_ret hQ (.bool false) (by kernel_rfl) ?_
      exact ⟨false, hp, E0, rfl⟩
    ·
      replace hp := hp.2 h24
      refine wp_skip ?_
      refine then_normal (K8 _ _ _ _ ?_)
      refine seq_ (fun _ K26 => ?_)
      refine seq_ (fun _ K27 => ?_)
      refine reg_ ?_
      refine sq (o_pv (.int .i64 (0 : Int)) rfl (by kernel_rfl) ?_)
      refine nil_ ?_
      refine then_normal (K27 _ _ _ _ ?_)
      refine wp_block ?_
      obtain ⟨I50, m51, hI52, hp⟩ := hp
      refine loop_ 35175782154288 (fun kq lq w54 => ∃ (X55 : List Nat) (i28 : Int), (lq = [(5, (.int .i64 i28))]) ∧ (kq = m51 i28) ∧ (Evo [] w w54) ∧ (Old X55 w54) ∧ (Sub X X55) ∧ (Sl rStr X55 w54 aa1 ca2 a) ∧ (Sl rStr X55 w54 ab4 cb5 b) ∧ (inR .i64 i28) ∧ (I50 i28)) (m51 (0 : Int)) [(5, (.int .i64 (0 : Int)))] (vs_cons (by kernel_rfl) vs_nil) ⟨X, (0 : Int), rfl, rfl, E0, hXo, hS, ha3, hb6, (by decide : inR .i64 (0 : Int)), hI52⟩ ?_
      rintro _ _ w54 g57 ⟨X55, i28, rfl, rfl, E60, hXo61, hS62, ha63, hb64, ri29, hI53⟩ Kl58 hA59
      replace hp := hp i28 hI53 ri29
      refine seq_ (fun _ K65 => ?_)
      refine seq_ (fun _ K66 => ?_)
      refine reg_ ?_
      refine sq (o_pv (.int .i64 i28) rfl (by kernel_rfl) ?_)
      refine sq (o_pv (.slice aa1 a.length ca2) rfl (by kernel_rfl) ?_)
      refine sq (o_pv (.int .i64 (a.length : Int)) rfl (by kernel_rfl) ?_)
      refine sq (o_pv (.bool (decide (i28 < (a.length : Int)))) rfl (by kernel_rfl) ?_)
      refine nil_ ?_
      refine then_normal (K66 _ _ _ _ ?_)
      refine cond_d (i28 < (a.length : Int)) (by kernel_rfl) (fun h67 => ?_) (fun h67 => ?_)
      ·
        replace hp := hp.1 h67
        refine wp_skip ?_
        refine then_normal (K65 _ _ _ _ ?_)
        refine seq_ (fun _ K68 => ?_)
        refine wp_block ?_
        refine seq_ (fun _ K69 => ?_)
        refine reg_ ?_
        refine sq (o_pv (.slice aa1 a.length ca2) rfl (by kernel_rfl) ?_)
        refine sq (o_pv (.int .i64 i28) rfl (by kernel_rfl) ?_)
        obtain ⟨h70, hp⟩ := hp
        obtain ⟨b71, o72, cs73, ha74, nx75, lt76, ok77, hc78⟩ := Sl.atI ha63 i28 h70
        obtain ⟨rfl, ze79⟩ := ok77
        replace hp := hp ze79
        refine sq (o_pv (.pointer (some ⟨b71, o72 + i28.toNat * 1, none⟩)) rfl (x_ixA (m := a.length) (c := ca2) (k := .i64) (i := i28) Tryd.underlying22 Tryd.sizeOf9 (by rw [← ha74]; kernel_rfl) (by kernel_rfl) h70) ?_)
        refine sq (o_pv (.string (lget a i28)) rfl (x_load1 (by kernel_rfl) Tryd.isAgg9 (hc78 0 _ rfl)) ?_)
        refine sq (o_pv (.int .i64 ((lget a i28).size : Int)) rfl (by kernel_rfl) ?_)
        refine sq (o_pv (.bool (decide (((lget a i28).size : Int) > (300 : Int)))) rfl (by kernel_rfl) ?_)
        refine nil_ ?_
        refine then_normal (K69 _ _ _ _ ?_)
        refine cond_d (((lget a i28).size : Int) > (300 : Int)) (by kernel_rfl) (fun h80 => ?_) (fun h80 => ?_)
        ·
          replace hp := hp.1 h80
          refine seq_ (fun _ K81 => ?_)
          refine reg_ ?_
          refine sq (o_pv (.bool false) rfl (by kernel_rfl) ?_)
          refine nil_ ?_
          refine then_normal (K81 _ _ _ _ ?_)
          refine wp_ret ?_
          refine blk_ret ?_
          refine then_ret ?_
          refine then_ret ?_
          refine blk_ret ?_
          refine then_ret ?_
          refine end_ret hQ (.bool false) (by kernel_rfl) ?_
          exact ⟨false, hp, E60, rfl⟩
        ·
          replace hp := hp.2 h80
          refine wp_skip ?_
          refine blk_normal ?_
          refine then_normal (K68 _ _ _ _ ?_)
          refine reg_ ?_
          refine sq (o_pv (.int .i64 i28) rfl (by kernel_rfl) ?_)
          obtain ⟨h82, hp⟩ := hp
          refine sq (o_pv (.int .i64 (i28 + (1 : Int))) rfl (x_add2 (k := .i64) (a := i28) (b := (1 : Int)) (i28 + (1 : Int)) (by kernel_rfl) (by kernel_rfl) (wrap_inR h82)) ?_)
          refine sq (o_pv (.int .i64 (i28 + (1 : Int))) rfl (by kernel_rfl) ?_)
          refine nil_ ?_
          refine then_normal (hA59 _ _ _ ⟨_, [(5, (.int .i64 (i28 + (1 : Int))))], hp.2, fit_mk (AgB.mix _ _ _) (by kernel_rfl) (vs_cons (by kernel_rfl) vs_nil), ?_⟩)
          exact ⟨X55, (i28 + (1 : Int)), rfl, rfl, E60, hXo61, hS62, ha63, hb64, h82, hp.1⟩
      ·
        replace hp := hp.2 h67
        refine wp_exit ?_
        refine then_exit ?_
        refine then_exit ?_
        refine blk_exit ?_
        refine then_normal (K26 _ _ _ _ ?_)
        refine seq_ (fun _ K83 => ?_)
        refine seq_ (fun _ K84 => ?_)
        refine reg_ ?_
        refine sq (o_pv (.int .i64 (0 : Int)) rfl (by kernel_rfl) ?_)
        refine nil_ ?_
        refine then_normal (K84 _ _ _ _ ?_)
        refine wp_block ?_
        obtain ⟨I107, m108, hI109, hp⟩ := hp
        refine loop_ 144080003703767120 (fun kq lq w111 => ∃ (X112 : List Nat) (i85 : Int), (lq = [(6, (.int .i64 i85))]) ∧ (kq = m108 i85) ∧ (Evo [] w w111) ∧ (Old X112 w111) ∧ (Sub X X112) ∧ (Sl rStr X112 w111 ab4 cb5 b) ∧ (inR .i64 i85) ∧ (I107 i85)) (m108 (0 : Int)) [(6, (.int .i64 (0 : Int)))] (vs_cons (by kernel_rfl) vs_nil) ⟨X55, (0 : Int), rfl, rfl, E60, hXo61, hS62, hb64, (by decide : inR .i64 (0 : Int)), hI109⟩ ?_
        rintro _ _ w111 g114 ⟨X112, i85, rfl, rfl, E117, hXo118, hS119, hb120, ri86, hI110⟩ Kl115 hA116
        replace hp := hp i85 hI110 ri86
        refine seq_ (fun _ K121 => ?_)
        refine seq_ (fun _ K122 => ?_)
        refine reg_ ?_
        refine sq (o_pv (.int .i64 i85) rfl (by kernel_rfl) ?_)
        refine sq (o_pv (.slice ab4 b.length cb5) rfl (by kernel_rfl) ?_)
        refine sq (o_pv (.int .i64 (b.length : Int)) rfl (by kernel_rfl) ?_)
        refine sq (o_pv (.bool (decide (i85 < (b.length : Int)))) rfl (by kernel_rfl) ?_)
        refine nil_ ?_
        refine then_normal (K122 _ _ _ _ ?_)
        refine cond_d (i85 < (b.length : Int)) (by kernel_rfl) (fun h123 => ?_) (fun h123 => ?_)
        ·
          replace hp := hp.1 h123
          refine wp_skip ?_
          refine then_normal (K121 _ _ _ _ ?_)
          refine seq_ (fun _ K124 => ?_)
          refine wp_block ?_
          refine seq_ (fun _ K125 => ?_)
          refine reg_ ?_
          refine sq (o_pv (.slice ab4 b.length cb5) rfl (by kernel_rfl) ?_)
          refine sq (o_pv (.int .i64 i85) rfl (by kernel_rfl) ?_)
          obtain ⟨h126, hp⟩ := hp
          obtain ⟨b127, o128, cs129, ha130, nx131, lt132, ok133, hc134⟩ := Sl.atI hb120 i85 h126
          obtain ⟨rfl, ze135⟩ := ok133
          replace hp := hp ze135
          refine sq (o_pv (.pointer (some ⟨b127, o128 + i85.toNat * 1, none⟩)) rfl (x_ixA (m := b.length) (c := cb5) (k := .i64) (i := i85) Tryd.underlying22 Tryd.sizeOf9 (by rw [← ha130]; kernel_rfl) (by kernel_rfl) h126) ?_)
          refine sq (o_pv (.string (lget b i85)) rfl (x_load1 (by kernel_rfl) Tryd.isAgg9 (hc134 0 _ rfl)) ?_)
          refine sq (o_pv (.int .i64 ((lget b i85).size : Int)) rfl (by kernel_rfl) ?_)
          refine sq (o_pv (.bool (decide (((lget b i85).size : Int) > (300 : Int)))) rfl (by kernel_rfl) ?_)
          refine nil_ ?_
          refine then_normal (K125 _ _ _ _ ?_)
          refine cond_d (((lget b i85).size : Int) > (300 : Int)) (by kernel_rfl) (fun h136 => ?_) (fun h136 => ?_)
          ·
            replace hp := hp.1 h136
            refine seq_ (fun _ K137 => ?_)
            refine reg_ ?_
            refine sq (o_pv (.bool false) rfl (by kernel_rfl) ?_)
            refine nil_ ?_
            refine then_normal (K137 _ _ _ _ ?_)
            refine wp_ret ?_
            refine blk_ret ?_
            refine then_ret ?_
            refine then_ret ?_
            refine blk_ret ?_
            refine then_ret ?_
            refine end_ret hQ (.bool false) (by kernel_rfl) ?_
            exact ⟨false, hp, E117, rfl⟩
          ·
            replace hp := hp.2 h136
            refine wp_skip ?_
            refine blk_normal ?_
            refine then_normal (K124 _ _ _ _ ?_)
            refine reg_ ?_
            refine sq (o_pv (.int .i64 i85) rfl (by kernel_rfl) ?_)
            obtain ⟨h138, hp⟩ := hp
            refine sq (o_pv (.int .i64 (i85 + (1 : Int))) rfl (x_add2 (k := .i64) (a := i85) (b := (1 : Int)) (i85 + (1 : Int)) (by kernel_rfl) (by kernel_rfl) (wrap_inR h138)) ?_)
            refine sq (o_pv (.int .i64 (i85 + (1 : Int))) rfl (by kernel_rfl) ?_)
            refine nil_ ?_
            refine then_normal (hA116 _ _ _ ⟨_, [(6, (.int .i64 (i85 + (1 : Int))))], hp.2, fit_mk (AgB.mix _ _ _) (by kernel_rfl) (vs_cons (by kernel_rfl) vs_nil), ?_⟩)
            exact ⟨X112, (i85 + (1 : Int)), rfl, rfl, E117, hXo118, hS119, hb120, h138, hp.1⟩
        ·
          replace hp := hp.2 h123
          refine wp_exit ?_
          refine then_exit ?_
          refine then_exit ?_
          refine blk_exit ?_
          refine then_normal (K83 _ _ _ _ ?_)
          refine seq_ (fun _ K139 => ?_)
          refine reg_ ?_
          refine sq (o_pv (.bool true) rfl (by kernel_rfl) ?_)
          refine nil_ ?_
          refine then_normal (K139 _ _ _ _ ?_)
          refine wp_ret ?_
          refine end_ret hQ (.bool true) (by kernel_rfl) ?_
          exact ⟨true, hp, E117, rfl⟩

def rectoref3_At_p (word : ByteArray) (at_ : Int) (e : Int) (Q : S_rectoref3_Wrong → Prop) : Prop :=
  ((word.size ≤ maxLen) → ((inR .i64 at_) → ((inR .i64 e) → Q (S_rectoref3_Wrong.mk ([(S_rectoref3_Part.mk word at_)]) e))))
set_option maxRecDepth 20000 in
set_option maxHeartbeats 4000000 in
theorem rectoref3_At_w {X : List Nat} {w : World} {word : ByteArray} {at_ : Int} {e : Int} {Q : S_rectoref3_Wrong → Prop} (hX0 : Old X w) (zword1 : word.size ≤ maxLen) (rat_2 : inR .i64 at_) (re3 : inR .i64 e) (hp : rectoref3_At_p word at_ e Q) :
    Calls Tryd.prog 49 #[(.string word), (.int .i64 at_), (.int .i64 e)] w (Ret fun v w' => ∃ (r0 : S_rectoref3_Wrong), Q r0 ∧ Evo [] w w' ∧ ∃ (aq0Parts1 : Option Addr) (cq0Parts2 : Nat), v = (.agg #[(.slice aq0Parts1 r0.Parts.length cq0Parts2), (.int .i64 r0.Err)]) ∧ Sl r_rectoref3_Part X w' aq0Parts1 cq0Parts2 r0.Parts ∧ inR .i64 r0.Err) := by
  have hXo := hX0
  have E0 : Evo [] w w := RB.refl _ _ _
  have hS : Sub X X := Sub.refl _
  unfold rectoref3_At_p at hp
  refine enter_ Tryd.func49 rfl 13 [(0, (.string word)), (1, (.int .i64 at_)), (2, (.int .i64 e))] (by kernel_rfl) (fun Qe hQ => ?_)
  replace hp := hp zword1
  replace hp := hp rat_2
  replace hp := hp re3
  refine seq_ (fun _ K4 => ?_)
  refine reg_ ?_
  refine sq (o_newX [(.slice none 0 0), (.int .i64 (0 : Int))] 28 (X := X) (B := w.heap.size) E0.size rfl (by kernel_rfl) ?_)
  intro b5 w6 X7 s8 k9 n10
  refine nil_ ?_
  refine then_normal (K4 _ _ _ _ ?_)
  refine seq_ (fun _ K11 => ?_)
  refine reg_ ?_
  refine sq (o_pv (.string word) rfl (by kernel_rfl) ?_)
  refine sq (o_pv (.int .i64 at_) rfl (by kernel_rfl) ?_)
  refine sq (o_pv (.agg #[(.string word), (.int .i64 at_)]) rfl (by kernel_rfl) ?_)
  have E18 := (Evo.then0 E0 (Step.evo s8))
  refine sq (o_rowX (R := r_rectoref3_Part) [(.string word), (.int .i64 at_)] [(S_rectoref3_Part.mk word at_)] 153 1 (X := X7) (B := w.heap.size) E18.size rfl (by kernel_rfl) (Flat.cons (cs := [(.string word), (.int .i64 at_)]) (r_rectoref3_Part_mk zword1 rat_2) Flat.nil) rfl (by decide) ?_)
  intro b12 w13 X14 s15 O16 n17
  have p19 := n17 _ (OB.old k9)
  refine sq (o_pv (.int .i64 e) rfl (by kernel_rfl) ?_)
  refine sq (o_pv (.agg #[(.slice (some ⟨b12, 0, none⟩) 1 1), (.int .i64 e)]) rfl (by kernel_rfl) ?_)
  have k20 := (OB.step0 k9 s15)
  have E21 := (Evo.then0 E18 (Step.evo s15))
  refine sq (o_stB (o := 0) (v := (.agg #[(.slice (some ⟨b12, 0, none⟩) 1 1), (.int .i64 e)])) [(.slice (some ⟨b12, 0, none⟩) 1 1), (.int .i64 e)] rfl k20 (by kernel_rfl) (by kernel_rfl) Tryd.sizeOf28 rfl rfl rfl ?_)
  intro w22 s23 k24
  refine nil_ ?_
  refine then_normal (K11 _ _ _ _ ?_)
  refine wp_ret ?_
  have O25 := (OS.step O16 s23 (Ap.symm p19))
  have hS26 := (Sub.trans (Sub.trans (Sub.trans hS (Step.up s8)) (Step.up s15)) (Step.up s23))
  have E27 := (Evo.thenW E21 (Step.evo s23) k20.2.2)
  refine end_ret hQ (.agg #[(.slice (some ⟨b12, 0, none⟩) 1 1), (.int .i64 e)]) (rs_single Tryd.results49 (rs_agg [(.slice (some ⟨b12, 0, none⟩) 1 1), (.int .i64 e)] (by kernel_rfl) Tryd.isAgg28 Tryd.sizeOf28 (k24.2.1.cells' 0 rfl))) ?_
  exact ⟨(S_rectoref3_Wrong.mk ([(S_rectoref3_Part.mk word at_)]) e), hp, E27, (some ⟨b12, 0, none⟩), 1, (by (rw [show 1 = ([(S_rectoref3_Part.mk word at_)]).length from O25.1]); first | done | rfl), (OS.out O25 hS26 hX0), re3⟩

end Go.Proofs.YtkmenljohhngjaaDoor
