/- Walks of functions: what each asks and computes, as a plain predicate, and the contract from it. -/
import Derived.Test.YtmepomdpjlbaaaaChecked
import Derived.Test.YtmepomdpjlbaaaaD1
namespace Go.Proofs.Ytmepomdpjlbaaaa
open Go

theorem elT45 : ElemT Try.prog 45 49 2 24 := elemT_mk (i := Try.t49) (z := (.agg #[(.int .i64 0), (.string (ByteArray.mk #[]))])) (by kernel_rfl) (by kernel_rfl) (by kernel_rfl) (by kernel_rfl) Try.underlying45 Try.sizeOf49 (by decide) (by decide)
theorem elT100 : ElemT Try.prog 100 104 3 24 := elemT_mk (i := Try.t104) (z := (.agg #[(.int .i64 0), (.int .i64 0), (.int .i64 0)])) (by kernel_rfl) (by kernel_rfl) (by kernel_rfl) (by kernel_rfl) Try.underlying100 Try.sizeOf104 (by decide) (by decide)

def diff_Lines_p (a : (List ByteArray)) (b : (List ByteArray)) (Q : (List S_diff_Edit) → PErr → Prop) : Prop :=
  ((a.length ≤ 9223372036854775807) → ((b.length ≤ 9223372036854775807) → (diff_made_p a b (fun (r9 : (Option S_diff_table)) (r10 : PErr) => ((((!r10.isNil) = true) → Q ([] : List S_diff_Edit) r10) ∧ (((!r10.isNil) = false) → (∃ d272 : S_diff_table, (r9 = some d272) ∧ ((d272.a.length ≤ 9223372036854775807) → ((d272.b.length ≤ 9223372036854775807) → ((d272.n.length ≤ 9223372036854775807) → (∃ (I782 : (List S_diff_Edit) → Int → Int → Prop) (m783 : (List S_diff_Edit) → Int → Int → Nat), (I782 ([] : List S_diff_Edit) (0 : Int) (0 : Int)) ∧ ∀ (out529 : (List S_diff_Edit)) (i534 : Int) (j536 : Int), (I782 out529 i534 j536) → (out529.length ≤ 9223372036854775807) → (inR .i64 i534) → (inR .i64 j536) → (∃ k810 : Bool → Prop, (∀ (s809 : Bool), k810 s809 → (((s809 = true) → (diff_table_step_p d272 i534 j536 (fun (r831 : Int) => ((inR .i64 r831) → (∃ k925 : Int → Int → ByteArray → Prop, (∀ (i919 : Int) (j921 : Int) (line923 : ByteArray), k925 i919 j921 line923 → (inR .i64 i919) → (inR .i64 j921) → (line923.size ≤ maxLen) → (((out529.length + ([(S_diff_Edit.mk r831 line923)]).length) * 24 ≤ 140737488355328) ∧ ((I782 (out529 ++ ([(S_diff_Edit.mk r831 line923)])) i919 j921) ∧ m783 (out529 ++ ([(S_diff_Edit.mk r831 line923)])) i919 j921 < m783 out529 i534 j536))) ∧ (∃ k967 : Int → Prop, (∀ (j965 : Int), k967 j965 → (inR .i64 j965) → ((inL a i534) ∧ (((lget a i534).size ≤ maxLen) → ((inR .i64 (i534 + (1 : Int))) ∧ (k925 (i534 + (1 : Int)) j965 (lget a i534)))))) ∧ (((r831 = (1 : Int)) → ((inR .i64 (j536 + (1 : Int))) ∧ (k967 (j536 + (1 : Int))))) ∧ ((¬ (r831 = (1 : Int))) → (((r831 = (2 : Int)) → (k967 j536)) ∧ ((¬ (r831 = (2 : Int))) → (((r831 = (3 : Int)) → ((inL b j536) ∧ (((lget b j536).size ≤ maxLen) → ((inR .i64 (j536 + (1 : Int))) ∧ (k925 i534 (j536 + (1 : Int)) (lget b j536)))))) ∧ ((¬ (r831 = (3 : Int))) → (k925 i534 j536 (ByteArray.mk #[])))))))))))))) ∧ ((s809 = false) → (slices_Clip_diff_Edit_diff_Edit_p out529 (fun (r1051 : (List S_diff_Edit)) => ((r1051.length ≤ 9223372036854775807) → Q r1051 PErr.nil)))))) ∧ (((i534 < (a.length : Int)) → (k810 true)) ∧ ((¬ (i534 < (a.length : Int))) → (k810 (decide (j536 < (b.length : Int))))))))))))))))))
set_option maxRecDepth 20000 in
set_option maxHeartbeats 4000000 in
theorem diff_Lines_w {X : List Nat} {w : World} {a : (List ByteArray)} {b : (List ByteArray)} {aa1 : Option Addr} {ca2 : Nat} {ab4 : Option Addr} {cb5 : Nat} {Q : (List S_diff_Edit) → PErr → Prop} (hX0 : Old X w) (ha3 : Sl rStr X w aa1 ca2 a) (hb6 : Sl rStr X w ab4 cb5 b) (hp : diff_Lines_p a b Q) :
    Calls Try.prog 28 #[(.slice aa1 a.length ca2), (.slice ab4 b.length cb5)] w (Ret fun v w' => ∃ (r0 : (List S_diff_Edit)) (r1 : PErr), Q r0 r1 ∧ Evo [] w w' ∧ ∃ (aq01 : Option Addr) (cq02 : Nat) (vq14 : Value), v = .tuple #[(.slice aq01 r0.length cq02), vq14] ∧ Sl r_diff_Edit X w' aq01 cq02 r0 ∧ (rErr 57 129 131).ok X w' ([vq14]) r1) := by
  have hXo := hX0
  have E0 : Evo [] w w := RB.refl _ _ _
  have hS : Sub X X := Sub.refl _
  unfold diff_Lines_p at hp
  refine enter_ Try.func28 rfl 65 [(0, (.slice aa1 a.length ca2)), (1, (.slice ab4 b.length cb5))] (by kernel_rfl) (fun Qe hQ => ?_)
  replace hp := hp (Sl.len ha3)
  replace hp := hp (Sl.len hb6)
  refine seq_ (fun _ K7 => ?_)
  refine reg_ ?_
  refine sq (o_pv (.slice none 0 0) rfl (by kernel_rfl) ?_)
  refine sq (o_pv .nilIface rfl (by kernel_rfl) ?_)
  refine nil_ ?_
  refine then_normal (K7 _ _ _ _ ?_)
  refine seq_ (fun _ K8 => ?_)
  refine reg_ ?_
  refine sq (o_pv (.slice aa1 a.length ca2) rfl (by kernel_rfl) ?_)
  refine sq (o_pv (.slice ab4 b.length cb5) rfl (by kernel_rfl) ?_)
  refine sq (o_call 72 #[(.slice aa1 a.length ca2), (.slice ab4 b.length cb5)] rfl (x_call Try.call72 (by kernel_rfl)) (diff_made_w (X := X) (a := a) (b := b) hXo ha3 hb6 hp) ?_)
  rintro _ w11 ⟨r9, r10, hp, e12, vr14, vr16, rfl, hr15, hr17⟩
  have s13 := Step.of0 X e12
  refine sq (o_pv (.tuple #[vr14, vr16]) rfl (by kernel_rfl) ?_)
  refine sq (o_pv vr14 rfl (by kernel_rfl) ?_)
  refine sq (o_pv vr16 rfl (by kernel_rfl) ?_)
  refine sq (o_pv vr14 rfl (by kernel_rfl) ?_)
  refine sq (o_pv vr16 rfl (by kernel_rfl) ?_)
  refine nil_ ?_
  refine then_normal (K8 _ _ _ _ ?_)
  refine seq_ (fun _ K18 => ?_)
  refine seq_ (fun _ K19 => ?_)
  refine reg_ ?_
  refine sq (o_pv vr16 rfl (by kernel_rfl) ?_)
  refine sq (o_pv (.bool (!r10.isNil)) rfl (x_err_ne r10 hr17 Try.underlying40 (by kernel_rfl)) ?_)
  refine nil_ ?_
  refine then_normal (K19 _ _ _ _ ?_)
  refine cond_b (!r10.isNil) (by kernel_rfl) (fun h20 => ?_) (fun h20 => ?_)
  ·
    replace hp := hp.1 h20
    refine seq_ (fun _ K21 => ?_)
    refine reg_ ?_
    refine sq (o_pv vr16 rfl (by kernel_rfl) ?_)
    refine sq (o_pv (.slice none 0 0) rfl (by kernel_rfl) ?_)
    refine sq (o_pv vr16 rfl (by kernel_rfl) ?_)
    refine nil_ ?_
    refine then_normal (K21 _ _ _ _ ?_)
    refine wp_ret ?_
    refine then_ret ?_
    have hS22 := (Sub.trans hS (Step.up s13))
    have E23 := (Evo.then0 E0 e12)
    refine end_ret hQ (.tuple #[(.slice none 0 0), vr16]) (by kernel_rfl) ?_
    exact ⟨([] : List S_diff_Edit), r10, hp, E23, none, 0, vr16, rfl, Sl.nil, (Rep.less (rErr 57 129 131) hr17 hS22)⟩
  ·
    replace hp := hp.2 h20
    refine wp_skip ?_
    refine then_normal (K18 _ _ _ _ ?_)
    refine seq_ (fun _ K24 => ?_)
    refine reg_ ?_
    refine sq (o_pv (.slice none 0 0) rfl (by kernel_rfl) ?_)
    refine nil_ ?_
    refine then_normal (K24 _ _ _ _ ?_)
    refine seq_ (fun _ K25 => ?_)
    refine seq_ (fun _ K26 => ?_)
    refine reg_ ?_
    refine sq (o_pv (.int .i64 (0 : Int)) rfl (by kernel_rfl) ?_)
    refine sq (o_pv (.int .i64 (0 : Int)) rfl (by kernel_rfl) ?_)
    refine nil_ ?_
    refine then_normal (K26 _ _ _ _ ?_)
    refine wp_block ?_
    obtain ⟨d272, h273, hp⟩ := hp
    rw [h273] at hr15
    obtain ⟨b274, cs275, hvb274, nb276, k277, ok278⟩ := hr15
    injection hvb274 with hvb274 _; subst hvb274
    obtain ⟨apa279, cpa280, apb282, cpb283, apn285, cpn286, rfl, hpa281, hpb284, hpn287⟩ := r_diff_table_open ok278
    replace hp := hp (Sl.len hpa281)
    replace hp := hp (Sl.len hpb284)
    replace hp := hp (Sl.len hpn287)
    have k288 := (⟨nb276, k277⟩ : RO _ _ _ _ _)
    have ha792 := (Sl.step ha3 s13)
    have hb793 := (Sl.step hb6 s13)
    have hXo794 := (Old.step hXo s13)
    have E795 := (Evo.then0 E0 e12)
    have hS796 := (Sub.trans hS (Step.up s13))
    obtain ⟨I782, m783, hI784, hp⟩ := hp
    refine loop_ 9223372036850589440 (fun kq lq w786 => ∃ (X787 : List Nat) (out529 : (List S_diff_Edit)) (i534 : Int) (j536 : Int) (a530 : Option Addr) (n531 : Nat) (c532 : Nat), (lq = [(8, (.slice a530 n531 c532)), (9, (.int .i64 i534)), (10, (.int .i64 j536))]) ∧ (kq = m783 out529 i534 j536) ∧ (Evo [] w w786) ∧ (Old X787 w786) ∧ (Sub X X787) ∧ (Sl rStr X787 w786 aa1 ca2 a) ∧ (Sl rStr X787 w786 ab4 cb5 b) ∧ (Sl rStr X787 w786 apa279 cpa280 d272.a) ∧ (Sl rStr X787 w786 apb282 cpb283 d272.b) ∧ (Sl (rInt .i64) X787 w786 apn285 cpn286 d272.n) ∧ (RO X787 w786 b274 [(.slice apa279 d272.a.length cpa280), (.slice apb282 d272.b.length cpb283), (.slice apn285 d272.n.length cpn286)] 134) ∧ (OS r_diff_Edit ([]) w.heap.size X787 w786 49 a530 n531 c532 out529) ∧ (inR .i64 i534) ∧ (inR .i64 j536) ∧ (I782 out529 i534 j536)) (m783 ([] : List S_diff_Edit) (0 : Int) (0 : Int)) [(8, (.slice none 0 0)), (9, (.int .i64 (0 : Int))), (10, (.int .i64 (0 : Int)))] (vs_cons (by kernel_rfl) (vs_cons (by kernel_rfl) (vs_cons (by kernel_rfl) vs_nil))) ⟨X, ([] : List S_diff_Edit), (0 : Int), (0 : Int), none, 0, 0, rfl, rfl, E795, hXo794, hS796, ha792, hb793, hpa281, hpb284, hpn287, k288, (OS.nil _ _ _ _), (by decide), (by decide), hI784⟩ ?_
    rintro _ _ w786 g789 ⟨X787, out529, i534, j536, a530, n531, c532, rfl, rfl, E797, hXo798, hS799, ha800, hb801, hpa802, hpb803, hpn804, k805, O533, ri535, rj537, hI785⟩ Kl790 hA791
    replace hp := hp out529 i534 j536 hI785 (OS.len O533) ri535 rj537
    refine seq_ (fun _ K806 => ?_)
    refine seq_ (fun _ K807 => ?_)
    obtain ⟨k810, hk811, hp⟩ := hp
    refine ground_ ?_
    refine join_ 4290772992 (fun lq w812 => ∃ (X813 : List Nat) (s809 : Bool), (lq = [(31, (.bool s809))]) ∧ (Evo [] w w812) ∧ (Old X813 w812) ∧ (Sub X X813) ∧ (Sl rStr X813 w812 aa1 ca2 a) ∧ (Sl rStr X813 w812 ab4 cb5 b) ∧ (OS r_diff_Edit ([]) w.heap.size X813 w812 49 a530 n531 c532 out529) ∧ (Sl rStr X813 w812 apa279 cpa280 d272.a) ∧ (Sl rStr X813 w812 apb282 cpb283 d272.b) ∧ (Sl (rInt .i64) X813 w812 apn285 cpn286 d272.n) ∧ (RO X813 w812 b274 [(.slice apa279 d272.a.length cpa280), (.slice apb282 d272.b.length cpb283), (.slice apn285 d272.n.length cpn286)] 134) ∧ (k810 s809)) (fun Kj814 hJ815 => ?_) ?_
    ·
      refine reg_ ?_
      refine sq (o_pv (.int .i64 i534) rfl (by kernel_rfl) ?_)
      refine sq (o_pv (.slice aa1 a.length ca2) rfl (by kernel_rfl) ?_)
      refine sq (o_pv (.int .i64 (a.length : Int)) rfl (by kernel_rfl) ?_)
      by_cases h827 : i534 < (a.length : Int)
      ·
        replace hp := hp.1 h827
        refine sq (o_pv (.bool true) rfl (x_dt (p := i534 < (a.length : Int)) (by kernel_rfl) h827) ?_)
        refine sq (o_pv (.bool true) rfl (by kernel_rfl) ?_)
        refine sq (o_not (by kernel_rfl) ?_)
        refine sq (o_not (by kernel_rfl) ?_)
        refine sq (o_not (by kernel_rfl) ?_)
        refine sq (o_not (by kernel_rfl) ?_)
        refine sq (o_pv (.bool true) rfl (by kernel_rfl) ?_)
        refine nil_ ?_
        refine then_normal (hJ815 _ _ _ ⟨[(31, (.bool true))], fit_mk (fun _ _ => rfl) (by kernel_rfl) (vs_cons (by kernel_rfl) vs_nil), ?_⟩)
        exact ⟨X787, true, rfl, E797, hXo798, hS799, ha800, hb801, O533, hpa802, hpb803, hpn804, k805, hp⟩
      ·
        replace hp := hp.2 h827
        refine sq (o_pv (.bool false) rfl (x_df (p := i534 < (a.length : Int)) (by kernel_rfl) h827) ?_)
        refine sq (o_pv (.bool false) rfl (by kernel_rfl) ?_)
        refine sq (o_pv (.int .i64 j536) (by kernel_rfl) (by kernel_rfl) ?_)
        refine sq (o_pv (.slice ab4 b.length cb5) (by kernel_rfl) (by kernel_rfl) ?_)
        refine sq (o_pv (.int .i64 (b.length : Int)) (by kernel_rfl) (by kernel_rfl) ?_)
        refine sq (o_pv (.bool (decide (j536 < (b.length : Int)))) (by kernel_rfl) (by kernel_rfl) ?_)
        refine sq (o_pv (.bool (decide (j536 < (b.length : Int)))) rfl (by kernel_rfl) ?_)
        refine nil_ ?_
        refine then_normal (hJ815 _ _ _ ⟨[(31, (.bool (decide (j536 < (b.length : Int)))))], fit_mk (fun _ _ => rfl) (by kernel_rfl) (vs_cons (by kernel_rfl) vs_nil), ?_⟩)
        exact ⟨X787, (decide (j536 < (b.length : Int))), rfl, E797, hXo798, hS799, ha800, hb801, O533, hpa802, hpb803, hpn804, k805, hp⟩
    ·
      rintro _ w812 g828 ⟨X813, s809, rfl, E817, hXo818, hS819, ha820, hb821, O822, hpa823, hpb824, hpn825, k826, hv816⟩
      replace hp := hk811 s809 hv816
      refine then_normal (K807 _ _ _ _ ?_)
      refine cond_b s809 (by kernel_rfl) (fun h829 => ?_) (fun h829 => ?_)
      ·
        replace hp := hp.1 h829
        refine wp_skip ?_
        refine then_normal (K806 _ _ _ _ ?_)
        refine wp_block ?_
        refine seq_ (fun _ K830 => ?_)
        refine reg_ ?_
        refine sq (o_pv (.pointer (some ⟨b274, 0, none⟩)) rfl (by kernel_rfl) ?_)
        refine sq (o_pv (.int .i64 i534) rfl (by kernel_rfl) ?_)
        refine sq (o_pv (.int .i64 j536) rfl (by kernel_rfl) ?_)
        refine sq (o_call 73 #[(.pointer (some ⟨b274, 0, none⟩)), (.int .i64 i534), (.int .i64 j536)] rfl (x_call Try.call73 (by kernel_rfl)) (diff_table_step_w (X := []) (t := d272) (i := i534) (j := j536) (Old.nil _) ⟨(fun hm => by cases hm), k826.2⟩ (Sl.less hpa823 (Sub.nil _)) (Sl.less hpb824 (Sub.nil _)) (Sl.less hpn825 (Sub.nil _)) ri535 rj537 hp) ?_)
        rintro _ w832 ⟨r831, hp, e833, rfl, rr835⟩
        have s834 := Step.of0 X813 e833
        replace hp := hp rr835
        refine sq (o_pv (.int .i64 r831) rfl (by kernel_rfl) ?_)
        refine nil_ ?_
        refine then_normal (K830 _ _ _ _ ?_)
        refine seq_ (fun _ K836 => ?_)
        refine reg_ ?_
        refine sq (o_pv (.string (ByteArray.mk #[])) rfl (by kernel_rfl) ?_)
        refine nil_ ?_
        refine then_normal (K836 _ _ _ _ ?_)
        refine seq_ (fun _ K837 => ?_)
        refine seq_ (fun _ K838 => ?_)
        refine reg_ ?_
        refine sq (o_pv (.int .i64 r831) rfl (by kernel_rfl) ?_)
        refine nil_ ?_
        refine then_normal (K838 _ _ _ _ ?_)
        have E932 := (Evo.then0 E817 e833)
        have hXo933 := (Old.step hXo818 s834)
        have hS934 := (Sub.trans hS819 (Step.up s834))
        have ha935 := (Sl.step ha820 s834)
        have hb936 := (Sl.step hb821 s834)
        have O937 := (OS.step0 O822 s834)
        have hpa938 := (Sl.step hpa823 s834)
        have hpb939 := (Sl.step hpb824 s834)
        have hpn940 := (Sl.step hpn825 s834)
        have k941 := (RO.step k826 s834)
        obtain ⟨k925, hk926, hp⟩ := hp
        refine ground_ ?_
        refine join_ 144115050636908032 (fun lq w927 => ∃ (X928 : List Nat) (i919 : Int) (j921 : Int) (line923 : ByteArray), (lq = [(9, (.int .i64 i919)), (10, (.int .i64 j921)), (12, (.string line923))]) ∧ (Evo [] w w927) ∧ (Old X928 w927) ∧ (Sub X X928) ∧ (Sl rStr X928 w927 aa1 ca2 a) ∧ (Sl rStr X928 w927 ab4 cb5 b) ∧ (OS r_diff_Edit ([]) w.heap.size X928 w927 49 a530 n531 c532 out529) ∧ (Sl rStr X928 w927 apa279 cpa280 d272.a) ∧ (Sl rStr X928 w927 apb282 cpb283 d272.b) ∧ (Sl (rInt .i64) X928 w927 apn285 cpn286 d272.n) ∧ (RO X928 w927 b274 [(.slice apa279 d272.a.length cpa280), (.slice apb282 d272.b.length cpb283), (.slice apn285 d272.n.length cpn286)] 134) ∧ (inR .i64 i919) ∧ (inR .i64 j921) ∧ (line923.size ≤ maxLen) ∧ (k925 i919 j921 line923)) (fun Kj929 hJ930 => ?_) ?_
        ·
          refine wp_block ?_
          refine seq_ (fun _ K952 => ?_)
          refine wp_block ?_
          refine seq_ (fun _ K953 => ?_)
          obtain ⟨k967, hk968, hp⟩ := hp
          refine ground_ ?_
          refine join_ 35046933136384 (fun lq w969 => ∃ (X970 : List Nat) (j965 : Int), (lq = [(10, (.int .i64 j965))]) ∧ (Evo [] w w969) ∧ (Old X970 w969) ∧ (Sub X X970) ∧ (Sl rStr X970 w969 aa1 ca2 a) ∧ (Sl rStr X970 w969 ab4 cb5 b) ∧ (OS r_diff_Edit ([]) w.heap.size X970 w969 49 a530 n531 c532 out529) ∧ (Sl rStr X970 w969 apa279 cpa280 d272.a) ∧ (Sl rStr X970 w969 apb282 cpb283 d272.b) ∧ (Sl (rInt .i64) X970 w969 apn285 cpn286 d272.n) ∧ (RO X970 w969 b274 [(.slice apa279 d272.a.length cpa280), (.slice apb282 d272.b.length cpb283), (.slice apn285 d272.n.length cpn286)] 134) ∧ (inR .i64 j965) ∧ (k967 j965)) (fun Kj971 hJ972 => ?_) ?_
          ·
            refine wp_block ?_
            refine seq_ (fun _ K984 => ?_)
            refine wp_block ?_
            refine seq_ (fun _ K985 => ?_)
            refine seq_ (fun _ K986 => ?_)
            refine seq_ (fun _ K987 => ?_)
            refine reg_ ?_
            refine sq (o_pv (.bool (decide (r831 = (1 : Int)))) rfl (by kernel_rfl) ?_)
            refine sq (o_pv (.bool (decide (r831 = (1 : Int)))) rfl (by kernel_rfl) ?_)
            refine nil_ ?_
            refine then_normal (K987 _ _ _ _ ?_)
            refine cond_d (r831 = (1 : Int)) (by kernel_rfl) (fun h988 => ?_) (fun h988 => ?_)
            ·
              replace hp := hp.1 h988
              refine wp_exit ?_
              refine then_exit ?_
              refine then_exit ?_
              refine blk_exit ?_
              refine then_normal (K984 _ _ _ _ ?_)
              refine reg_ ?_
              refine sq (o_pv (.int .i64 j536) rfl (by kernel_rfl) ?_)
              obtain ⟨h989, hp⟩ := hp
              refine sq (o_pv (.int .i64 (j536 + (1 : Int))) rfl (x_add2 (a := j536) (b := (1 : Int)) (j536 + (1 : Int)) (by kernel_rfl) (by kernel_rfl) (wrap_inR h989)) ?_)
              refine sq (o_pv (.int .i64 (j536 + (1 : Int))) rfl (by kernel_rfl) ?_)
              refine nil_ ?_
              refine blk_normal ?_
              refine then_normal (hJ972 _ _ _ ⟨[(10, (.int .i64 (j536 + (1 : Int))))], fit_mk (fun _ _ => rfl) (by kernel_rfl) (vs_cons (by kernel_rfl) vs_nil), ?_⟩)
              exact ⟨X813, (j536 + (1 : Int)), rfl, E932, hXo933, hS934, ha935, hb936, O937, hpa938, hpb939, hpn940, k941, h989, hp⟩
            ·
              replace hp := hp.2 h988
              refine wp_skip ?_
              refine then_normal (K986 _ _ _ _ ?_)
              refine seq_ (fun _ K990 => ?_)
              refine seq_ (fun _ K991 => ?_)
              refine reg_ ?_
              refine sq (o_pv (.bool (decide (r831 = (2 : Int)))) rfl (by kernel_rfl) ?_)
              refine sq (o_pv (.bool (decide (r831 = (2 : Int)))) rfl (by kernel_rfl) ?_)
              refine nil_ ?_
              refine then_normal (K991 _ _ _ _ ?_)
              refine cond_d (r831 = (2 : Int)) (by kernel_rfl) (fun h992 => ?_) (fun h992 => ?_)
              ·
                replace hp := hp.1 h992
                refine wp_exit ?_
                refine then_exit ?_
                refine then_exit ?_
                refine blk_exit_ne rfl ?_
                refine then_exit ?_
                refine blk_exit ?_
                refine then_normal (hJ972 _ _ _ ⟨[(10, (.int .i64 j536))], fit_mk (fun _ _ => rfl) (by kernel_rfl) (vs_cons (by kernel_rfl) vs_nil), ?_⟩)
                exact ⟨X813, j536, rfl, E932, hXo933, hS934, ha935, hb936, O937, hpa938, hpb939, hpn940, k941, rj537, hp⟩
              ·
                replace hp := hp.2 h992
                refine wp_skip ?_
                refine then_normal (K990 _ _ _ _ ?_)
                refine seq_ (fun _ K993 => ?_)
                refine reg_ ?_
                refine sq (o_pv (.bool (decide (r831 = (3 : Int)))) rfl (by kernel_rfl) ?_)
                refine sq (o_pv (.bool (decide (r831 = (3 : Int)))) rfl (by kernel_rfl) ?_)
                refine nil_ ?_
                refine then_normal (K993 _ _ _ _ ?_)
                refine cond_d (r831 = (3 : Int)) (by kernel_rfl) (fun h994 => ?_) (fun h994 => ?_)
                ·
                  replace hp := hp.1 h994
                  refine wp_exit ?_
                  refine then_exit ?_
                  refine blk_exit_ne rfl ?_
                  refine then_exit ?_
                  refine blk_exit_ne rfl ?_
                  refine then_exit ?_
                  refine then_exit ?_
                  refine blk_exit ?_
                  refine then_normal (K952 _ _ _ _ ?_)
                  refine seq_ (fun _ K995 => ?_)
                  refine seq_ (fun _ K996 => ?_)
                  refine reg_ ?_
                  refine sq (o_pv (.slice ab4 b.length cb5) rfl (by kernel_rfl) ?_)
                  refine sq (o_pv (.int .i64 j536) rfl (by kernel_rfl) ?_)
                  obtain ⟨h997, hp⟩ := hp
                  obtain ⟨b998, o999, cs1000, ha1001, nx1002, lt1003, ok1004, hc1005⟩ := Sl.atI hb936 j536 h997
                  obtain ⟨rfl, ze1006⟩ := ok1004
                  replace hp := hp ze1006
                  refine sq (o_pv (.pointer (some ⟨b998, o999 + j536.toNat * 1, none⟩)) rfl (x_ixA (m := b.length) (c := cb5) (k := .i64) (i := j536) Try.underlying43 Try.sizeOf9 (by rw [← ha1001]; kernel_rfl) (by kernel_rfl) h997) ?_)
                  refine sq (o_pv (.string (lget b j536)) rfl (x_load1 (by kernel_rfl) Try.isAgg9 (hc1005 0 _ rfl)) ?_)
                  refine sq (o_pv (.string (lget b j536)) rfl (by kernel_rfl) ?_)
                  refine nil_ ?_
                  refine then_normal (K996 _ _ _ _ ?_)
                  refine reg_ ?_
                  refine sq (o_pv (.int .i64 j536) rfl (by kernel_rfl) ?_)
                  obtain ⟨h1007, hp⟩ := hp
                  refine sq (o_pv (.int .i64 (j536 + (1 : Int))) rfl (x_add2 (a := j536) (b := (1 : Int)) (j536 + (1 : Int)) (by kernel_rfl) (by kernel_rfl) (wrap_inR h1007)) ?_)
                  refine sq (o_pv (.int .i64 (j536 + (1 : Int))) rfl (by kernel_rfl) ?_)
                  refine nil_ ?_
                  refine then_normal (K995 _ _ _ _ ?_)
                  refine wp_exit ?_
                  refine blk_exit ?_
                  refine then_normal (hJ930 _ _ _ ⟨[(9, (.int .i64 i534)), (10, (.int .i64 (j536 + (1 : Int)))), (12, (.string (lget b j536)))], fit_mk (AgB.look (fun _ _ => rfl) (by kernel_rfl)) (by kernel_rfl) (vs_cons (by kernel_rfl) (vs_cons (by kernel_rfl) (vs_cons (by kernel_rfl) vs_nil))), ?_⟩)
                  exact ⟨X813, i534, (j536 + (1 : Int)), (lget b j536), rfl, E932, hXo933, hS934, ha935, hb936, O937, hpa938, hpb939, hpn940, k941, ri535, h1007, ze1006, hp⟩
                ·
                  replace hp := hp.2 h994
                  refine wp_skip ?_
                  refine then_normal (K985 _ _ _ _ ?_)
                  refine wp_exit ?_
                  refine blk_exit_ne rfl ?_
                  refine then_exit ?_
                  refine blk_exit_ne rfl ?_
                  refine then_exit ?_
                  refine then_exit ?_
                  refine blk_exit_ne rfl ?_
                  refine then_exit ?_
                  refine blk_exit ?_
                  refine then_normal (hJ930 _ _ _ ⟨[(9, (.int .i64 i534)), (10, (.int .i64 j536)), (12, (.string (ByteArray.mk #[])))], fit_mk (AgB.look (fun _ _ => rfl) (by kernel_rfl)) (by kernel_rfl) (vs_cons (by kernel_rfl) (vs_cons (by kernel_rfl) (vs_cons (by kernel_rfl) vs_nil))), ?_⟩)
                  exact ⟨X813, i534, j536, (ByteArray.mk #[]), rfl, E932, hXo933, hS934, ha935, hb936, O937, hpa938, hpb939, hpn940, k941, ri535, rj537, (by decide), hp⟩
          ·
            rintro _ w969 g1008 ⟨X970, j965, rfl, E974, hXo975, hS976, ha977, hb978, O979, hpa980, hpb981, hpn982, k983, rj966, hv973⟩
            replace hp := hk968 j965 hv973 rj966
            refine then_normal (K953 _ _ _ _ ?_)
            refine seq_ (fun _ K1009 => ?_)
            refine seq_ (fun _ K1010 => ?_)
            refine reg_ ?_
            refine sq (o_pv (.slice aa1 a.length ca2) rfl (by kernel_rfl) ?_)
            refine sq (o_pv (.int .i64 i534) rfl (by kernel_rfl) ?_)
            obtain ⟨h1011, hp⟩ := hp
            obtain ⟨b1012, o1013, cs1014, ha1015, nx1016, lt1017, ok1018, hc1019⟩ := Sl.atI ha977 i534 h1011
            obtain ⟨rfl, ze1020⟩ := ok1018
            replace hp := hp ze1020
            refine sq (o_pv (.pointer (some ⟨b1012, o1013 + i534.toNat * 1, none⟩)) rfl (x_ixA (m := a.length) (c := ca2) (k := .i64) (i := i534) Try.underlying43 Try.sizeOf9 (by rw [← ha1015]; kernel_rfl) (by kernel_rfl) h1011) ?_)
            refine sq (o_pv (.string (lget a i534)) rfl (x_load1 (by kernel_rfl) Try.isAgg9 (hc1019 0 _ rfl)) ?_)
            refine sq (o_pv (.string (lget a i534)) rfl (by kernel_rfl) ?_)
            refine nil_ ?_
            refine then_normal (K1010 _ _ _ _ ?_)
            refine reg_ ?_
            refine sq (o_pv (.int .i64 i534) rfl (by kernel_rfl) ?_)
            obtain ⟨h1021, hp⟩ := hp
            refine sq (o_pv (.int .i64 (i534 + (1 : Int))) rfl (x_add2 (a := i534) (b := (1 : Int)) (i534 + (1 : Int)) (by kernel_rfl) (by kernel_rfl) (wrap_inR h1021)) ?_)
            refine sq (o_pv (.int .i64 (i534 + (1 : Int))) rfl (by kernel_rfl) ?_)
            refine nil_ ?_
            refine then_normal (K1009 _ _ _ _ ?_)
            refine wp_exit ?_
            refine blk_exit_ne rfl ?_
            refine then_exit ?_
            refine blk_exit ?_
            refine then_normal (hJ930 _ _ _ ⟨[(9, (.int .i64 (i534 + (1 : Int)))), (10, (.int .i64 j965)), (12, (.string (lget a i534)))], fit_mk (AgB.nest (AgB.look (fun _ _ => rfl) (by kernel_rfl)) (by kernel_rfl) (by kernel_rfl)) (by kernel_rfl) (vs_cons (by kernel_rfl) (vs_cons (by kernel_rfl) (vs_cons (by kernel_rfl) vs_nil))), ?_⟩)
            exact ⟨X970, (i534 + (1 : Int)), j965, (lget a i534), rfl, E974, hXo975, hS976, ha977, hb978, O979, hpa980, hpb981, hpn982, k983, h1021, rj966, ze1020, hp⟩
        ·
          rintro _ w927 g1022 ⟨X928, i919, j921, line923, rfl, E942, hXo943, hS944, ha945, hb946, O947, hpa948, hpb949, hpn950, k951, ri920, rj922, zline924, hv931⟩
          replace hp := hk926 i919 j921 line923 hv931 ri920 rj922 zline924
          refine then_normal (K837 _ _ _ _ ?_)
          refine reg_ ?_
          refine sq (o_pv (.slice a530 n531 c532) rfl (by kernel_rfl) ?_)
          refine sq (o_pv (.int .i64 r831) rfl (by kernel_rfl) ?_)
          refine sq (o_pv (.string line923) rfl (by kernel_rfl) ?_)
          refine sq (o_pv (.agg #[(.int .i64 r831), (.string line923)]) rfl (by kernel_rfl) ?_)
          refine sq (o_rowX (R := r_diff_Edit) [(.int .i64 r831), (.string line923)] [(S_diff_Edit.mk r831 line923)] 49 1 (X := X928) (B := w.heap.size) E942.size rfl (by kernel_rfl) (Flat.cons (cs := [(.int .i64 r831), (.string line923)]) (r_diff_Edit_mk rr835 zline924) Flat.nil) rfl (by decide) ?_)
          intro b1023 w1024 X1025 s1026 O1027 n1028
          have p1029 := n1028 _ (OS.old O947)
          obtain ⟨h1030, hp⟩ := hp
          have O1031 := (OS.step0 O947 s1026)
          have E1032 := (Evo.then0 E942 (Step.evo s1026))
          refine sq (o_appX (R := r_diff_Edit) (X := X1025) (B := w.heap.size) (L := out529) (M := [(S_diff_Edit.mk r831 line923)]) rfl elT45 rfl E1032.size O1031 (OS.src O1027) O1027.1 (by kernel_rfl) (by kernel_rfl) h1030 ?_)
          intro a1033 n1034 c1035 w1036 X1037 s1038 O1039 gr1040
          refine sq (o_pv (.slice a1033 n1034 c1035) rfl (by kernel_rfl) ?_)
          refine nil_ ?_
          refine blk_normal ?_
          have E1041 := (Evo.thenW E1032 (Step.evo s1038) O1031.2.2)
          have hXo1042 := (Old.step (Old.step hXo943 s1026) s1038)
          have hS1043 := (Sub.trans (Sub.trans hS944 (Step.up s1026)) (Step.up s1038))
          have ha1044 := (Sl.step (Sl.step ha945 s1026) s1038)
          have hb1045 := (Sl.step (Sl.step hb946 s1026) s1038)
          have hpa1046 := (Sl.step (Sl.step hpa948 s1026) s1038)
          have hpb1047 := (Sl.step (Sl.step hpb949 s1026) s1038)
          have hpn1048 := (Sl.step (Sl.step hpn950 s1026) s1038)
          have k1049 := (RO.step (RO.step k951 s1026) s1038)
          refine then_normal (hA791 _ _ _ ⟨_, [(8, (.slice a1033 n1034 c1035)), (9, (.int .i64 i919)), (10, (.int .i64 j921))], hp.2, fit_mk (AgB.nest (AgB.look (AgB.nest (AgB.look (AgB.mix _ _ _) (by kernel_rfl)) (by kernel_rfl) (by kernel_rfl)) (by kernel_rfl)) (by kernel_rfl) (by kernel_rfl)) (by kernel_rfl) (vs_cons (by kernel_rfl) (vs_cons (by kernel_rfl) (vs_cons (by kernel_rfl) vs_nil))), ?_⟩)
          exact ⟨X1037, (out529 ++ ([(S_diff_Edit.mk r831 line923)])), i919, j921, a1033, n1034, c1035, rfl, rfl, E1041, hXo1042, hS1043, ha1044, hb1045, hpa1046, hpb1047, hpn1048, k1049, O1039, ri920, rj922, hp.1⟩
      ·
        replace hp := hp.2 h829
        refine wp_exit ?_
        refine then_exit ?_
        refine then_exit ?_
        refine blk_exit ?_
        refine then_normal (K25 _ _ _ _ ?_)
        refine seq_ (fun _ K1050 => ?_)
        refine reg_ ?_
        refine sq (o_pv (.slice a530 n531 c532) rfl (by kernel_rfl) ?_)
        refine sq (o_call 74 #[(.slice a530 out529.length c532)] rfl (x_call Try.call74 (by rw [← show n531 = out529.length from O822.1]; kernel_rfl)) (slices_Clip_diff_Edit_diff_Edit_w (X := X) (s := out529) (Old.less hXo818 hS819) (OS.out O822 hS819 hX0) hp) ?_)
        rintro _ w1052 ⟨r1051, hp, e1053, ar1055, cr1056, rfl, hr1057⟩
        have s1054 := Step.of0 X813 e1053
        replace hp := hp (Sl.len hr1057)
        refine sq (o_pv (.slice ar1055 r1051.length cr1056) rfl (by kernel_rfl) ?_)
        refine sq (o_pv .nilIface rfl (by kernel_rfl) ?_)
        refine nil_ ?_
        refine then_normal (K1050 _ _ _ _ ?_)
        refine wp_ret ?_
        have E1058 := (Evo.then0 E817 e1053)
        refine end_ret hQ (.tuple #[(.slice ar1055 r1051.length cr1056), .nilIface]) (by kernel_rfl) ?_
        exact ⟨r1051, PErr.nil, hp, E1058, ar1055, cr1056, .nilIface, rfl, hr1057, rErr_nil⟩

def diff_Common_p (a : (List ByteArray)) (b : (List ByteArray)) (Q : Int → PErr → Prop) : Prop :=
  ((a.length ≤ 9223372036854775807) → ((b.length ≤ 9223372036854775807) → (diff_made_p a b (fun (r9 : (Option S_diff_table)) (r10 : PErr) => ((((!r10.isNil) = true) → Q (0 : Int) r10) ∧ (((!r10.isNil) = false) → (∃ d25 : S_diff_table, (r9 = some d25) ∧ ((d25.a.length ≤ 9223372036854775807) → ((d25.b.length ≤ 9223372036854775807) → ((d25.n.length ≤ 9223372036854775807) → (diff_table_at_p d25 (0 : Int) (0 : Int) (fun (r42 : Int) => ((inR .i64 r42) → Q r42 PErr.nil)))))))))))))
set_option maxRecDepth 20000 in
set_option maxHeartbeats 4000000 in
theorem diff_Common_w {X : List Nat} {w : World} {a : (List ByteArray)} {b : (List ByteArray)} {aa1 : Option Addr} {ca2 : Nat} {ab4 : Option Addr} {cb5 : Nat} {Q : Int → PErr → Prop} (hX0 : Old X w) (ha3 : Sl rStr X w aa1 ca2 a) (hb6 : Sl rStr X w ab4 cb5 b) (hp : diff_Common_p a b Q) :
    Calls Try.prog 30 #[(.slice aa1 a.length ca2), (.slice ab4 b.length cb5)] w (Ret fun v w' => ∃ (r0 : Int) (r1 : PErr), Q r0 r1 ∧ Evo [] w w' ∧ ∃ (vq12 : Value), v = .tuple #[(.int .i64 r0), vq12] ∧ inR .i64 r0 ∧ (rErr 57 129 131).ok X w' ([vq12]) r1) := by
  have hXo := hX0
  have E0 : Evo [] w w := RB.refl _ _ _
  have hS : Sub X X := Sub.refl _
  unfold diff_Common_p at hp
  refine enter_ Try.func30 rfl 19 [(0, (.slice aa1 a.length ca2)), (1, (.slice ab4 b.length cb5))] (by kernel_rfl) (fun Qe hQ => ?_)
  replace hp := hp (Sl.len ha3)
  replace hp := hp (Sl.len hb6)
  refine seq_ (fun _ K7 => ?_)
  refine reg_ ?_
  refine sq (o_pv (.int .i64 (0 : Int)) rfl (by kernel_rfl) ?_)
  refine sq (o_pv .nilIface rfl (by kernel_rfl) ?_)
  refine nil_ ?_
  refine then_normal (K7 _ _ _ _ ?_)
  refine seq_ (fun _ K8 => ?_)
  refine reg_ ?_
  refine sq (o_pv (.slice aa1 a.length ca2) rfl (by kernel_rfl) ?_)
  refine sq (o_pv (.slice ab4 b.length cb5) rfl (by kernel_rfl) ?_)
  refine sq (o_call 72 #[(.slice aa1 a.length ca2), (.slice ab4 b.length cb5)] rfl (x_call Try.call72 (by kernel_rfl)) (diff_made_w (X := X) (a := a) (b := b) hXo ha3 hb6 hp) ?_)
  rintro _ w11 ⟨r9, r10, hp, e12, vr14, vr16, rfl, hr15, hr17⟩
  have s13 := Step.of0 X e12
  refine sq (o_pv (.tuple #[vr14, vr16]) rfl (by kernel_rfl) ?_)
  refine sq (o_pv vr14 rfl (by kernel_rfl) ?_)
  refine sq (o_pv vr16 rfl (by kernel_rfl) ?_)
  refine sq (o_pv vr14 rfl (by kernel_rfl) ?_)
  refine sq (o_pv vr16 rfl (by kernel_rfl) ?_)
  refine nil_ ?_
  refine then_normal (K8 _ _ _ _ ?_)
  refine seq_ (fun _ K18 => ?_)
  refine seq_ (fun _ K19 => ?_)
  refine reg_ ?_
  refine sq (o_pv vr16 rfl (by kernel_rfl) ?_)
  refine sq (o_pv (.bool (!r10.isNil)) rfl (x_err_ne r10 hr17 Try.underlying40 (by kernel_rfl)) ?_)
  refine nil_ ?_
  refine then_normal (K19 _ _ _ _ ?_)
  refine cond_b (!r10.isNil) (by kernel_rfl) (fun h20 => ?_) (fun h20 => ?_)
  ·
    replace hp := hp.1 h20
    refine seq_ (fun _ K21 => ?_)
    refine reg_ ?_
    refine sq (o_pv vr16 rfl (by kernel_rfl) ?_)
    refine sq (o_pv (.int .i64 (0 : Int)) rfl (by kernel_rfl) ?_)
    refine sq (o_pv vr16 rfl (by kernel_rfl) ?_)
    refine nil_ ?_
    refine then_normal (K21 _ _ _ _ ?_)
    refine wp_ret ?_
    refine then_ret ?_
    have hS22 := (Sub.trans hS (Step.up s13))
    have E23 := (Evo.then0 E0 e12)
    refine end_ret hQ (.tuple #[(.int .i64 (0 : Int)), vr16]) (by kernel_rfl) ?_
    exact ⟨(0 : Int), r10, hp, E23, vr16, rfl, (by decide), (Rep.less (rErr 57 129 131) hr17 hS22)⟩
  ·
    replace hp := hp.2 h20
    refine wp_skip ?_
    refine then_normal (K18 _ _ _ _ ?_)
    refine seq_ (fun _ K24 => ?_)
    refine reg_ ?_
    refine sq (o_pv vr14 rfl (by kernel_rfl) ?_)
    obtain ⟨d25, h26, hp⟩ := hp
    rw [h26] at hr15
    obtain ⟨b27, cs28, hvb27, nb29, k30, ok31⟩ := hr15
    injection hvb27 with hvb27 _; subst hvb27
    obtain ⟨apa32, cpa33, apb35, cpb36, apn38, cpn39, rfl, hpa34, hpb37, hpn40⟩ := r_diff_table_open ok31
    replace hp := hp (Sl.len hpa34)
    replace hp := hp (Sl.len hpb37)
    replace hp := hp (Sl.len hpn40)
    have k41 := (⟨nb29, k30⟩ : RO _ _ _ _ _)
    refine sq (o_call 75 #[(.pointer (some ⟨b27, 0, none⟩)), (.int .i64 (0 : Int)), (.int .i64 (0 : Int))] rfl (x_call Try.call75 (by kernel_rfl)) (diff_table_at_w (X := []) (t := d25) (i := (0 : Int)) (j := (0 : Int)) (Old.nil _) ⟨(fun hm => by cases hm), k41.2⟩ (Sl.less hpa34 (Sub.nil _)) (Sl.less hpb37 (Sub.nil _)) (Sl.less hpn40 (Sub.nil _)) (by decide) (by decide) hp) ?_)
    rintro _ w43 ⟨r42, hp, e44, rfl, rr46⟩
    have s45 := Step.of0 X e44
    replace hp := hp rr46
    refine sq (o_pv (.int .i64 r42) rfl (by kernel_rfl) ?_)
    refine sq (o_pv .nilIface rfl (by kernel_rfl) ?_)
    refine nil_ ?_
    refine then_normal (K24 _ _ _ _ ?_)
    refine wp_ret ?_
    have E47 := (Evo.then0 (Evo.then0 E0 e12) e44)
    refine end_ret hQ (.tuple #[(.int .i64 r42), .nilIface]) (by kernel_rfl) ?_
    exact ⟨r42, PErr.nil, hp, E47, .nilIface, rfl, rr46, rErr_nil⟩

def diff_Matches_p (a : (List ByteArray)) (b : (List ByteArray)) (Q : (List S_diff_Match) → PErr → Prop) : Prop :=
  ((a.length ≤ 9223372036854775807) → ((b.length ≤ 9223372036854775807) → (diff_Lines_p a b (fun (r9 : (List S_diff_Edit)) (r10 : PErr) => ((r9.length ≤ 9223372036854775807) → ((((!r10.isNil) = true) → Q ([] : List S_diff_Match) r10) ∧ (((!r10.isNil) = false) → (∃ (I1262 : (List S_diff_Match) → Int → Int → Bool → Int → Prop) (m1263 : (List S_diff_Match) → Int → Int → Bool → Int → Nat), (I1262 ([] : List S_diff_Match) (0 : Int) (0 : Int) false (0 : Int)) ∧ ∀ (out630 : (List S_diff_Match)) (i635 : Int) (j637 : Int) (row639 : Bool) (s640 : Int), (I1262 out630 i635 j637 row639 s640) → (out630.length ≤ 9223372036854775807) → (inR .i64 i635) → (inR .i64 j637) → (inR .i64 s640) → (((s640 < (r9.length : Int)) → (∃ k1585 : (List S_diff_Match) → Int → Int → Prop, (∀ (out1576 : (List S_diff_Match)) (i1581 : Int) (j1583 : Int), k1585 out1576 i1581 j1583 → (out1576.length ≤ 9223372036854775807) → (inR .i64 i1581) → (inR .i64 j1583) → ((inR .i64 (s640 + (1 : Int))) ∧ ((I1262 out1576 i1581 j1583 (decide (((lget r9 s640).Op) = (1 : Int))) (s640 + (1 : Int))) ∧ m1263 out1576 i1581 j1583 (decide (((lget r9 s640).Op) = (1 : Int))) (s640 + (1 : Int)) < m1263 out630 i635 j637 row639 s640))) ∧ ((inL r9 s640) ∧ ((inR .i64 ((lget r9 s640).Op)) → ((((lget r9 s640).Line).size ≤ maxLen) → (∃ k1735 : (List S_diff_Match) → Prop, (∀ (out1730 : (List S_diff_Match)), k1735 out1730 → (out1730.length ≤ 9223372036854775807) → (∃ k1867 : Int → Prop, (∀ (i1865 : Int), k1867 i1865 → (inR .i64 i1865) → (((¬ (((lget r9 s640).Op) = (2 : Int))) → ((inR .i64 (j637 + (1 : Int))) ∧ (k1585 out1730 i1865 (j637 + (1 : Int))))) ∧ ((((lget r9 s640).Op) = (2 : Int)) → (k1585 out1730 i1865 j637)))) ∧ (((¬ (((lget r9 s640).Op) = (3 : Int))) → ((inR .i64 (i635 + (1 : Int))) ∧ (k1867 (i635 + (1 : Int))))) ∧ ((((lget r9 s640).Op) = (3 : Int)) → (k1867 i635))))) ∧ (((((lget r9 s640).Op) = (1 : Int)) → (∃ k1783 : (List S_diff_Match) → Prop, (∀ (out1778 : (List S_diff_Match)), k1783 out1778 → (out1778.length ≤ 9223372036854775807) → ((inR .i64 ((out1778.length : Int) - (1 : Int))) ∧ ((inL out1778 ((out1778.length : Int) - (1 : Int))) ∧ ((inR .i64 ((lget out1778 ((out1778.length : Int) - (1 : Int))).A)) → ((inR .i64 ((lget out1778 ((out1778.length : Int) - (1 : Int))).B)) → ((inR .i64 ((lget out1778 ((out1778.length : Int) - (1 : Int))).N)) → ((inR .i64 (((lget out1778 ((out1778.length : Int) - (1 : Int))).N) + (1 : Int))) ∧ ((inL out1778 ((out1778.length : Int) - (1 : Int))) ∧ ((inR .i64 ((lget out1778 ((out1778.length : Int) - (1 : Int))).A)) → ((inR .i64 ((lget out1778 ((out1778.length : Int) - (1 : Int))).B)) → ((inR .i64 ((lget out1778 ((out1778.length : Int) - (1 : Int))).N)) → (∀ l1853 : List S_diff_Match, l1853 = (lset out1778 ((out1778.length : Int) - (1 : Int)) (S_diff_Match.mk ((lget out1778 ((out1778.length : Int) - (1 : Int))).A) ((lget out1778 ((out1778.length : Int) - (1 : Int))).B) (((lget out1778 ((out1778.length : Int) - (1 : Int))).N) + (1 : Int)))) → (k1735 l1853))))))))))))) ∧ ((((!row639) = true) → (((out630.length + ([(S_diff_Match.mk i635 j637 (0 : Int))]).length) * 24 ≤ 140737488355328) ∧ (k1783 (out630 ++ ([(S_diff_Match.mk i635 j637 (0 : Int))]))))) ∧ (((!row639) = false) → (k1783 out630))))) ∧ ((¬ (((lget r9 s640).Op) = (1 : Int))) → (k1735 out630))))))))) ∧ ((¬ (s640 < (r9.length : Int))) → (slices_Clip_diff_Match_diff_Match_p out630 (fun (r1890 : (List S_diff_Match)) => ((r1890.length ≤ 9223372036854775807) → Q r1890 PErr.nil)))))))))))))
set_option maxRecDepth 20000 in
set_option maxHeartbeats 4000000 in
theorem diff_Matches_w {X : List Nat} {w : World} {a : (List ByteArray)} {b : (List ByteArray)} {aa1 : Option Addr} {ca2 : Nat} {ab4 : Option Addr} {cb5 : Nat} {Q : (List S_diff_Match) → PErr → Prop} (hX0 : Old X w) (ha3 : Sl rStr X w aa1 ca2 a) (hb6 : Sl rStr X w ab4 cb5 b) (hp : diff_Matches_p a b Q) :
    Calls Try.prog 71 #[(.slice aa1 a.length ca2), (.slice ab4 b.length cb5)] w (Ret fun v w' => ∃ (r0 : (List S_diff_Match)) (r1 : PErr), Q r0 r1 ∧ Evo [] w w' ∧ ∃ (aq01 : Option Addr) (cq02 : Nat) (vq14 : Value), v = .tuple #[(.slice aq01 r0.length cq02), vq14] ∧ Sl r_diff_Match X w' aq01 cq02 r0 ∧ (rErr 57 129 131).ok X w' ([vq14]) r1) := by
  have hXo := hX0
  have E0 : Evo [] w w := RB.refl _ _ _
  have hS : Sub X X := Sub.refl _
  unfold diff_Matches_p at hp
  refine enter_ Try.func71 rfl 66 [(0, (.slice aa1 a.length ca2)), (1, (.slice ab4 b.length cb5))] (by kernel_rfl) (fun Qe hQ => ?_)
  replace hp := hp (Sl.len ha3)
  replace hp := hp (Sl.len hb6)
  refine seq_ (fun _ K7 => ?_)
  refine reg_ ?_
  refine sq (o_pv (.slice none 0 0) rfl (by kernel_rfl) ?_)
  refine sq (o_pv .nilIface rfl (by kernel_rfl) ?_)
  refine nil_ ?_
  refine then_normal (K7 _ _ _ _ ?_)
  refine seq_ (fun _ K8 => ?_)
  refine reg_ ?_
  refine sq (o_pv (.slice aa1 a.length ca2) rfl (by kernel_rfl) ?_)
  refine sq (o_pv (.slice ab4 b.length cb5) rfl (by kernel_rfl) ?_)
  refine sq (o_call 28 #[(.slice aa1 a.length ca2), (.slice ab4 b.length cb5)] rfl (x_call Try.call28 (by kernel_rfl)) (diff_Lines_w (X := X) (a := a) (b := b) hXo ha3 hb6 hp) ?_)
  rintro _ w11 ⟨r9, r10, hp, e12, ar14, cr15, vr17, rfl, hr16, hr18⟩
  have s13 := Step.of0 X e12
  replace hp := hp (Sl.len hr16)
  refine sq (o_pv (.tuple #[(.slice ar14 r9.length cr15), vr17]) rfl (by kernel_rfl) ?_)
  refine sq (o_pv (.slice ar14 r9.length cr15) rfl (by kernel_rfl) ?_)
  refine sq (o_pv vr17 rfl (by kernel_rfl) ?_)
  refine sq (o_pv (.slice ar14 r9.length cr15) rfl (by kernel_rfl) ?_)
  refine sq (o_pv vr17 rfl (by kernel_rfl) ?_)
  refine nil_ ?_
  refine then_normal (K8 _ _ _ _ ?_)
  refine seq_ (fun _ K19 => ?_)
  refine seq_ (fun _ K20 => ?_)
  refine reg_ ?_
  refine sq (o_pv vr17 rfl (by kernel_rfl) ?_)
  refine sq (o_pv (.bool (!r10.isNil)) rfl (x_err_ne r10 hr18 Try.underlying40 (by kernel_rfl)) ?_)
  refine nil_ ?_
  refine then_normal (K20 _ _ _ _ ?_)
  refine cond_b (!r10.isNil) (by kernel_rfl) (fun h21 => ?_) (fun h21 => ?_)
  ·
    replace hp := hp.1 h21
    refine seq_ (fun _ K22 => ?_)
    refine reg_ ?_
    refine sq (o_pv vr17 rfl (by kernel_rfl) ?_)
    refine sq (o_pv (.slice none 0 0) rfl (by kernel_rfl) ?_)
    refine sq (o_pv vr17 rfl (by kernel_rfl) ?_)
    refine nil_ ?_
    refine then_normal (K22 _ _ _ _ ?_)
    refine wp_ret ?_
    refine then_ret ?_
    have hS23 := (Sub.trans hS (Step.up s13))
    have E24 := (Evo.then0 E0 e12)
    refine end_ret hQ (.tuple #[(.slice none 0 0), vr17]) (by kernel_rfl) ?_
    exact ⟨([] : List S_diff_Match), r10, hp, E24, none, 0, vr17, rfl, Sl.nil, (Rep.less (rErr 57 129 131) hr18 hS23)⟩
  ·
    replace hp := hp.2 h21
    refine wp_skip ?_
    refine then_normal (K19 _ _ _ _ ?_)
    refine seq_ (fun _ K25 => ?_)
    refine reg_ ?_
    refine sq (o_pv (.slice none 0 0) rfl (by kernel_rfl) ?_)
    refine nil_ ?_
    refine then_normal (K25 _ _ _ _ ?_)
    refine seq_ (fun _ K26 => ?_)
    refine reg_ ?_
    refine sq (o_pv (.int .i64 (0 : Int)) rfl (by kernel_rfl) ?_)
    refine sq (o_pv (.int .i64 (0 : Int)) rfl (by kernel_rfl) ?_)
    refine sq (o_pv (.bool false) rfl (by kernel_rfl) ?_)
    refine nil_ ?_
    refine then_normal (K26 _ _ _ _ ?_)
    refine seq_ (fun _ K27 => ?_)
    refine seq_ (fun _ K28 => ?_)
    refine reg_ ?_
    refine sq (o_pv (.slice ar14 r9.length cr15) rfl (by kernel_rfl) ?_)
    refine sq (o_pv (.int .i64 (r9.length : Int)) rfl (by kernel_rfl) ?_)
    refine sq (o_pv (.int .i64 (0 : Int)) rfl (by kernel_rfl) ?_)
    refine nil_ ?_
    refine then_normal (K28 _ _ _ _ ?_)
    refine wp_block ?_
    have ha1272 := (Sl.step ha3 s13)
    have hb1273 := (Sl.step hb6 s13)
    have hXo1274 := (Old.step hXo s13)
    have E1275 := (Evo.then0 E0 e12)
    have hS1276 := (Sub.trans hS (Step.up s13))
    obtain ⟨I1262, m1263, hI1264, hp⟩ := hp
    refine loop_ 18446744073676009216 (fun kq lq w1266 => ∃ (X1267 : List Nat) (out630 : (List S_diff_Match)) (i635 : Int) (j637 : Int) (row639 : Bool) (s640 : Int) (a631 : Option Addr) (n632 : Nat) (c633 : Nat), (lq = [(8, (.slice a631 n632 c633)), (9, (.int .i64 i635)), (10, (.int .i64 j637)), (11, (.bool row639)), (25, (.int .i64 s640))]) ∧ (kq = m1263 out630 i635 j637 row639 s640) ∧ (Evo [] w w1266) ∧ (Old X1267 w1266) ∧ (Sub X X1267) ∧ (Sl r_diff_Edit X1267 w1266 ar14 cr15 r9) ∧ (OS r_diff_Match ([]) w.heap.size X1267 w1266 104 a631 n632 c633 out630) ∧ (inR .i64 i635) ∧ (inR .i64 j637) ∧ (inR .i64 s640) ∧ (I1262 out630 i635 j637 row639 s640)) (m1263 ([] : List S_diff_Match) (0 : Int) (0 : Int) false (0 : Int)) [(8, (.slice none 0 0)), (9, (.int .i64 (0 : Int))), (10, (.int .i64 (0 : Int))), (11, (.bool false)), (25, (.int .i64 (0 : Int)))] (vs_cons (by kernel_rfl) (vs_cons (by kernel_rfl) (vs_cons (by kernel_rfl) (vs_cons (by kernel_rfl) (vs_cons (by kernel_rfl) vs_nil))))) ⟨X, ([] : List S_diff_Match), (0 : Int), (0 : Int), false, (0 : Int), none, 0, 0, rfl, rfl, E1275, hXo1274, hS1276, hr16, (OS.nil _ _ _ _), (by decide), (by decide), (by decide), hI1264⟩ ?_
    rintro _ _ w1266 g1269 ⟨X1267, out630, i635, j637, row639, s640, a631, n632, c633, rfl, rfl, E1277, hXo1278, hS1279, hr1280, O634, ri636, rj638, rs641, hI1265⟩ Kl1270 hA1271
    replace hp := hp out630 i635 j637 row639 s640 hI1265 (OS.len O634) ri636 rj638 rs641
    refine seq_ (fun _ K1281 => ?_)
    refine reg_ ?_
    refine sq (o_pv (.bool (decide (s640 < (r9.length : Int)))) rfl (by kernel_rfl) ?_)
    refine nil_ ?_
    refine then_normal (K1281 _ _ _ _ ?_)
    refine seq_ (fun _ K1282 => ?_)
    refine cond_d (s640 < (r9.length : Int)) (by kernel_rfl) (fun h1283 => ?_) (fun h1283 => ?_)
    ·
      replace hp := hp.1 h1283
      refine wp_skip ?_
      refine then_normal (K1282 _ _ _ _ ?_)
      refine seq_ (fun _ K1284 => ?_)
      obtain ⟨k1585, hk1586, hp⟩ := hp
      refine ground_ ?_
      refine join_ 9223372036720570112 (fun lq w1587 => ∃ (X1588 : List Nat) (out1576 : (List S_diff_Match)) (i1581 : Int) (j1583 : Int) (a1577 : Option Addr) (n1578 : Nat) (c1579 : Nat), (lq = [(8, (.slice a1577 n1578 c1579)), (9, (.int .i64 i1581)), (10, (.int .i64 j1583)), (11, (.bool (decide (((lget r9 s640).Op) = (1 : Int)))))]) ∧ (Evo [] w w1587) ∧ (Old X1588 w1587) ∧ (Sub X X1588) ∧ (Sl r_diff_Edit X1588 w1587 ar14 cr15 r9) ∧ (OS r_diff_Match ([]) w.heap.size X1588 w1587 104 a1577 n1578 c1579 out1576) ∧ (inR .i64 i1581) ∧ (inR .i64 j1583) ∧ (k1585 out1576 i1581 j1583)) (fun Kj1589 hJ1590 => ?_) ?_
      ·
        refine wp_block ?_
        refine seq_ (fun _ K1596 => ?_)
        refine reg_ ?_
        obtain ⟨h1597, hp⟩ := hp
        obtain ⟨b1598, o1599, cs1600, ha1601, nx1602, lt1603, ok1604, hc1605⟩ := Sl.atI hr1280 s640 h1597
        obtain ⟨rfl, reOp1606, zeLine1607⟩ := r_diff_Edit_open ok1604
        replace hp := hp reOp1606
        replace hp := hp zeLine1607
        refine sq (o_pv (.pointer (some ⟨b1598, o1599 + s640.toNat * 2, none⟩)) rfl (x_ixA (m := r9.length) (c := cr15) (k := .i64) (i := s640) Try.underlying45 Try.sizeOf49 (by rw [← ha1601]; kernel_rfl) (by kernel_rfl) h1597) ?_)
        refine sq (o_pv (.agg #[(.int .i64 ((lget r9 s640).Op)), (.string ((lget r9 s640).Line))]) rfl (x_loadN [(.int .i64 ((lget r9 s640).Op)), (.string ((lget r9 s640).Line))] (by kernel_rfl) Try.isAgg49 Try.sizeOf49 hc1605) ?_)
        refine sq (o_newX [(.int .i64 (0 : Int)), (.string (ByteArray.mk #[]))] 49 (X := X1267) (B := w.heap.size) E1277.size rfl (by kernel_rfl) ?_)
        intro b1608 w1609 X1610 s1611 k1612 n1613
        have p1614 := n1613 _ (OS.old O634)
        have O1615 := (OS.step0 O634 s1611)
        have E1616 := (Evo.then0 E1277 (Step.evo s1611))
        refine sq (o_stB (o := 0) (v := (.agg #[(.int .i64 ((lget r9 s640).Op)), (.string ((lget r9 s640).Line))])) [(.int .i64 ((lget r9 s640).Op)), (.string ((lget r9 s640).Line))] rfl k1612 (by kernel_rfl) (by kernel_rfl) Try.sizeOf49 rfl rfl rfl ?_)
        intro w1617 s1618 k1619
        refine nil_ ?_
        refine then_normal (K1596 _ _ _ _ ?_)
        refine seq_ (fun _ K1620 => ?_)
        refine seq_ (fun _ K1621 => ?_)
        refine reg_ ?_
        refine sq (o_pv (.pointer (some ⟨b1608, 0, none⟩)) rfl (by kernel_rfl) ?_)
        refine sq (o_pv (.int .i64 ((lget r9 s640).Op)) rfl (x_load1 (by kernel_rfl) Try.isAgg3 (k1619.2.1.cell' 0 rfl)) ?_)
        refine sq (o_pv (.bool (decide (((lget r9 s640).Op) = (1 : Int)))) rfl (by kernel_rfl) ?_)
        refine nil_ ?_
        refine then_normal (K1621 _ _ _ _ ?_)
        have E1742 := (Evo.thenW E1616 (Step.evo s1618) k1612.2.2)
        have hXo1743 := (Old.step (Old.step hXo1278 s1611) s1618)
        have hS1744 := (Sub.trans (Sub.trans hS1279 (Step.up s1611)) (Step.up s1618))
        have hr1745 := (Sl.step (Sl.step hr1280 s1611) s1618)
        have O1746 := (OS.step O1615 s1618 p1614)
        obtain ⟨k1735, hk1736, hp⟩ := hp
        refine ground_ ?_
        refine join_ 1125895611875584 (fun lq w1737 => ∃ (X1738 : List Nat) (out1730 : (List S_diff_Match)) (a1731 : Option Addr) (n1732 : Nat) (c1733 : Nat), (lq = [(8, (.slice a1731 n1732 c1733))]) ∧ (Evo [] w w1737) ∧ (Old X1738 w1737) ∧ (Sub X X1738) ∧ (Sl r_diff_Edit X1738 w1737 ar14 cr15 r9) ∧ (OB ([]) w.heap.size X1738 w1737 b1608 [(.int .i64 ((lget r9 s640).Op)), (.string ((lget r9 s640).Line))] 49) ∧ (OS r_diff_Match ([]) w.heap.size X1738 w1737 104 a1731 n1732 c1733 out1730) ∧ (Ap ([b1608]) (blkL a1731)) ∧ (k1735 out1730)) (fun Kj1739 hJ1740 => ?_) ?_
        ·
          refine cond_d (((lget r9 s640).Op) = (1 : Int)) (by kernel_rfl) (fun h1753 => ?_) (fun h1753 => ?_)
          ·
            replace hp := hp.1 h1753
            refine seq_ (fun _ K1754 => ?_)
            refine seq_ (fun _ K1755 => ?_)
            refine reg_ ?_
            refine sq (o_pv (.bool row639) rfl (by kernel_rfl) ?_)
            refine sq (o_pv (.bool (!row639)) rfl (by kernel_rfl) ?_)
            refine nil_ ?_
            refine then_normal (K1755 _ _ _ _ ?_)
            obtain ⟨k1783, hk1784, hp⟩ := hp
            refine ground_ ?_
            refine join_ 1082331758848 (fun lq w1785 => ∃ (X1786 : List Nat) (out1778 : (List S_diff_Match)) (a1779 : Option Addr) (n1780 : Nat) (c1781 : Nat), (lq = [(8, (.slice a1779 n1780 c1781))]) ∧ (Evo [] w w1785) ∧ (Old X1786 w1785) ∧ (Sub X X1786) ∧ (Sl r_diff_Edit X1786 w1785 ar14 cr15 r9) ∧ (OB ([]) w.heap.size X1786 w1785 b1608 [(.int .i64 ((lget r9 s640).Op)), (.string ((lget r9 s640).Line))] 49) ∧ (OS r_diff_Match ([]) w.heap.size X1786 w1785 104 a1779 n1780 c1781 out1778) ∧ (Ap ([b1608]) (blkL a1779)) ∧ (k1783 out1778)) (fun Kj1787 hJ1788 => ?_) ?_
            ·
              refine cond_b (!row639) (by kernel_rfl) (fun h1796 => ?_) (fun h1796 => ?_)
              ·
                replace hp := hp.1 h1796
                refine reg_ ?_
                refine sq (o_pv (.slice a631 n632 c633) rfl (by kernel_rfl) ?_)
                refine sq (o_pv (.int .i64 i635) rfl (by kernel_rfl) ?_)
                refine sq (o_pv (.int .i64 j637) rfl (by kernel_rfl) ?_)
                refine sq (o_pv (.agg #[(.int .i64 i635), (.int .i64 j637), (.int .i64 (0 : Int))]) rfl (by kernel_rfl) ?_)
                refine sq (o_rowX (R := r_diff_Match) [(.int .i64 i635), (.int .i64 j637), (.int .i64 (0 : Int))] [(S_diff_Match.mk i635 j637 (0 : Int))] 104 1 (X := X1610) (B := w.heap.size) E1742.size rfl (by kernel_rfl) (Flat.cons (cs := [(.int .i64 i635), (.int .i64 j637), (.int .i64 (0 : Int))]) (r_diff_Match_mk ri636 rj638 (by decide)) Flat.nil) rfl (by decide) ?_)
                intro b1797 w1798 X1799 s1800 O1801 n1802
                have p1803 := n1802 _ (OS.old O1746)
                have p1804 := n1802 _ (OB.old k1619)
                obtain ⟨h1805, hp⟩ := hp
                have O1806 := (OS.step0 O1746 s1800)
                have k1807 := (OB.step0 k1619 s1800)
                have E1808 := (Evo.then0 E1742 (Step.evo s1800))
                refine sq (o_appX (R := r_diff_Match) (X := X1799) (B := w.heap.size) (L := out630) (M := [(S_diff_Match.mk i635 j637 (0 : Int))]) rfl elT100 rfl E1808.size O1806 (OS.src O1801) O1801.1 (by kernel_rfl) (by kernel_rfl) h1805 ?_)
                intro a1809 n1810 c1811 w1812 X1813 s1814 O1815 gr1816
                have p1817 := gr1816 _ (Ap.symm p1614) (OB.old k1807)
                refine sq (o_pv (.slice a1809 n1810 c1811) rfl (by kernel_rfl) ?_)
                refine nil_ ?_
                have E1818 := (Evo.thenW E1808 (Step.evo s1814) O1806.2.2)
                have hXo1819 := (Old.step (Old.step hXo1743 s1800) s1814)
                have hS1820 := (Sub.trans (Sub.trans hS1744 (Step.up s1800)) (Step.up s1814))
                have hr1821 := (Sl.step (Sl.step hr1745 s1800) s1814)
                have k1822 := (OB.step k1807 s1814 (Ap.symm p1614))
                refine then_normal (hJ1788 _ _ _ ⟨[(8, (.slice a1809 n1810 c1811))], fit_mk (fun _ _ => rfl) (by kernel_rfl) (vs_cons (by kernel_rfl) vs_nil), ?_⟩)
                exact ⟨X1813, (out630 ++ ([(S_diff_Match.mk i635 j637 (0 : Int))])), a1809, n1810, c1811, rfl, E1818, hXo1819, hS1820, hr1821, k1822, O1815, p1817, hp⟩
              ·
                replace hp := hp.2 h1796
                refine wp_skip ?_
                refine then_normal (hJ1788 _ _ _ ⟨[(8, (.slice a631 n632 c633))], fit_mk (fun _ _ => rfl) (by kernel_rfl) (vs_cons (by kernel_rfl) vs_nil), ?_⟩)
                exact ⟨X1610, out630, a631, n632, c633, rfl, E1742, hXo1743, hS1744, hr1745, k1619, O1746, (Ap.symm p1614), hp⟩
            ·
              rintro _ w1785 g1823 ⟨X1786, out1778, a1779, n1780, c1781, rfl, E1790, hXo1791, hS1792, hr1793, k1794, O1782, p1795, hv1789⟩
              replace hp := hk1784 out1778 hv1789 (OS.len O1782)
              refine then_normal (K1754 _ _ _ _ ?_)
              refine reg_ ?_
              refine sq (o_pv (.slice a1779 n1780 c1781) rfl (by kernel_rfl) ?_)
              refine sq (o_pv (.slice a1779 n1780 c1781) rfl (by kernel_rfl) ?_)
              refine sq (o_pv (.int .i64 (out1778.length : Int)) rfl (by rw [← show n1780 = out1778.length from O1782.1]; kernel_rfl) ?_)
              obtain ⟨h1824, hp⟩ := hp
              refine sq (o_pv (.int .i64 ((out1778.length : Int) - (1 : Int))) rfl (x_sub2 (a := (out1778.length : Int)) (b := (1 : Int)) ((out1778.length : Int) - (1 : Int)) (by kernel_rfl) (by kernel_rfl) (wrap_inR h1824)) ?_)
              obtain ⟨h1825, hp⟩ := hp
              obtain ⟨b1826, o1827, cs1828, ha1829, nx1830, lt1831, ok1832, hc1833⟩ := Sl.atI (OS.rd O1782) ((out1778.length : Int) - (1 : Int)) h1825
              obtain ⟨rfl, reA1834, reB1835, reN1836⟩ := r_diff_Match_open ok1832
              replace hp := hp reA1834
              replace hp := hp reB1835
              replace hp := hp reN1836
              refine sq (o_pv (.pointer (some ⟨b1826, o1827 + ((out1778.length : Int) - (1 : Int)).toNat * 3, none⟩)) rfl (x_ixA (m := n1780) (c := c1781) (k := .i64) (i := (out1778.length : Int) - (1 : Int)) Try.underlying100 Try.sizeOf104 (by rw [← ha1829]; kernel_rfl) (by kernel_rfl) ⟨h1825.1, by rw [O1782.1]; exact h1825.2⟩) ?_)
              refine sq (o_pv (.pointer (some ⟨b1826, o1827 + ((out1778.length : Int) - (1 : Int)).toNat * 3 + 2, none⟩)) rfl (by kernel_rfl) ?_)
              refine sq (o_pv (.int .i64 ((lget out1778 ((out1778.length : Int) - (1 : Int))).N)) rfl (x_load1 (by kernel_rfl) Try.isAgg3 (hc1833 2 _ rfl)) ?_)
              obtain ⟨h1837, hp⟩ := hp
              refine sq (o_pv (.int .i64 (((lget out1778 ((out1778.length : Int) - (1 : Int))).N) + (1 : Int))) rfl (x_add2 (a := (lget out1778 ((out1778.length : Int) - (1 : Int))).N) (b := (1 : Int)) (((lget out1778 ((out1778.length : Int) - (1 : Int))).N) + (1 : Int)) (by kernel_rfl) (by kernel_rfl) (wrap_inR h1837)) ?_)
              obtain ⟨h1838, hp⟩ := hp
              obtain ⟨b1839, o1840, cs1841, ha1842, nx1843, lt1844, ok1845, hc1846⟩ := Sl.atI (OS.rd O1782) ((out1778.length : Int) - (1 : Int)) h1838
              obtain ⟨rfl, reA1847, reB1848, reN1849⟩ := r_diff_Match_open ok1845
              replace hp := hp reA1847
              replace hp := hp reB1848
              replace hp := hp reN1849
              refine sq (o_pv (.pointer (some ⟨b1839, o1840 + ((out1778.length : Int) - (1 : Int)).toNat * 3, none⟩)) rfl (x_ixA (m := n1780) (c := c1781) (k := .i64) (i := (out1778.length : Int) - (1 : Int)) Try.underlying100 Try.sizeOf104 (by rw [← ha1842]; kernel_rfl) (by kernel_rfl) ⟨h1838.1, by rw [O1782.1]; exact h1838.2⟩) ?_)
              refine sq (o_pv (.pointer (some ⟨b1839, o1840 + ((out1778.length : Int) - (1 : Int)).toNat * 3 + 2, none⟩)) rfl (by kernel_rfl) ?_)
              refine sq (o_stP (R := r_diff_Match) (o := o1840) (v := (.int .i64 (((lget out1778 ((out1778.length : Int) - (1 : Int))).N) + (1 : Int)))) (cs := [(.int .i64 ((lget out1778 ((out1778.length : Int) - (1 : Int))).A)), (.int .i64 ((lget out1778 ((out1778.length : Int) - (1 : Int))).B)), (.int .i64 ((lget out1778 ((out1778.length : Int) - (1 : Int))).N))]) ((out1778.length : Int) - (1 : Int)) 2 [(.int .i64 ((lget out1778 ((out1778.length : Int) - (1 : Int))).A)), (.int .i64 ((lget out1778 ((out1778.length : Int) - (1 : Int))).B)), (.int .i64 (((lget out1778 ((out1778.length : Int) - (1 : Int))).N) + (1 : Int)))] (S_diff_Match.mk ((lget out1778 ((out1778.length : Int) - (1 : Int))).A) ((lget out1778 ((out1778.length : Int) - (1 : Int))).B) (((lget out1778 ((out1778.length : Int) - (1 : Int))).N) + (1 : Int))) rfl O1782 ha1842 h1838 hc1846 rfl (by kernel_rfl) (by kernel_rfl) Try.sizeOf3 rfl rfl rfl (fun _ => (r_diff_Match_mk reA1847 reB1848 h1837)) ?_)
              intro w1850 s1851 O1852
              obtain ⟨l1853, ql1853⟩ : ∃ y, y = (lset out1778 ((out1778.length : Int) - (1 : Int)) (S_diff_Match.mk ((lget out1778 ((out1778.length : Int) - (1 : Int))).A) ((lget out1778 ((out1778.length : Int) - (1 : Int))).B) (((lget out1778 ((out1778.length : Int) - (1 : Int))).N) + (1 : Int)))) := ⟨_, rfl⟩
              replace hp := hp l1853 ql1853
              rw [← ql1853] at O1852
              refine nil_ ?_
              have E1854 := (Evo.thenW E1790 (Step.evo s1851) O1782.2.2)
              have hXo1855 := (Old.step hXo1791 s1851)
              have hS1856 := (Sub.trans hS1792 (Step.up s1851))
              have hr1857 := (Sl.step hr1793 s1851)
              have k1858 := (OB.step k1794 s1851 p1795)
              refine then_normal (hJ1740 _ _ _ ⟨[(8, (.slice a1779 n1780 c1781))], fit_mk (AgB.nest (AgB.look (fun _ _ => rfl) (by kernel_rfl)) (by kernel_rfl) (by kernel_rfl)) (by kernel_rfl) (vs_cons (by kernel_rfl) vs_nil), ?_⟩)
              exact ⟨X1786, l1853, a1779, n1780, c1781, rfl, E1854, hXo1855, hS1856, hr1857, k1858, O1852, p1795, hp⟩
          ·
            replace hp := hp.2 h1753
            refine wp_skip ?_
            refine then_normal (hJ1740 _ _ _ ⟨[(8, (.slice a631 n632 c633))], fit_mk (fun _ _ => rfl) (by kernel_rfl) (vs_cons (by kernel_rfl) vs_nil), ?_⟩)
            exact ⟨X1610, out630, a631, n632, c633, rfl, E1742, hXo1743, hS1744, hr1745, k1619, O1746, (Ap.symm p1614), hp⟩
        ·
          rintro _ w1737 g1859 ⟨X1738, out1730, a1731, n1732, c1733, rfl, E1747, hXo1748, hS1749, hr1750, k1751, O1734, p1752, hv1741⟩
          replace hp := hk1736 out1730 hv1741 (OS.len O1734)
          refine then_normal (K1620 _ _ _ _ ?_)
          refine seq_ (fun _ K1860 => ?_)
          refine reg_ ?_
          refine sq (o_pv (.pointer (some ⟨b1608, 0, none⟩)) rfl (by kernel_rfl) ?_)
          refine sq (o_pv (.int .i64 ((lget r9 s640).Op)) rfl (x_load1 (by kernel_rfl) Try.isAgg3 (k1751.2.1.cell' 0 rfl)) ?_)
          refine sq (o_pv (.bool (decide (((lget r9 s640).Op) = (1 : Int)))) rfl (by kernel_rfl) ?_)
          refine sq (o_pv (.bool (decide (((lget r9 s640).Op) = (1 : Int)))) rfl (by kernel_rfl) ?_)
          refine nil_ ?_
          refine then_normal (K1860 _ _ _ _ ?_)
          refine seq_ (fun _ K1861 => ?_)
          refine seq_ (fun _ K1862 => ?_)
          refine reg_ ?_
          refine sq (o_pv (.pointer (some ⟨b1608, 0, none⟩)) rfl (by kernel_rfl) ?_)
          refine sq (o_pv (.int .i64 ((lget r9 s640).Op)) rfl (x_load1 (by kernel_rfl) Try.isAgg3 (k1751.2.1.cell' 0 rfl)) ?_)
          refine sq (o_pv (.bool (!decide (((lget r9 s640).Op) = (3 : Int)))) rfl (by kernel_rfl) ?_)
          refine nil_ ?_
          refine then_normal (K1862 _ _ _ _ ?_)
          obtain ⟨k1867, hk1868, hp⟩ := hp
          refine ground_ ?_
          refine join_ 216172782113784320 (fun lq w1869 => ∃ (X1870 : List Nat) (i1865 : Int), (lq = [(9, (.int .i64 i1865))]) ∧ (Evo [] w w1869) ∧ (Old X1870 w1869) ∧ (Sub X X1870) ∧ (OS r_diff_Match ([]) w.heap.size X1870 w1869 104 a1731 n1732 c1733 out1730) ∧ (Sl r_diff_Edit X1870 w1869 ar14 cr15 r9) ∧ (OB ([]) w.heap.size X1870 w1869 b1608 [(.int .i64 ((lget r9 s640).Op)), (.string ((lget r9 s640).Line))] 49) ∧ (Ap (blkL a1731) ([b1608])) ∧ (inR .i64 i1865) ∧ (k1867 i1865)) (fun Kj1871 hJ1872 => ?_) ?_
          ·
            refine cond_nd (((lget r9 s640).Op) = (3 : Int)) (by kernel_rfl) (fun h1881 => ?_) (fun h1881 => ?_)
            ·
              replace hp := hp.1 h1881
              refine reg_ ?_
              refine sq (o_pv (.int .i64 i635) rfl (by kernel_rfl) ?_)
              obtain ⟨h1882, hp⟩ := hp
              refine sq (o_pv (.int .i64 (i635 + (1 : Int))) rfl (x_add2 (a := i635) (b := (1 : Int)) (i635 + (1 : Int)) (by kernel_rfl) (by kernel_rfl) (wrap_inR h1882)) ?_)
              refine sq (o_pv (.int .i64 (i635 + (1 : Int))) rfl (by kernel_rfl) ?_)
              refine nil_ ?_
              refine then_normal (hJ1872 _ _ _ ⟨[(9, (.int .i64 (i635 + (1 : Int))))], fit_mk (fun _ _ => rfl) (by kernel_rfl) (vs_cons (by kernel_rfl) vs_nil), ?_⟩)
              exact ⟨X1738, (i635 + (1 : Int)), rfl, E1747, hXo1748, hS1749, O1734, hr1750, k1751, (Ap.symm p1752), h1882, hp⟩
            ·
              replace hp := hp.2 h1881
              refine wp_skip ?_
              refine then_normal (hJ1872 _ _ _ ⟨[(9, (.int .i64 i635))], fit_mk (fun _ _ => rfl) (by kernel_rfl) (vs_cons (by kernel_rfl) vs_nil), ?_⟩)
              exact ⟨X1738, i635, rfl, E1747, hXo1748, hS1749, O1734, hr1750, k1751, (Ap.symm p1752), ri636, hp⟩
          ·
            rintro _ w1869 g1883 ⟨X1870, i1865, rfl, E1874, hXo1875, hS1876, O1877, hr1878, k1879, p1880, ri1866, hv1873⟩
            replace hp := hk1868 i1865 hv1873 ri1866
            refine then_normal (K1861 _ _ _ _ ?_)
            refine seq_ (fun _ K1884 => ?_)
            refine reg_ ?_
            refine sq (o_pv (.pointer (some ⟨b1608, 0, none⟩)) rfl (by kernel_rfl) ?_)
            refine sq (o_pv (.int .i64 ((lget r9 s640).Op)) rfl (x_load1 (by kernel_rfl) Try.isAgg3 (k1879.2.1.cell' 0 rfl)) ?_)
            refine sq (o_pv (.bool (!decide (((lget r9 s640).Op) = (2 : Int)))) rfl (by kernel_rfl) ?_)
            refine nil_ ?_
            refine then_normal (K1884 _ _ _ _ ?_)
            refine cond_nd (((lget r9 s640).Op) = (2 : Int)) (by kernel_rfl) (fun h1885 => ?_) (fun h1885 => ?_)
            ·
              replace hp := hp.1 h1885
              refine reg_ ?_
              refine sq (o_pv (.int .i64 j637) rfl (by kernel_rfl) ?_)
              obtain ⟨h1886, hp⟩ := hp
              refine sq (o_pv (.int .i64 (j637 + (1 : Int))) rfl (x_add2 (a := j637) (b := (1 : Int)) (j637 + (1 : Int)) (by kernel_rfl) (by kernel_rfl) (wrap_inR h1886)) ?_)
              refine sq (o_pv (.int .i64 (j637 + (1 : Int))) rfl (by kernel_rfl) ?_)
              refine nil_ ?_
              refine blk_normal ?_
              refine then_normal (hJ1590 _ _ _ ⟨[(8, (.slice a1731 n1732 c1733)), (9, (.int .i64 i1865)), (10, (.int .i64 (j637 + (1 : Int)))), (11, (.bool (decide (((lget r9 s640).Op) = (1 : Int)))))], fit_mk (AgB.nest (AgB.look (AgB.nest (AgB.look (fun _ _ => rfl) (by kernel_rfl)) (by kernel_rfl) (by kernel_rfl)) (by kernel_rfl)) (by kernel_rfl) (by kernel_rfl)) (by kernel_rfl) (vs_cons (by kernel_rfl) (vs_cons (by kernel_rfl) (vs_cons (by kernel_rfl) (vs_cons (by kernel_rfl) vs_nil)))), ?_⟩)
              exact ⟨X1870, out1730, i1865, (j637 + (1 : Int)), a1731, n1732, c1733, rfl, E1874, hXo1875, hS1876, hr1878, O1877, ri1866, h1886, hp⟩
            ·
              replace hp := hp.2 h1885
              refine wp_skip ?_
              refine blk_normal ?_
              refine then_normal (hJ1590 _ _ _ ⟨[(8, (.slice a1731 n1732 c1733)), (9, (.int .i64 i1865)), (10, (.int .i64 j637)), (11, (.bool (decide (((lget r9 s640).Op) = (1 : Int)))))], fit_mk (AgB.nest (AgB.look (AgB.nest (AgB.look (fun _ _ => rfl) (by kernel_rfl)) (by kernel_rfl) (by kernel_rfl)) (by kernel_rfl)) (by kernel_rfl) (by kernel_rfl)) (by kernel_rfl) (vs_cons (by kernel_rfl) (vs_cons (by kernel_rfl) (vs_cons (by kernel_rfl) (vs_cons (by kernel_rfl) vs_nil)))), ?_⟩)
              exact ⟨X1870, out1730, i1865, j637, a1731, n1732, c1733, rfl, E1874, hXo1875, hS1876, hr1878, O1877, ri1866, rj638, hp⟩
      ·
        rintro _ w1587 g1887 ⟨X1588, out1576, i1581, j1583, a1577, n1578, c1579, rfl, E1592, hXo1593, hS1594, hr1595, O1580, ri1582, rj1584, hv1591⟩
        replace hp := hk1586 out1576 i1581 j1583 hv1591 (OS.len O1580) ri1582 rj1584
        refine then_normal (K1284 _ _ _ _ ?_)
        refine reg_ ?_
        obtain ⟨h1888, hp⟩ := hp
        refine sq (o_pv (.int .i64 (s640 + (1 : Int))) rfl (x_add2 (a := s640) (b := (1 : Int)) (s640 + (1 : Int)) (by kernel_rfl) (by kernel_rfl) (wrap_inR h1888)) ?_)
        refine sq (o_pv (.int .i64 (s640 + (1 : Int))) rfl (by kernel_rfl) ?_)
        refine nil_ ?_
        refine then_normal (hA1271 _ _ _ ⟨_, [(8, (.slice a1577 n1578 c1579)), (9, (.int .i64 i1581)), (10, (.int .i64 j1583)), (11, (.bool (decide (((lget r9 s640).Op) = (1 : Int))))), (25, (.int .i64 (s640 + (1 : Int))))], hp.2, fit_mk (AgB.nest (AgB.look (AgB.mix _ _ _) (by kernel_rfl)) (by kernel_rfl) (by kernel_rfl)) (by kernel_rfl) (vs_cons (by kernel_rfl) (vs_cons (by kernel_rfl) (vs_cons (by kernel_rfl) (vs_cons (by kernel_rfl) (vs_cons (by kernel_rfl) vs_nil))))), ?_⟩)
        exact ⟨X1588, out1576, i1581, j1583, (decide (((lget r9 s640).Op) = (1 : Int))), (s640 + (1 : Int)), a1577, n1578, c1579, rfl, rfl, E1592, hXo1593, hS1594, hr1595, O1580, ri1582, rj1584, h1888, hp.1⟩
    ·
      replace hp := hp.2 h1283
      refine wp_exit ?_
      refine then_exit ?_
      refine then_exit ?_
      refine blk_exit ?_
      refine then_normal (K27 _ _ _ _ ?_)
      refine seq_ (fun _ K1889 => ?_)
      refine reg_ ?_
      refine sq (o_pv (.slice a631 n632 c633) rfl (by kernel_rfl) ?_)
      refine sq (o_call 96 #[(.slice a631 out630.length c633)] rfl (x_call Try.call96 (by rw [← show n632 = out630.length from O634.1]; kernel_rfl)) (slices_Clip_diff_Match_diff_Match_w (X := X) (s := out630) (Old.less hXo1278 hS1279) (OS.out O634 hS1279 hX0) hp) ?_)
      rintro _ w1891 ⟨r1890, hp, e1892, ar1894, cr1895, rfl, hr1896⟩
      have s1893 := Step.of0 X1267 e1892
      replace hp := hp (Sl.len hr1896)
      refine sq (o_pv (.slice ar1894 r1890.length cr1895) rfl (by kernel_rfl) ?_)
      refine sq (o_pv .nilIface rfl (by kernel_rfl) ?_)
      refine nil_ ?_
      refine then_normal (K1889 _ _ _ _ ?_)
      refine wp_ret ?_
      have E1897 := (Evo.then0 E1277 e1892)
      refine end_ret hQ (.tuple #[(.slice ar1894 r1890.length cr1895), .nilIface]) (by kernel_rfl) ?_
      exact ⟨r1890, PErr.nil, hp, E1897, ar1894, cr1895, .nilIface, rfl, hr1896, rErr_nil⟩

def rectolaw11_Few_p (a : (List ByteArray)) (b : (List ByteArray)) (Q : Bool → Prop) : Prop :=
  ((a.length ≤ 9223372036854775807) → ((b.length ≤ 9223372036854775807) → (((((a.length : Int) > (300 : Int)) → True) ∧ ((¬ ((a.length : Int) > (300 : Int))) → ((((b.length : Int) > (300 : Int)) → True) ∧ ((¬ ((b.length : Int) > (300 : Int))) → ((((a.length : Int) ≤ (256 : Int)) → ((((b.length : Int) ≤ (256 : Int)) → ((inR .i64 ((a.length : Int) * (b.length : Int))) ∧ True)) ∧ ((¬ ((b.length : Int) ≤ (256 : Int))) → True))) ∧ ((¬ ((a.length : Int) ≤ (256 : Int))) → True)))))) ∧ (((((a.length : Int) > (300 : Int)) ∨ (((b.length : Int) > (300 : Int)) ∨ (((a.length : Int) ≤ (256 : Int)) ∧ (((b.length : Int) ≤ (256 : Int)) ∧ (((a.length : Int) * (b.length : Int)) > (2500 : Int)))))) → Q false) ∧ ((¬ (((a.length : Int) > (300 : Int)) ∨ (((b.length : Int) > (300 : Int)) ∨ (((a.length : Int) ≤ (256 : Int)) ∧ (((b.length : Int) ≤ (256 : Int)) ∧ (((a.length : Int) * (b.length : Int)) > (2500 : Int))))))) → (∃ (I50 : Int → Prop) (m51 : Int → Nat), (I50 (0 : Int)) ∧ ∀ (i28 : Int), (I50 i28) → (inR .i64 i28) → (((i28 < (a.length : Int)) → ((inL a i28) ∧ (((lget a i28).size ≤ maxLen) → (((((lget a i28).size : Int) > (300 : Int)) → Q false) ∧ ((¬ (((lget a i28).size : Int) > (300 : Int))) → ((inR .i64 (i28 + (1 : Int))) ∧ ((I50 (i28 + (1 : Int))) ∧ m51 (i28 + (1 : Int)) < m51 i28))))))) ∧ ((¬ (i28 < (a.length : Int))) → (∃ (I107 : Int → Prop) (m108 : Int → Nat), (I107 (0 : Int)) ∧ ∀ (i85 : Int), (I107 i85) → (inR .i64 i85) → (((i85 < (b.length : Int)) → ((inL b i85) ∧ (((lget b i85).size ≤ maxLen) → (((((lget b i85).size : Int) > (300 : Int)) → Q false) ∧ ((¬ (((lget b i85).size : Int) > (300 : Int))) → ((inR .i64 (i85 + (1 : Int))) ∧ ((I107 (i85 + (1 : Int))) ∧ m108 (i85 + (1 : Int)) < m108 i85))))))) ∧ ((¬ (i85 < (b.length : Int))) → Q true)))))))))))
set_option maxRecDepth 20000 in
set_option maxHeartbeats 4000000 in
theorem rectolaw11_Few_w {X : List Nat} {w : World} {a : (List ByteArray)} {b : (List ByteArray)} {aa1 : Option Addr} {ca2 : Nat} {ab4 : Option Addr} {cb5 : Nat} {Q : Bool → Prop} (hX0 : Old X w) (ha3 : Sl rStr X w aa1 ca2 a) (hb6 : Sl rStr X w ab4 cb5 b) (hp : rectolaw11_Few_p a b Q) :
    Calls Try.prog 27 #[(.slice aa1 a.length ca2), (.slice ab4 b.length cb5)] w (Ret fun v w' => ∃ (r0 : Bool), Q r0 ∧ Evo [] w w' ∧ v = (.bool r0)) := by
  have hXo := hX0
  have E0 : Evo [] w w := RB.refl _ _ _
  have hS : Sub X X := Sub.refl _
  unfold rectolaw11_Few_p at hp
  refine enter_ Try.func27 rfl 57 [(0, (.slice aa1 a.length ca2)), (1, (.slice ab4 b.length cb5))] (by kernel_rfl) (fun Qe hQ => ?_)
  replace hp := hp (Sl.len ha3)
  replace hp := hp (Sl.len hb6)
  refine seq_ (fun _ K7 => ?_)
  refine reg_ ?_
  refine sq (o_pv (.bool false) rfl (by kernel_rfl) ?_)
  refine nil_ ?_
  refine then_normal (K7 _ _ _ _ ?_)
  refine seq_ (fun _ K8 => ?_)
  refine seq_ (fun _ K9 => ?_)
  obtain ⟨hp, hq⟩ := hp
  refine ground_ ?_
  refine join_ 8589934464 (fun lq w17 => lq = [(32, (.bool (decide (((a.length : Int) > (300 : Int)) ∨ (((b.length : Int) > (300 : Int)) ∨ (((a.length : Int) ≤ (256 : Int)) ∧ (((b.length : Int) ≤ (256 : Int)) ∧ (((a.length : Int) * (b.length : Int)) > (2500 : Int)))))))))] ∧ w = w17) (fun Kj15 hJ16 => ?_) ?_
  ·
    refine reg_ ?_
    refine sq (o_pv (.slice aa1 a.length ca2) rfl (by kernel_rfl) ?_)
    refine sq (o_pv (.int .i64 (a.length : Int)) rfl (by kernel_rfl) ?_)
    by_cases h19 : (a.length : Int) > (300 : Int)
    ·
      replace hp := hp.1 h19
      refine sq (o_pv (.bool true) rfl (x_dt (p := (a.length : Int) > (300 : Int)) (by kernel_rfl) h19) ?_)
      refine sq (o_pv (.bool true) rfl (by kernel_rfl) ?_)
      refine sq (o_not (by kernel_rfl) ?_)
      refine sq (o_not (by kernel_rfl) ?_)
      refine sq (o_not (by kernel_rfl) ?_)
      refine sq (o_pv (.bool true) rfl (by kernel_rfl) ?_)
      refine sq (o_pv (.bool true) rfl (by kernel_rfl) ?_)
      refine sq (o_not (by kernel_rfl) ?_)
      refine sq (o_not (by kernel_rfl) ?_)
      refine sq (o_not (by kernel_rfl) ?_)
      refine sq (o_not (by kernel_rfl) ?_)
      refine sq (o_not (by kernel_rfl) ?_)
      refine sq (o_not (by kernel_rfl) ?_)
      refine sq (o_not (by kernel_rfl) ?_)
      refine sq (o_not (by kernel_rfl) ?_)
      refine sq (o_not (by kernel_rfl) ?_)
      refine sq (o_not (by kernel_rfl) ?_)
      refine sq (o_not (by kernel_rfl) ?_)
      refine sq (o_not (by kernel_rfl) ?_)
      refine sq (o_not (by kernel_rfl) ?_)
      refine sq (o_not (by kernel_rfl) ?_)
      refine sq (o_not (by kernel_rfl) ?_)
      refine sq (o_not (by kernel_rfl) ?_)
      refine sq (o_pv (.bool true) rfl (by kernel_rfl) ?_)
      refine nil_ ?_
      refine then_normal (hJ16 _ _ _ ⟨[(32, (.bool (decide (((a.length : Int) > (300 : Int)) ∨ (((b.length : Int) > (300 : Int)) ∨ (((a.length : Int) ≤ (256 : Int)) ∧ (((b.length : Int) ≤ (256 : Int)) ∧ (((a.length : Int) * (b.length : Int)) > (2500 : Int)))))))))], fit_mk (fun _ _ => rfl) (by kernel_rfl) (vs_cons (Eq.trans (b := (.bool true)) (by kernel_rfl) (dec_t (iff_true_intro (Or.inl h19))).symm) vs_nil), rfl, rfl⟩)
    ·
      replace hp := hp.2 h19
      refine sq (o_pv (.bool false) rfl (x_df (p := (a.length : Int) > (300 : Int)) (by kernel_rfl) h19) ?_)
      refine sq (o_pv (.bool false) rfl (by kernel_rfl) ?_)
      refine sq (o_pv (.slice ab4 b.length cb5) (by kernel_rfl) (by kernel_rfl) ?_)
      refine sq (o_pv (.int .i64 (b.length : Int)) (by kernel_rfl) (by kernel_rfl) ?_)
      by_cases h20 : (b.length : Int) > (300 : Int)
      ·
        replace hp := hp.1 h20
        refine sq (o_pv (.bool true) (by kernel_rfl) (x_dt (p := (b.length : Int) > (300 : Int)) (by kernel_rfl) h20) ?_)
        refine sq (o_pv (.bool true) rfl (by kernel_rfl) ?_)
        refine sq (o_pv (.bool true) rfl (by kernel_rfl) ?_)
        refine sq (o_not (by kernel_rfl) ?_)
        refine sq (o_not (by kernel_rfl) ?_)
        refine sq (o_not (by kernel_rfl) ?_)
        refine sq (o_not (by kernel_rfl) ?_)
        refine sq (o_not (by kernel_rfl) ?_)
        refine sq (o_not (by kernel_rfl) ?_)
        refine sq (o_not (by kernel_rfl) ?_)
        refine sq (o_not (by kernel_rfl) ?_)
        refine sq (o_not (by kernel_rfl) ?_)
        refine sq (o_not (by kernel_rfl) ?_)
        refine sq (o_not (by kernel_rfl) ?_)
        refine sq (o_not (by kernel_rfl) ?_)
        refine sq (o_not (by kernel_rfl) ?_)
        refine sq (o_not (by kernel_rfl) ?_)
        refine sq (o_not (by kernel_rfl) ?_)
        refine sq (o_not (by kernel_rfl) ?_)
        refine sq (o_pv (.bool true) rfl (by kernel_rfl) ?_)
        refine nil_ ?_
        refine then_normal (hJ16 _ _ _ ⟨[(32, (.bool (decide (((a.length : Int) > (300 : Int)) ∨ (((b.length : Int) > (300 : Int)) ∨ (((a.length : Int) ≤ (256 : Int)) ∧ (((b.length : Int) ≤ (256 : Int)) ∧ (((a.length : Int) * (b.length : Int)) > (2500 : Int)))))))))], fit_mk (fun _ _ => rfl) (by kernel_rfl) (vs_cons (Eq.trans (b := (.bool true)) (by kernel_rfl) (dec_t ((or_iff_right h19).trans (iff_true_intro (Or.inl h20)))).symm) vs_nil), rfl, rfl⟩)
      ·
        replace hp := hp.2 h20
        refine sq (o_pv (.bool false) (by kernel_rfl) (x_df (p := (b.length : Int) > (300 : Int)) (by kernel_rfl) h20) ?_)
        refine sq (o_pv (.bool false) rfl (by kernel_rfl) ?_)
        refine sq (o_pv (.bool false) rfl (by kernel_rfl) ?_)
        refine sq (o_pv (.slice aa1 a.length ca2) (by kernel_rfl) (by kernel_rfl) ?_)
        refine sq (o_pv (.int .i64 (a.length : Int)) (by kernel_rfl) (by kernel_rfl) ?_)
        by_cases h21 : (a.length : Int) ≤ (256 : Int)
        ·
          replace hp := hp.1 h21
          refine sq (o_pv (.bool true) (by kernel_rfl) (x_dt (p := (a.length : Int) ≤ (256 : Int)) (by kernel_rfl) h21) ?_)
          refine sq (o_pv (.bool true) (by kernel_rfl) (by kernel_rfl) ?_)
          refine sq (o_pv (.slice ab4 b.length cb5) (by kernel_rfl) (by kernel_rfl) ?_)
          refine sq (o_pv (.int .i64 (b.length : Int)) (by kernel_rfl) (by kernel_rfl) ?_)
          by_cases h22 : (b.length : Int) ≤ (256 : Int)
          ·
            replace hp := hp.1 h22
            refine sq (o_pv (.bool true) (by kernel_rfl) (x_dt (p := (b.length : Int) ≤ (256 : Int)) (by kernel_rfl) h22) ?_)
            refine sq (o_pv (.bool true) (by kernel_rfl) (by kernel_rfl) ?_)
            refine sq (o_pv (.bool true) (by kernel_rfl) (by kernel_rfl) ?_)
            refine sq (o_pv (.slice aa1 a.length ca2) (by kernel_rfl) (by kernel_rfl) ?_)
            refine sq (o_pv (.int .i64 (a.length : Int)) (by kernel_rfl) (by kernel_rfl) ?_)
            refine sq (o_pv (.slice ab4 b.length cb5) (by kernel_rfl) (by kernel_rfl) ?_)
            refine sq (o_pv (.int .i64 (b.length : Int)) (by kernel_rfl) (by kernel_rfl) ?_)
            obtain ⟨h23, hp⟩ := hp
            refine sq (o_pv (.int .i64 ((a.length : Int) * (b.length : Int))) (by kernel_rfl) (x_mul2 (a := (a.length : Int)) (b := (b.length : Int)) ((a.length : Int) * (b.length : Int)) (by kernel_rfl) (by kernel_rfl) (wrap_inR h23)) ?_)
            refine sq (o_pv (.bool (decide (((a.length : Int) * (b.length : Int)) > (2500 : Int)))) (by kernel_rfl) (by kernel_rfl) ?_)
            refine sq (o_pv (.bool (decide (((a.length : Int) * (b.length : Int)) > (2500 : Int)))) (by kernel_rfl) (by kernel_rfl) ?_)
            refine sq (o_pv (.bool (decide (((a.length : Int) * (b.length : Int)) > (2500 : Int)))) rfl (by kernel_rfl) ?_)
            refine nil_ ?_
            refine then_normal (hJ16 _ _ _ ⟨[(32, (.bool (decide (((a.length : Int) > (300 : Int)) ∨ (((b.length : Int) > (300 : Int)) ∨ (((a.length : Int) ≤ (256 : Int)) ∧ (((b.length : Int) ≤ (256 : Int)) ∧ (((a.length : Int) * (b.length : Int)) > (2500 : Int)))))))))], fit_mk (fun _ _ => rfl) (by kernel_rfl) (vs_cons (Eq.trans (b := (.bool (decide (((a.length : Int) * (b.length : Int)) > (2500 : Int))))) (by kernel_rfl) (dec_d ((or_iff_right h19).trans ((or_iff_right h20).trans ((and_iff_right h21).trans ((and_iff_right h22).trans Iff.rfl))))).symm) vs_nil), rfl, rfl⟩)
          ·
            replace hp := hp.2 h22
            refine sq (o_pv (.bool false) (by kernel_rfl) (x_df (p := (b.length : Int) ≤ (256 : Int)) (by kernel_rfl) h22) ?_)
            refine sq (o_pv (.bool false) (by kernel_rfl) (by kernel_rfl) ?_)
            refine sq (o_pv (.bool false) (by kernel_rfl) (by kernel_rfl) ?_)
            refine sq (o_not (by kernel_rfl) ?_)
            refine sq (o_not (by kernel_rfl) ?_)
            refine sq (o_not (by kernel_rfl) ?_)
            refine sq (o_not (by kernel_rfl) ?_)
            refine sq (o_not (by kernel_rfl) ?_)
            refine sq (o_not (by kernel_rfl) ?_)
            refine sq (o_pv (.bool false) (by kernel_rfl) (by kernel_rfl) ?_)
            refine sq (o_pv (.bool false) rfl (by kernel_rfl) ?_)
            refine nil_ ?_
            refine then_normal (hJ16 _ _ _ ⟨[(32, (.bool (decide (((a.length : Int) > (300 : Int)) ∨ (((b.length : Int) > (300 : Int)) ∨ (((a.length : Int) ≤ (256 : Int)) ∧ (((b.length : Int) ≤ (256 : Int)) ∧ (((a.length : Int) * (b.length : Int)) > (2500 : Int)))))))))], fit_mk (fun _ _ => rfl) (by kernel_rfl) (vs_cons (Eq.trans (b := (.bool false)) (by kernel_rfl) (dec_f ((or_iff_right h19).trans ((or_iff_right h20).trans ((and_iff_right h21).trans (iff_false_intro (fun h => h22 h.1)))))).symm) vs_nil), rfl, rfl⟩)
        ·
          replace hp := hp.2 h21
          refine sq (o_pv (.bool false) (by kernel_rfl) (x_df (p := (a.length : Int) ≤ (256 : Int)) (by kernel_rfl) h21) ?_)
          refine sq (o_pv (.bool false) (by kernel_rfl) (by kernel_rfl) ?_)
          refine sq (o_not (by kernel_rfl) ?_)
          refine sq (o_not (by kernel_rfl) ?_)
          refine sq (o_not (by kernel_rfl) ?_)
          refine sq (o_pv (.bool false) (by kernel_rfl) (by kernel_rfl) ?_)
          refine sq (o_pv (.bool false) (by kernel_rfl) (by kernel_rfl) ?_)
          refine sq (o_not (by kernel_rfl) ?_)
          refine sq (o_not (by kernel_rfl) ?_)
          refine sq (o_not (by kernel_rfl) ?_)
          refine sq (o_not (by kernel_rfl) ?_)
          refine sq (o_not (by kernel_rfl) ?_)
          refine sq (o_not (by kernel_rfl) ?_)
          refine sq (o_pv (.bool false) (by kernel_rfl) (by kernel_rfl) ?_)
          refine sq (o_pv (.bool false) rfl (by kernel_rfl) ?_)
          refine nil_ ?_
          refine then_normal (hJ16 _ _ _ ⟨[(32, (.bool (decide (((a.length : Int) > (300 : Int)) ∨ (((b.length : Int) > (300 : Int)) ∨ (((a.length : Int) ≤ (256 : Int)) ∧ (((b.length : Int) ≤ (256 : Int)) ∧ (((a.length : Int) * (b.length : Int)) > (2500 : Int)))))))))], fit_mk (fun _ _ => rfl) (by kernel_rfl) (vs_cons (Eq.trans (b := (.bool false)) (by kernel_rfl) (dec_f ((or_iff_right h19).trans ((or_iff_right h20).trans (iff_false_intro (fun h => h21 h.1))))).symm) vs_nil), rfl, rfl⟩)
  ·
    rintro _ w17 g18 ⟨rfl, hw⟩
    subst hw
    have hp := hq
    refine then_normal (K9 _ _ _ _ ?_)
    refine cond_d (((a.length : Int) > (300 : Int)) ∨ (((b.length : Int) > (300 : Int)) ∨ (((a.length : Int) ≤ (256 : Int)) ∧ (((b.length : Int) ≤ (256 : Int)) ∧ (((a.length : Int) * (b.length : Int)) > (2500 : Int)))))) (by kernel_rfl) (fun h24 => ?_) (fun h24 => ?_)
    ·
      replace hp := hp.1 h24
      refine seq_ (fun _ K25 => ?_)
      refine reg_ ?_
      refine sq (o_pv (.bool false) rfl (by kernel_rfl) ?_)
      refine nil_ ?_
      refine then_normal (K25 _ _ _ _ ?_)
      refine wp_ret ?_
      refine then_ret ?_
      refine end_ret hQ (.bool false) (by kernel_rfl) ?_
      exact ⟨false, hp, E0, rfl⟩
    ·
      replace hp := hp.2 h24
      refine wp_skip ?_
      refine then_normal (K8 _ _ _ _ ?_)
      refine seq_ (fun _ K26 => ?_)
      refine seq_ (fun _ K27 => ?_)
      refine reg_ ?_
      refine sq (o_pv (.int .i64 (0 : Int)) rfl (by kernel_rfl) ?_)
      refine nil_ ?_
      refine then_normal (K27 _ _ _ _ ?_)
      refine wp_block ?_
      obtain ⟨I50, m51, hI52, hp⟩ := hp
      refine loop_ 35175782154288 (fun kq lq w54 => ∃ (X55 : List Nat) (i28 : Int), (lq = [(5, (.int .i64 i28))]) ∧ (kq = m51 i28) ∧ (Evo [] w w54) ∧ (Old X55 w54) ∧ (Sub X X55) ∧ (Sl rStr X55 w54 aa1 ca2 a) ∧ (Sl rStr X55 w54 ab4 cb5 b) ∧ (inR .i64 i28) ∧ (I50 i28)) (m51 (0 : Int)) [(5, (.int .i64 (0 : Int)))] (vs_cons (by kernel_rfl) vs_nil) ⟨X, (0 : Int), rfl, rfl, E0, hXo, hS, ha3, hb6, (by decide), hI52⟩ ?_
      rintro _ _ w54 g57 ⟨X55, i28, rfl, rfl, E60, hXo61, hS62, ha63, hb64, ri29, hI53⟩ Kl58 hA59
      replace hp := hp i28 hI53 ri29
      refine seq_ (fun _ K65 => ?_)
      refine seq_ (fun _ K66 => ?_)
      refine reg_ ?_
      refine sq (o_pv (.int .i64 i28) rfl (by kernel_rfl) ?_)
      refine sq (o_pv (.slice aa1 a.length ca2) rfl (by kernel_rfl) ?_)
      refine sq (o_pv (.int .i64 (a.length : Int)) rfl (by kernel_rfl) ?_)
      refine sq (o_pv (.bool (decide (i28 < (a.length : Int)))) rfl (by kernel_rfl) ?_)
      refine nil_ ?_
      refine then_normal (K66 _ _ _ _ ?_)
      refine cond_d (i28 < (a.length : Int)) (by kernel_rfl) (fun h67 => ?_) (fun h67 => ?_)
      ·
        replace hp := hp.1 h67
        refine wp_skip ?_
        refine then_normal (K65 _ _ _ _ ?_)
        refine seq_ (fun _ K68 => ?_)
        refine wp_block ?_
        refine seq_ (fun _ K69 => ?_)
        refine reg_ ?_
        refine sq (o_pv (.slice aa1 a.length ca2) rfl (by kernel_rfl) ?_)
        refine sq (o_pv (.int .i64 i28) rfl (by kernel_rfl) ?_)
        obtain ⟨h70, hp⟩ := hp
        obtain ⟨b71, o72, cs73, ha74, nx75, lt76, ok77, hc78⟩ := Sl.atI ha63 i28 h70
        obtain ⟨rfl, ze79⟩ := ok77
        replace hp := hp ze79
        refine sq (o_pv (.pointer (some ⟨b71, o72 + i28.toNat * 1, none⟩)) rfl (x_ixA (m := a.length) (c := ca2) (k := .i64) (i := i28) Try.underlying43 Try.sizeOf9 (by rw [← ha74]; kernel_rfl) (by kernel_rfl) h70) ?_)
        refine sq (o_pv (.string (lget a i28)) rfl (x_load1 (by kernel_rfl) Try.isAgg9 (hc78 0 _ rfl)) ?_)
        refine sq (o_pv (.int .i64 ((lget a i28).size : Int)) rfl (by kernel_rfl) ?_)
        refine sq (o_pv (.bool (decide (((lget a i28).size : Int) > (300 : Int)))) rfl (by kernel_rfl) ?_)
        refine nil_ ?_
        refine then_normal (K69 _ _ _ _ ?_)
        refine cond_d (((lget a i28).size : Int) > (300 : Int)) (by kernel_rfl) (fun h80 => ?_) (fun h80 => ?_)
        ·
          replace hp := hp.1 h80
          refine seq_ (fun _ K81 => ?_)
          refine reg_ ?_
          refine sq (o_pv (.bool false) rfl (by kernel_rfl) ?_)
          refine nil_ ?_
          refine then_normal (K81 _ _ _ _ ?_)
          refine wp_ret ?_
          refine blk_ret ?_
          refine then_ret ?_
          refine then_ret ?_
          refine blk_ret ?_
          refine then_ret ?_
          refine end_ret hQ (.bool false) (by kernel_rfl) ?_
          exact ⟨false, hp, E60, rfl⟩
        ·
          replace hp := hp.2 h80
          refine wp_skip ?_
          refine blk_normal ?_
          refine then_normal (K68 _ _ _ _ ?_)
          refine reg_ ?_
          refine sq (o_pv (.int .i64 i28) rfl (by kernel_rfl) ?_)
          obtain ⟨h82, hp⟩ := hp
          refine sq (o_pv (.int .i64 (i28 + (1 : Int))) rfl (x_add2 (a := i28) (b := (1 : Int)) (i28 + (1 : Int)) (by kernel_rfl) (by kernel_rfl) (wrap_inR h82)) ?_)
          refine sq (o_pv (.int .i64 (i28 + (1 : Int))) rfl (by kernel_rfl) ?_)
          refine nil_ ?_
          refine then_normal (hA59 _ _ _ ⟨_, [(5, (.int .i64 (i28 + (1 : Int))))], hp.2, fit_mk (AgB.mix _ _ _) (by kernel_rfl) (vs_cons (by kernel_rfl) vs_nil), ?_⟩)
          exact ⟨X55, (i28 + (1 : Int)), rfl, rfl, E60, hXo61, hS62, ha63, hb64, h82, hp.1⟩
      ·
        replace hp := hp.2 h67
        refine wp_exit ?_
        refine then_exit ?_
        refine then_exit ?_
        refine blk_exit ?_
        refine then_normal (K26 _ _ _ _ ?_)
        refine seq_ (fun _ K83 => ?_)
        refine seq_ (fun _ K84 => ?_)
        refine reg_ ?_
        refine sq (o_pv (.int .i64 (0 : Int)) rfl (by kernel_rfl) ?_)
        refine nil_ ?_
        refine then_normal (K84 _ _ _ _ ?_)
        refine wp_block ?_
        obtain ⟨I107, m108, hI109, hp⟩ := hp
        refine loop_ 144080003703767120 (fun kq lq w111 => ∃ (X112 : List Nat) (i85 : Int), (lq = [(6, (.int .i64 i85))]) ∧ (kq = m108 i85) ∧ (Evo [] w w111) ∧ (Old X112 w111) ∧ (Sub X X112) ∧ (Sl rStr X112 w111 ab4 cb5 b) ∧ (inR .i64 i85) ∧ (I107 i85)) (m108 (0 : Int)) [(6, (.int .i64 (0 : Int)))] (vs_cons (by kernel_rfl) vs_nil) ⟨X55, (0 : Int), rfl, rfl, E60, hXo61, hS62, hb64, (by decide), hI109⟩ ?_
        rintro _ _ w111 g114 ⟨X112, i85, rfl, rfl, E117, hXo118, hS119, hb120, ri86, hI110⟩ Kl115 hA116
        replace hp := hp i85 hI110 ri86
        refine seq_ (fun _ K121 => ?_)
        refine seq_ (fun _ K122 => ?_)
        refine reg_ ?_
        refine sq (o_pv (.int .i64 i85) rfl (by kernel_rfl) ?_)
        refine sq (o_pv (.slice ab4 b.length cb5) rfl (by kernel_rfl) ?_)
        refine sq (o_pv (.int .i64 (b.length : Int)) rfl (by kernel_rfl) ?_)
        refine sq (o_pv (.bool (decide (i85 < (b.length : Int)))) rfl (by kernel_rfl) ?_)
        refine nil_ ?_
        refine then_normal (K122 _ _ _ _ ?_)
        refine cond_d (i85 < (b.length : Int)) (by kernel_rfl) (fun h123 => ?_) (fun h123 => ?_)
        ·
          replace hp := hp.1 h123
          refine wp_skip ?_
          refine then_normal (K121 _ _ _ _ ?_)
          refine seq_ (fun _ K124 => ?_)
          refine wp_block ?_
          refine seq_ (fun _ K125 => ?_)
          refine reg_ ?_
          refine sq (o_pv (.slice ab4 b.length cb5) rfl (by kernel_rfl) ?_)
          refine sq (o_pv (.int .i64 i85) rfl (by kernel_rfl) ?_)
          obtain ⟨h126, hp⟩ := hp
          obtain ⟨b127, o128, cs129, ha130, nx131, lt132, ok133, hc134⟩ := Sl.atI hb120 i85 h126
          obtain ⟨rfl, ze135⟩ := ok133
          replace hp := hp ze135
          refine sq (o_pv (.pointer (some ⟨b127, o128 + i85.toNat * 1, none⟩)) rfl (x_ixA (m := b.length) (c := cb5) (k := .i64) (i := i85) Try.underlying43 Try.sizeOf9 (by rw [← ha130]; kernel_rfl) (by kernel_rfl) h126) ?_)
          refine sq (o_pv (.string (lget b i85)) rfl (x_load1 (by kernel_rfl) Try.isAgg9 (hc134 0 _ rfl)) ?_)
          refine sq (o_pv (.int .i64 ((lget b i85).size : Int)) rfl (by kernel_rfl) ?_)
          refine sq (o_pv (.bool (decide (((lget b i85).size : Int) > (300 : Int)))) rfl (by kernel_rfl) ?_)
          refine nil_ ?_
          refine then_normal (K125 _ _ _ _ ?_)
          refine cond_d (((lget b i85).size : Int) > (300 : Int)) (by kernel_rfl) (fun h136 => ?_) (fun h136 => ?_)
          ·
            replace hp := hp.1 h136
            refine seq_ (fun _ K137 => ?_)
            refine reg_ ?_
            refine sq (o_pv (.bool false) rfl (by kernel_rfl) ?_)
            refine nil_ ?_
            refine then_normal (K137 _ _ _ _ ?_)
            refine wp_ret ?_
            refine blk_ret ?_
            refine then_ret ?_
            refine then_ret ?_
            refine blk_ret ?_
            refine then_ret ?_
            refine end_ret hQ (.bool false) (by kernel_rfl) ?_
            exact ⟨false, hp, E117, rfl⟩
          ·
            replace hp := hp.2 h136
            refine wp_skip ?_
            refine blk_normal ?_
            refine then_normal (K124 _ _ _ _ ?_)
            refine reg_ ?_
            refine sq (o_pv (.int .i64 i85) rfl (by kernel_rfl) ?_)
            obtain ⟨h138, hp⟩ := hp
            refine sq (o_pv (.int .i64 (i85 + (1 : Int))) rfl (x_add2 (a := i85) (b := (1 : Int)) (i85 + (1 : Int)) (by kernel_rfl) (by kernel_rfl) (wrap_inR h138)) ?_)
            refine sq (o_pv (.int .i64 (i85 + (1 : Int))) rfl (by kernel_rfl) ?_)
            refine nil_ ?_
            refine then_normal (hA116 _ _ _ ⟨_, [(6, (.int .i64 (i85 + (1 : Int))))], hp.2, fit_mk (AgB.mix _ _ _) (by kernel_rfl) (vs_cons (by kernel_rfl) vs_nil), ?_⟩)
            exact ⟨X112, (i85 + (1 : Int)), rfl, rfl, E117, hXo118, hS119, hb120, h138, hp.1⟩
        ·
          replace hp := hp.2 h123
          refine wp_exit ?_
          refine then_exit ?_
          refine then_exit ?_
          refine blk_exit ?_
          refine then_normal (K83 _ _ _ _ ?_)
          refine seq_ (fun _ K139 => ?_)
          refine reg_ ?_
          refine sq (o_pv (.bool true) rfl (by kernel_rfl) ?_)
          refine nil_ ?_
          refine then_normal (K139 _ _ _ _ ?_)
          refine wp_ret ?_
          refine end_ret hQ (.bool true) (by kernel_rfl) ?_
          exact ⟨true, hp, E117, rfl⟩

def rectoref11_Equal_p (a : (List ByteArray)) (b : (List ByteArray)) (Q : Bool → Prop) : Prop :=
  ((a.length ≤ 9223372036854775807) → ((b.length ≤ 9223372036854775807) → (((¬ ((a.length : Int) = (b.length : Int))) → Q false) ∧ (((a.length : Int) = (b.length : Int)) → (∃ (I57 : Int → Prop) (m58 : Int → Nat), (I57 (0 : Int)) ∧ ∀ (i14 : Int), (I57 i14) → (inR .i64 i14) → (((i14 < (a.length : Int)) → ((inL a i14) ∧ (((lget a i14).size ≤ maxLen) → ((inL b i14) ∧ (((lget b i14).size ≤ maxLen) → (((¬ ((lget a i14 : ByteArray) = lget b i14)) → Q false) ∧ (((lget a i14 : ByteArray) = lget b i14) → ((inR .i64 (i14 + (1 : Int))) ∧ ((I57 (i14 + (1 : Int))) ∧ m58 (i14 + (1 : Int)) < m58 i14))))))))) ∧ ((¬ (i14 < (a.length : Int))) → Q true)))))))
set_option maxRecDepth 20000 in
set_option maxHeartbeats 4000000 in
theorem rectoref11_Equal_w {X : List Nat} {w : World} {a : (List ByteArray)} {b : (List ByteArray)} {aa1 : Option Addr} {ca2 : Nat} {ab4 : Option Addr} {cb5 : Nat} {Q : Bool → Prop} (hX0 : Old X w) (ha3 : Sl rStr X w aa1 ca2 a) (hb6 : Sl rStr X w ab4 cb5 b) (hp : rectoref11_Equal_p a b Q) :
    Calls Try.prog 29 #[(.slice aa1 a.length ca2), (.slice ab4 b.length cb5)] w (Ret fun v w' => ∃ (r0 : Bool), Q r0 ∧ Evo [] w w' ∧ v = (.bool r0)) := by
  have hXo := hX0
  have E0 : Evo [] w w := RB.refl _ _ _
  have hS : Sub X X := Sub.refl _
  unfold rectoref11_Equal_p at hp
  refine enter_ Try.func29 rfl 26 [(0, (.slice aa1 a.length ca2)), (1, (.slice ab4 b.length cb5))] (by kernel_rfl) (fun Qe hQ => ?_)
  replace hp := hp (Sl.len ha3)
  replace hp := hp (Sl.len hb6)
  refine seq_ (fun _ K7 => ?_)
  refine reg_ ?_
  refine sq (o_pv (.bool false) rfl (by kernel_rfl) ?_)
  refine nil_ ?_
  refine then_normal (K7 _ _ _ _ ?_)
  refine seq_ (fun _ K8 => ?_)
  refine seq_ (fun _ K9 => ?_)
  refine reg_ ?_
  refine sq (o_pv (.slice aa1 a.length ca2) rfl (by kernel_rfl) ?_)
  refine sq (o_pv (.int .i64 (a.length : Int)) rfl (by kernel_rfl) ?_)
  refine sq (o_pv (.slice ab4 b.length cb5) rfl (by kernel_rfl) ?_)
  refine sq (o_pv (.int .i64 (b.length : Int)) rfl (by kernel_rfl) ?_)
  refine sq (o_pv (.bool (!decide ((a.length : Int) = (b.length : Int)))) rfl (by kernel_rfl) ?_)
  refine nil_ ?_
  refine then_normal (K9 _ _ _ _ ?_)
  refine cond_nd ((a.length : Int) = (b.length : Int)) (by kernel_rfl) (fun h10 => ?_) (fun h10 => ?_)
  ·
    replace hp := hp.1 h10
    refine seq_ (fun _ K11 => ?_)
    refine reg_ ?_
    refine sq (o_pv (.bool false) rfl (by kernel_rfl) ?_)
    refine nil_ ?_
    refine then_normal (K11 _ _ _ _ ?_)
    refine wp_ret ?_
    refine then_ret ?_
    refine end_ret hQ (.bool false) (by kernel_rfl) ?_
    exact ⟨false, hp, E0, rfl⟩
  ·
    replace hp := hp.2 h10
    refine wp_skip ?_
    refine then_normal (K8 _ _ _ _ ?_)
    refine seq_ (fun _ K12 => ?_)
    refine seq_ (fun _ K13 => ?_)
    refine reg_ ?_
    refine sq (o_pv (.int .i64 (0 : Int)) rfl (by kernel_rfl) ?_)
    refine nil_ ?_
    refine then_normal (K13 _ _ _ _ ?_)
    refine wp_block ?_
    obtain ⟨I57, m58, hI59, hp⟩ := hp
    refine loop_ 67106864 (fun kq lq w61 => ∃ (X62 : List Nat) (i14 : Int), (lq = [(5, (.int .i64 i14))]) ∧ (kq = m58 i14) ∧ (Evo [] w w61) ∧ (Old X62 w61) ∧ (Sub X X62) ∧ (Sl rStr X62 w61 aa1 ca2 a) ∧ (Sl rStr X62 w61 ab4 cb5 b) ∧ (inR .i64 i14) ∧ (I57 i14)) (m58 (0 : Int)) [(5, (.int .i64 (0 : Int)))] (vs_cons (by kernel_rfl) vs_nil) ⟨X, (0 : Int), rfl, rfl, E0, hXo, hS, ha3, hb6, (by decide), hI59⟩ ?_
    rintro _ _ w61 g64 ⟨X62, i14, rfl, rfl, E67, hXo68, hS69, ha70, hb71, ri15, hI60⟩ Kl65 hA66
    replace hp := hp i14 hI60 ri15
    refine seq_ (fun _ K72 => ?_)
    refine seq_ (fun _ K73 => ?_)
    refine reg_ ?_
    refine sq (o_pv (.int .i64 i14) rfl (by kernel_rfl) ?_)
    refine sq (o_pv (.slice aa1 a.length ca2) rfl (by kernel_rfl) ?_)
    refine sq (o_pv (.int .i64 (a.length : Int)) rfl (by kernel_rfl) ?_)
    refine sq (o_pv (.bool (decide (i14 < (a.length : Int)))) rfl (by kernel_rfl) ?_)
    refine nil_ ?_
    refine then_normal (K73 _ _ _ _ ?_)
    refine cond_d (i14 < (a.length : Int)) (by kernel_rfl) (fun h74 => ?_) (fun h74 => ?_)
    ·
      replace hp := hp.1 h74
      refine wp_skip ?_
      refine then_normal (K72 _ _ _ _ ?_)
      refine seq_ (fun _ K75 => ?_)
      refine wp_block ?_
      refine seq_ (fun _ K76 => ?_)
      refine reg_drawn (RB w61.heap.size []) 9 (by kernel_rfl) (fun w77 hd78 => ?_)
      have e79 := Evo.of_drew hd78
      have z80 : w77.heap.size = w61.heap.size := by rw [hd78]
      clear hd78
      have s82 := Step.of0 X62 e79
      have er81 := RB.refl w61.heap.size [] w77
      have E83 := (Evo.then0 E67 (Step.evo s82))
      have hXo84 := (Old.step hXo68 s82)
      have hS85 := (Sub.trans hS69 (Step.up s82))
      have ha86 := (Sl.step ha70 s82)
      have hb87 := (Sl.step hb71 s82)
      refine r_take 0 (.slice aa1 a.length ca2) (RB.pre _ _) rfl (by kernel_rfl) (fun _ _ _ h => hQ.panic _ _ _ _ _ h) (.inl ⟨rfl, fun wq hq => (by kernel_rfl)⟩) ?_
      refine r_take 1 (.int .i64 i14) (RB.pre _ _) rfl (by kernel_rfl) (fun _ _ _ h => hQ.panic _ _ _ _ _ h) (.inl ⟨rfl, fun wq hq => (by kernel_rfl)⟩) ?_
      obtain ⟨h88, hp⟩ := hp
      obtain ⟨b89, o90, cs91, ha92, nx93, lt94, ok95, hc96⟩ := Sl.atI ha86 i14 h88
      obtain ⟨rfl, ze97⟩ := ok95
      replace hp := hp ze97
      refine r_take 2 (.pointer (some ⟨b89, o90 + i14.toNat * 1, none⟩)) (RB.pre _ _) rfl (by kernel_rfl) (fun _ _ _ h => hQ.panic _ _ _ _ _ h) (.inl ⟨rfl, fun wq hq => (x_ixA (m := a.length) (c := ca2) (k := .i64) (i := i14) Try.underlying43 Try.sizeOf9 (by rw [← ha92]; kernel_rfl) (by kernel_rfl) h88)⟩) ?_
      refine r_take 3 (.string (lget a i14)) (RB.pre _ _) rfl (by kernel_rfl) (fun _ _ _ h => hQ.panic _ _ _ _ _ h) (.inl ⟨rfl, fun wq hq => (x_load1 (by kernel_rfl) Try.isAgg9 ((CellsAt.rb hc96 (RB.trans er81 hq) (Nat.lt_of_lt_of_eq lt94 z80) (fun h => by cases h)) 0 _ rfl))⟩) ?_
      refine r_take 4 (.slice ab4 b.length cb5) (RB.pre _ _) rfl (by kernel_rfl) (fun _ _ _ h => hQ.panic _ _ _ _ _ h) (.inl ⟨rfl, fun wq hq => (by kernel_rfl)⟩) ?_
      refine r_take 5 (.int .i64 i14) (RB.pre _ _) rfl (by kernel_rfl) (fun _ _ _ h => hQ.panic _ _ _ _ _ h) (.inl ⟨rfl, fun wq hq => (by kernel_rfl)⟩) ?_
      obtain ⟨h98, hp⟩ := hp
      obtain ⟨b99, o100, cs101, ha102, nx103, lt104, ok105, hc106⟩ := Sl.atI hb87 i14 h98
      obtain ⟨rfl, ze107⟩ := ok105
      replace hp := hp ze107
      refine r_take 6 (.pointer (some ⟨b99, o100 + i14.toNat * 1, none⟩)) (RB.pre _ _) rfl (by kernel_rfl) (fun _ _ _ h => hQ.panic _ _ _ _ _ h) (.inl ⟨rfl, fun wq hq => (x_ixA (m := b.length) (c := cb5) (k := .i64) (i := i14) Try.underlying43 Try.sizeOf9 (by rw [← ha102]; kernel_rfl) (by kernel_rfl) h98)⟩) ?_
      refine r_take 7 (.string (lget b i14)) (RB.pre _ _) rfl (by kernel_rfl) (fun _ _ _ h => hQ.panic _ _ _ _ _ h) (.inl ⟨rfl, fun wq hq => (x_load1 (by kernel_rfl) Try.isAgg9 ((CellsAt.rb hc106 (RB.trans er81 hq) (Nat.lt_of_lt_of_eq lt104 z80) (fun h => by cases h)) 0 _ rfl))⟩) ?_
      refine r_take 8 (.bool (!decide ((lget a i14 : ByteArray) = lget b i14))) (RB.pre _ _) rfl (by kernel_rfl) (fun _ _ _ h => hQ.panic _ _ _ _ _ h) (.inl ⟨rfl, fun wq hq => (x_strne (by kernel_rfl) (by kernel_rfl))⟩) ?_
      refine r_done (by kernel_rfl) ?_
      refine then_normal (K76 _ _ _ _ ?_)
      refine cond_nd ((lget a i14 : ByteArray) = lget b i14) (by kernel_rfl) (fun h108 => ?_) (fun h108 => ?_)
      ·
        replace hp := hp.1 h108
        refine seq_ (fun _ K109 => ?_)
        refine reg_ ?_
        refine sq (o_pv (.bool false) rfl (by kernel_rfl) ?_)
        refine nil_ ?_
        refine then_normal (K109 _ _ _ _ ?_)
        refine wp_ret ?_
        refine blk_ret ?_
        refine then_ret ?_
        refine then_ret ?_
        refine blk_ret ?_
        refine then_ret ?_
        refine end_ret hQ (.bool false) (by kernel_rfl) ?_
        exact ⟨false, hp, E83, rfl⟩
      ·
        replace hp := hp.2 h108
        refine wp_skip ?_
        refine blk_normal ?_
        refine then_normal (K75 _ _ _ _ ?_)
        refine reg_ ?_
        refine sq (o_pv (.int .i64 i14) rfl (by kernel_rfl) ?_)
        obtain ⟨h110, hp⟩ := hp
        refine sq (o_pv (.int .i64 (i14 + (1 : Int))) rfl (x_add2 (a := i14) (b := (1 : Int)) (i14 + (1 : Int)) (by kernel_rfl) (by kernel_rfl) (wrap_inR h110)) ?_)
        refine sq (o_pv (.int .i64 (i14 + (1 : Int))) rfl (by kernel_rfl) ?_)
        refine nil_ ?_
        refine then_normal (hA66 _ _ _ ⟨_, [(5, (.int .i64 (i14 + (1 : Int))))], hp.2, fit_mk (AgB.mix _ _ _) (by kernel_rfl) (vs_cons (by kernel_rfl) vs_nil), ?_⟩)
        exact ⟨X62, (i14 + (1 : Int)), rfl, rfl, E83, hXo84, hS85, ha86, hb87, h110, hp.1⟩
    ·
      replace hp := hp.2 h74
      refine wp_exit ?_
      refine then_exit ?_
      refine then_exit ?_
      refine blk_exit ?_
      refine then_normal (K12 _ _ _ _ ?_)
      refine seq_ (fun _ K111 => ?_)
      refine reg_ ?_
      refine sq (o_pv (.bool true) rfl (by kernel_rfl) ?_)
      refine nil_ ?_
      refine then_normal (K111 _ _ _ _ ?_)
      refine wp_ret ?_
      refine end_ret hQ (.bool true) (by kernel_rfl) ?_
      exact ⟨true, hp, E67, rfl⟩

end Go.Proofs.Ytmepomdpjlbaaaa
