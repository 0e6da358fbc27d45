/- Walks of functions: what each asks and computes, as a plain predicate, and the contract from it. -/
import Derived.Test.YtmepomdpjlbaaaaChecked
import Derived.Test.YtmepomdpjlbaaaaD2
namespace Go.Proofs.Ytmepomdpjlbaaaa
open Go

theorem elT43 : ElemT Try.prog 43 9 1 16 := elemT_mk (i := Try.t9) (z := (.string (ByteArray.mk #[]))) (by kernel_rfl) (by kernel_rfl) (by kernel_rfl) (by kernel_rfl) Try.underlying43 Try.sizeOf9 (by decide) (by decide)

def rectolaw11_known_p (Q : Bool → Prop) : Prop :=
  (diff_Lines_p ([(ByteArray.mk #[97]), (ByteArray.mk #[98])]) ([(ByteArray.mk #[97]), (ByteArray.mk #[99])]) (fun (r20 : (List S_diff_Edit)) (r21 : PErr) => ((r20.length ≤ 9223372036854775807) → (diff_Matches_p ([(ByteArray.mk #[97]), (ByteArray.mk #[98])]) ([(ByteArray.mk #[97]), (ByteArray.mk #[99])]) (fun (r57 : (List S_diff_Match)) (r58 : PErr) => ((r57.length ≤ 9223372036854775807) → (diff_Common_p ([(ByteArray.mk #[97]), (ByteArray.mk #[98])]) ([(ByteArray.mk #[97]), (ByteArray.mk #[99])]) (fun (r102 : Int) (r103 : PErr) => ((inR .i64 r102) → (∃ k186 : Bool → Prop, (∀ (s185 : Bool), k186 s185 → Q s185) ∧ (((r21.isNil = true) → (((r58.isNil = true) → (((r103.isNil = true) → ((((r20.length : Int) = (3 : Int)) → ((inL r20 (0 : Int)) ∧ ((inR .i64 ((lget r20 (0 : Int)).Op)) → ((((lget r20 (0 : Int)).Line).size ≤ maxLen) → (((((lget r20 (0 : Int)).Op) = (1 : Int)) → ((inL r20 (1 : Int)) ∧ ((inR .i64 ((lget r20 (1 : Int)).Op)) → ((((lget r20 (1 : Int)).Line).size ≤ maxLen) → (((((lget r20 (1 : Int)).Op) = (2 : Int)) → ((inL r20 (2 : Int)) ∧ ((inR .i64 ((lget r20 (2 : Int)).Op)) → ((((lget r20 (2 : Int)).Line).size ≤ maxLen) → (((((lget r20 (2 : Int)).Op) = (3 : Int)) → ((inL r20 (2 : Int)) ∧ ((inR .i64 ((lget r20 (2 : Int)).Op)) → ((((lget r20 (2 : Int)).Line).size ≤ maxLen) → (((((lget r20 (2 : Int)).Line : ByteArray) = (ByteArray.mk #[99])) → ((((r57.length : Int) = (1 : Int)) → ((inL r57 (0 : Int)) ∧ ((inR .i64 ((lget r57 (0 : Int)).A)) → ((inR .i64 ((lget r57 (0 : Int)).B)) → ((inR .i64 ((lget r57 (0 : Int)).N)) → (((((lget r57 (0 : Int)).N) = (1 : Int)) → (((r102 = (1 : Int)) → (diff_Cost_p r20 (fun (r276 : Int) => ((inR .i64 r276) → (k186 (decide (r276 = (2 : Int)))))))) ∧ ((¬ (r102 = (1 : Int))) → (k186 false)))) ∧ ((¬ (((lget r57 (0 : Int)).N) = (1 : Int))) → (k186 false)))))))) ∧ ((¬ ((r57.length : Int) = (1 : Int))) → (k186 false)))) ∧ ((¬ (((lget r20 (2 : Int)).Line : ByteArray) = (ByteArray.mk #[99]))) → (k186 false))))))) ∧ ((¬ (((lget r20 (2 : Int)).Op) = (3 : Int))) → (k186 false))))))) ∧ ((¬ (((lget r20 (1 : Int)).Op) = (2 : Int))) → (k186 false))))))) ∧ ((¬ (((lget r20 (0 : Int)).Op) = (1 : Int))) → (k186 false))))))) ∧ ((¬ ((r20.length : Int) = (3 : Int))) → (k186 false)))) ∧ ((¬ (r103.isNil = true)) → (k186 false)))) ∧ ((¬ (r58.isNil = true)) → (k186 false)))) ∧ ((¬ (r21.isNil = true)) → (k186 false)))))))))))))
set_option maxRecDepth 20000 in
set_option maxHeartbeats 4000000 in
theorem rectolaw11_known_w {X : List Nat} {w : World} {Q : Bool → Prop} (hX0 : Old X w) (hp : rectolaw11_known_p Q) :
    Calls Try.prog 26 #[] w (Ret fun v w' => ∃ (r0 : Bool), Q r0 ∧ Evo [] w w' ∧ v = (.bool r0)) := by
  have hXo := hX0
  have E0 : Evo [] w w := RB.refl _ _ _
  have hS : Sub X X := Sub.refl _
  unfold rectolaw11_known_p at hp
  refine enter_ Try.func26 rfl 89 [] (by kernel_rfl) (fun Qe hQ => ?_)
  refine seq_ (fun _ K1 => ?_)
  refine reg_ ?_
  refine sq (o_pv (.bool false) rfl (by kernel_rfl) ?_)
  refine nil_ ?_
  refine then_normal (K1 _ _ _ _ ?_)
  refine seq_ (fun _ K2 => ?_)
  refine reg_ ?_
  refine sq (o_rowX (R := rStr) [(.string (ByteArray.mk #[97])), (.string (ByteArray.mk #[98]))] [(ByteArray.mk #[97]), (ByteArray.mk #[98])] 9 2 (X := X) (B := w.heap.size) E0.size rfl (by kernel_rfl) (Flat.cons (cs := [(.string (ByteArray.mk #[97]))]) (rStr_mk (by decide)) (Flat.cons (cs := [(.string (ByteArray.mk #[98]))]) (rStr_mk (by decide)) Flat.nil)) rfl (by decide) ?_)
  intro b3 w4 X5 s6 O7 n8
  have E15 := (Evo.then0 E0 (Step.evo s6))
  refine sq (o_rowX (R := rStr) [(.string (ByteArray.mk #[97])), (.string (ByteArray.mk #[99]))] [(ByteArray.mk #[97]), (ByteArray.mk #[99])] 9 2 (X := X5) (B := w.heap.size) E15.size rfl (by kernel_rfl) (Flat.cons (cs := [(.string (ByteArray.mk #[97]))]) (rStr_mk (by decide)) (Flat.cons (cs := [(.string (ByteArray.mk #[99]))]) (rStr_mk (by decide)) Flat.nil)) rfl (by decide) ?_)
  intro b9 w10 X11 s12 O13 n14
  have p16 := n14 _ (OS.old O7)
  have O17 := (OS.step0 O7 s12)
  have hS18 := (Sub.trans (Sub.trans hS (Step.up s6)) (Step.up s12))
  have hXo19 := (Old.step (Old.step hXo s6) s12)
  refine sq (o_call 28 #[(.slice (some ⟨b3, 0, none⟩) ([(ByteArray.mk #[97]), (ByteArray.mk #[98])]).length 2), (.slice (some ⟨b9, 0, none⟩) ([(ByteArray.mk #[97]), (ByteArray.mk #[99])]).length 2)] rfl (x_call Try.call28 (by rw [← show 2 = ([(ByteArray.mk #[97]), (ByteArray.mk #[98])]).length from O17.1, ← show 2 = ([(ByteArray.mk #[97]), (ByteArray.mk #[99])]).length from O13.1]; kernel_rfl)) (diff_Lines_w (X := X) (a := [(ByteArray.mk #[97]), (ByteArray.mk #[98])]) (b := [(ByteArray.mk #[97]), (ByteArray.mk #[99])]) (Old.less hXo19 hS18) (OS.out O17 hS18 hX0) (OS.out O13 hS18 hX0) hp) ?_)
  rintro _ w22 ⟨r20, r21, hp, e23, ar25, cr26, vr28, rfl, hr27, hr29⟩
  have s24 := Step.of0 X11 e23
  replace hp := hp (Sl.len hr27)
  refine sq (o_pv (.tuple #[(.slice ar25 r20.length cr26), vr28]) rfl (by kernel_rfl) ?_)
  refine sq (o_pv (.slice ar25 r20.length cr26) rfl (by kernel_rfl) ?_)
  refine sq (o_pv vr28 rfl (by kernel_rfl) ?_)
  refine sq (o_pv (.slice ar25 r20.length cr26) rfl (by kernel_rfl) ?_)
  refine sq (o_pv vr28 rfl (by kernel_rfl) ?_)
  refine nil_ ?_
  refine then_normal (K2 _ _ _ _ ?_)
  refine seq_ (fun _ K30 => ?_)
  refine reg_ ?_
  have O31 := (OS.step0 O17 s24)
  have O32 := (OS.step0 O13 s24)
  have E39 := (Evo.then0 (Evo.then0 E15 (Step.evo s12)) e23)
  refine sq (o_rowX (R := rStr) [(.string (ByteArray.mk #[97])), (.string (ByteArray.mk #[98]))] [(ByteArray.mk #[97]), (ByteArray.mk #[98])] 9 2 (X := X11) (B := w.heap.size) E39.size rfl (by kernel_rfl) (Flat.cons (cs := [(.string (ByteArray.mk #[97]))]) (rStr_mk (by decide)) (Flat.cons (cs := [(.string (ByteArray.mk #[98]))]) (rStr_mk (by decide)) Flat.nil)) rfl (by decide) ?_)
  intro b33 w34 X35 s36 O37 n38
  have p40 := n38 _ (OS.old O31)
  have p41 := n38 _ (OS.old O32)
  have O42 := (OS.step0 O31 s36)
  have O43 := (OS.step0 O32 s36)
  have E50 := (Evo.then0 E39 (Step.evo s36))
  refine sq (o_rowX (R := rStr) [(.string (ByteArray.mk #[97])), (.string (ByteArray.mk #[99]))] [(ByteArray.mk #[97]), (ByteArray.mk #[99])] 9 2 (X := X35) (B := w.heap.size) E50.size rfl (by kernel_rfl) (Flat.cons (cs := [(.string (ByteArray.mk #[97]))]) (rStr_mk (by decide)) (Flat.cons (cs := [(.string (ByteArray.mk #[99]))]) (rStr_mk (by decide)) Flat.nil)) rfl (by decide) ?_)
  intro b44 w45 X46 s47 O48 n49
  have p51 := n49 _ (OS.old O42)
  have p52 := n49 _ (OS.old O43)
  have p53 := n49 _ (OS.old O37)
  have O54 := (OS.step0 O37 s47)
  have hS55 := (Sub.trans (Sub.trans (Sub.trans hS18 (Step.up s24)) (Step.up s36)) (Step.up s47))
  have hXo56 := (Old.step (Old.step (Old.step hXo19 s24) s36) s47)
  refine sq (o_call 71 #[(.slice (some ⟨b33, 0, none⟩) ([(ByteArray.mk #[97]), (ByteArray.mk #[98])]).length 2), (.slice (some ⟨b44, 0, none⟩) ([(ByteArray.mk #[97]), (ByteArray.mk #[99])]).length 2)] rfl (x_call Try.call71 (by rw [← show 2 = ([(ByteArray.mk #[97]), (ByteArray.mk #[98])]).length from O54.1, ← show 2 = ([(ByteArray.mk #[97]), (ByteArray.mk #[99])]).length from O48.1]; kernel_rfl)) (diff_Matches_w (X := X) (a := [(ByteArray.mk #[97]), (ByteArray.mk #[98])]) (b := [(ByteArray.mk #[97]), (ByteArray.mk #[99])]) (Old.less hXo56 hS55) (OS.out O54 hS55 hX0) (OS.out O48 hS55 hX0) hp) ?_)
  rintro _ w59 ⟨r57, r58, hp, e60, ar62, cr63, vr65, rfl, hr64, hr66⟩
  have s61 := Step.of0 X46 e60
  replace hp := hp (Sl.len hr64)
  refine sq (o_pv (.tuple #[(.slice ar62 r57.length cr63), vr65]) rfl (by kernel_rfl) ?_)
  refine sq (o_pv (.slice ar62 r57.length cr63) rfl (by kernel_rfl) ?_)
  refine sq (o_pv vr65 rfl (by kernel_rfl) ?_)
  refine sq (o_pv (.slice ar62 r57.length cr63) rfl (by kernel_rfl) ?_)
  refine sq (o_pv vr65 rfl (by kernel_rfl) ?_)
  refine nil_ ?_
  refine then_normal (K30 _ _ _ _ ?_)
  refine seq_ (fun _ K67 => ?_)
  refine reg_ ?_
  have O68 := (OS.step0 (OS.step0 O42 s47) s61)
  have O69 := (OS.step0 (OS.step0 O43 s47) s61)
  have O70 := (OS.step0 O54 s61)
  have O71 := (OS.step0 O48 s61)
  have E78 := (Evo.then0 (Evo.then0 E50 (Step.evo s47)) e60)
  refine sq (o_rowX (R := rStr) [(.string (ByteArray.mk #[97])), (.string (ByteArray.mk #[98]))] [(ByteArray.mk #[97]), (ByteArray.mk #[98])] 9 2 (X := X46) (B := w.heap.size) E78.size rfl (by kernel_rfl) (Flat.cons (cs := [(.string (ByteArray.mk #[97]))]) (rStr_mk (by decide)) (Flat.cons (cs := [(.string (ByteArray.mk #[98]))]) (rStr_mk (by decide)) Flat.nil)) rfl (by decide) ?_)
  intro b72 w73 X74 s75 O76 n77
  have p79 := n77 _ (OS.old O68)
  have p80 := n77 _ (OS.old O69)
  have p81 := n77 _ (OS.old O70)
  have p82 := n77 _ (OS.old O71)
  have O83 := (OS.step0 O68 s75)
  have O84 := (OS.step0 O69 s75)
  have O85 := (OS.step0 O70 s75)
  have O86 := (OS.step0 O71 s75)
  have E93 := (Evo.then0 E78 (Step.evo s75))
  refine sq (o_rowX (R := rStr) [(.string (ByteArray.mk #[97])), (.string (ByteArray.mk #[99]))] [(ByteArray.mk #[97]), (ByteArray.mk #[99])] 9 2 (X := X74) (B := w.heap.size) E93.size rfl (by kernel_rfl) (Flat.cons (cs := [(.string (ByteArray.mk #[97]))]) (rStr_mk (by decide)) (Flat.cons (cs := [(.string (ByteArray.mk #[99]))]) (rStr_mk (by decide)) Flat.nil)) rfl (by decide) ?_)
  intro b87 w88 X89 s90 O91 n92
  have p94 := n92 _ (OS.old O83)
  have p95 := n92 _ (OS.old O84)
  have p96 := n92 _ (OS.old O85)
  have p97 := n92 _ (OS.old O86)
  have p98 := n92 _ (OS.old O76)
  have O99 := (OS.step0 O76 s90)
  have hS100 := (Sub.trans (Sub.trans (Sub.trans hS55 (Step.up s61)) (Step.up s75)) (Step.up s90))
  have hXo101 := (Old.step (Old.step (Old.step hXo56 s61) s75) s90)
  refine sq (o_call 30 #[(.slice (some ⟨b72, 0, none⟩) ([(ByteArray.mk #[97]), (ByteArray.mk #[98])]).length 2), (.slice (some ⟨b87, 0, none⟩) ([(ByteArray.mk #[97]), (ByteArray.mk #[99])]).length 2)] rfl (x_call Try.call30 (by rw [← show 2 = ([(ByteArray.mk #[97]), (ByteArray.mk #[98])]).length from O99.1, ← show 2 = ([(ByteArray.mk #[97]), (ByteArray.mk #[99])]).length from O91.1]; kernel_rfl)) (diff_Common_w (X := X) (a := [(ByteArray.mk #[97]), (ByteArray.mk #[98])]) (b := [(ByteArray.mk #[97]), (ByteArray.mk #[99])]) (Old.less hXo101 hS100) (OS.out O99 hS100 hX0) (OS.out O91 hS100 hX0) hp) ?_)
  rintro _ w104 ⟨r102, r103, hp, e105, vr108, rfl, rr107, hr109⟩
  have s106 := Step.of0 X89 e105
  replace hp := hp rr107
  refine sq (o_pv (.tuple #[(.int .i64 r102), vr108]) rfl (by kernel_rfl) ?_)
  refine sq (o_pv (.int .i64 r102) rfl (by kernel_rfl) ?_)
  refine sq (o_pv vr108 rfl (by kernel_rfl) ?_)
  refine sq (o_pv (.int .i64 r102) rfl (by kernel_rfl) ?_)
  refine sq (o_pv vr108 rfl (by kernel_rfl) ?_)
  refine nil_ ?_
  refine then_normal (K67 _ _ _ _ ?_)
  refine seq_ (fun _ K110 => ?_)
  have hXo193 := (Old.step hXo101 s106)
  have E194 := (Evo.then0 (Evo.then0 E93 (Step.evo s90)) e105)
  have hS195 := (Sub.trans hS100 (Step.up s106))
  have O196 := (OS.step0 (OS.step0 O83 s90) s106)
  have O197 := (OS.step0 (OS.step0 O84 s90) s106)
  have hr198 := (Sl.evo0 (Sl.evo0 (Sl.evo0 (Sl.evo0 (Sl.evo0 (Sl.evo0 hr27 (Step.evo s36)) (Step.evo s47)) e60) (Step.evo s75)) (Step.evo s90)) e105)
  have hr199 := ((rErr 57 129 131).evo ((rErr 57 129 131).evo ((rErr 57 129 131).evo ((rErr 57 129 131).evo ((rErr 57 129 131).evo ((rErr 57 129 131).evo hr29 (Step.evo s36) (Sub.nil _)) (Step.evo s47) (Sub.nil _)) e60 (Sub.nil _)) (Step.evo s75) (Sub.nil _)) (Step.evo s90) (Sub.nil _)) e105 (Sub.nil _))
  have O200 := (OS.step0 (OS.step0 O85 s90) s106)
  have O201 := (OS.step0 (OS.step0 O86 s90) s106)
  have hr202 := (Sl.evo0 (Sl.evo0 (Sl.evo0 hr64 (Step.evo s75)) (Step.evo s90)) e105)
  have hr203 := ((rErr 57 129 131).evo ((rErr 57 129 131).evo ((rErr 57 129 131).evo hr66 (Step.evo s75) (Sub.nil _)) (Step.evo s90) (Sub.nil _)) e105 (Sub.nil _))
  have O204 := (OS.step0 O99 s106)
  have O205 := (OS.step0 O91 s106)
  obtain ⟨k186, hk187, hp⟩ := hp
  refine ground_ ?_
  refine join_ 618970019642690137416007681 (fun lq w188 => ∃ (X189 : List Nat) (s185 : Bool), (lq = [(0, (.bool s185))]) ∧ (Evo [] w w188) ∧ (Old X189 w188) ∧ (Sub X X189) ∧ (k186 s185)) (fun Kj190 hJ191 => ?_) ?_
  ·
    refine reg_ ?_
    refine sq (o_pv vr28 rfl (by kernel_rfl) ?_)
    by_cases h209 : r21.isNil = true
    ·
      replace hp := hp.1 h209
      refine sq (o_pv (.bool true) rfl (x_bt (x_err_eq r21 hr199 Try.underlying40 (by kernel_rfl)) h209) ?_)
      refine sq (o_pv (.bool true) rfl (by kernel_rfl) ?_)
      refine sq (o_pv vr65 (by kernel_rfl) (by kernel_rfl) ?_)
      by_cases h210 : r58.isNil = true
      ·
        replace hp := hp.1 h210
        refine sq (o_pv (.bool true) (by kernel_rfl) (x_bt (x_err_eq r58 hr203 Try.underlying40 (by kernel_rfl)) h210) ?_)
        refine sq (o_pv (.bool true) rfl (by kernel_rfl) ?_)
        refine sq (o_pv (.bool true) rfl (by kernel_rfl) ?_)
        refine sq (o_pv vr108 (by kernel_rfl) (by kernel_rfl) ?_)
        by_cases h211 : r103.isNil = true
        ·
          replace hp := hp.1 h211
          refine sq (o_pv (.bool true) (by kernel_rfl) (x_bt (x_err_eq r103 hr109 Try.underlying40 (by kernel_rfl)) h211) ?_)
          refine sq (o_pv (.bool true) rfl (by kernel_rfl) ?_)
          refine sq (o_pv (.bool true) rfl (by kernel_rfl) ?_)
          refine sq (o_pv (.slice ar25 r20.length cr26) (by kernel_rfl) (by kernel_rfl) ?_)
          refine sq (o_pv (.int .i64 (r20.length : Int)) (by kernel_rfl) (by kernel_rfl) ?_)
          by_cases h212 : (r20.length : Int) = (3 : Int)
          ·
            replace hp := hp.1 h212
            refine sq (o_pv (.bool true) (by kernel_rfl) (x_dt (p := (r20.length : Int) = (3 : Int)) (by kernel_rfl) h212) ?_)
            refine sq (o_pv (.bool true) rfl (by kernel_rfl) ?_)
            refine sq (o_pv (.bool true) rfl (by kernel_rfl) ?_)
            refine sq (o_pv (.slice ar25 r20.length cr26) (by kernel_rfl) (by kernel_rfl) ?_)
            obtain ⟨h213, hp⟩ := hp
            obtain ⟨b214, o215, cs216, ha217, nx218, lt219, ok220, hc221⟩ := Sl.atI hr198 (0 : Int) h213
            obtain ⟨rfl, reOp222, zeLine223⟩ := r_diff_Edit_open ok220
            replace hp := hp reOp222
            replace hp := hp zeLine223
            refine sq (o_pv (.pointer (some ⟨b214, o215 + (0 : Int).toNat * 2, none⟩)) (by kernel_rfl) (x_ixA (m := r20.length) (c := cr26) (k := .i64) (i := (0 : Int)) Try.underlying45 Try.sizeOf49 (by rw [← ha217]; kernel_rfl) (by kernel_rfl) h213) ?_)
            refine sq (o_pv (.pointer (some ⟨b214, o215 + (0 : Int).toNat * 2, none⟩)) (by kernel_rfl) (by kernel_rfl) ?_)
            refine sq (o_pv (.int .i64 ((lget r20 (0 : Int)).Op)) (by kernel_rfl) (x_load1 (by kernel_rfl) Try.isAgg3 (hc221 0 _ rfl)) ?_)
            by_cases h224 : ((lget r20 (0 : Int)).Op) = (1 : Int)
            ·
              replace hp := hp.1 h224
              refine sq (o_pv (.bool true) (by kernel_rfl) (x_dt (p := ((lget r20 (0 : Int)).Op) = (1 : Int)) (by kernel_rfl) h224) ?_)
              refine sq (o_pv (.bool true) rfl (by kernel_rfl) ?_)
              refine sq (o_pv (.bool true) rfl (by kernel_rfl) ?_)
              refine sq (o_pv (.slice ar25 r20.length cr26) (by kernel_rfl) (by kernel_rfl) ?_)
              obtain ⟨h225, hp⟩ := hp
              obtain ⟨b226, o227, cs228, ha229, nx230, lt231, ok232, hc233⟩ := Sl.atI hr198 (1 : Int) h225
              obtain ⟨rfl, reOp234, zeLine235⟩ := r_diff_Edit_open ok232
              replace hp := hp reOp234
              replace hp := hp zeLine235
              refine sq (o_pv (.pointer (some ⟨b226, o227 + (1 : Int).toNat * 2, none⟩)) (by kernel_rfl) (x_ixA (m := r20.length) (c := cr26) (k := .i64) (i := (1 : Int)) Try.underlying45 Try.sizeOf49 (by rw [← ha229]; kernel_rfl) (by kernel_rfl) h225) ?_)
              refine sq (o_pv (.pointer (some ⟨b226, o227 + (1 : Int).toNat * 2, none⟩)) (by kernel_rfl) (by kernel_rfl) ?_)
              refine sq (o_pv (.int .i64 ((lget r20 (1 : Int)).Op)) (by kernel_rfl) (x_load1 (by kernel_rfl) Try.isAgg3 (hc233 0 _ rfl)) ?_)
              by_cases h236 : ((lget r20 (1 : Int)).Op) = (2 : Int)
              ·
                replace hp := hp.1 h236
                refine sq (o_pv (.bool true) (by kernel_rfl) (x_dt (p := ((lget r20 (1 : Int)).Op) = (2 : Int)) (by kernel_rfl) h236) ?_)
                refine sq (o_pv (.bool true) rfl (by kernel_rfl) ?_)
                refine sq (o_pv (.bool true) rfl (by kernel_rfl) ?_)
                refine sq (o_pv (.slice ar25 r20.length cr26) (by kernel_rfl) (by kernel_rfl) ?_)
                obtain ⟨h237, hp⟩ := hp
                obtain ⟨b238, o239, cs240, ha241, nx242, lt243, ok244, hc245⟩ := Sl.atI hr198 (2 : Int) h237
                obtain ⟨rfl, reOp246, zeLine247⟩ := r_diff_Edit_open ok244
                replace hp := hp reOp246
                replace hp := hp zeLine247
                refine sq (o_pv (.pointer (some ⟨b238, o239 + (2 : Int).toNat * 2, none⟩)) (by kernel_rfl) (x_ixA (m := r20.length) (c := cr26) (k := .i64) (i := (2 : Int)) Try.underlying45 Try.sizeOf49 (by rw [← ha241]; kernel_rfl) (by kernel_rfl) h237) ?_)
                refine sq (o_pv (.pointer (some ⟨b238, o239 + (2 : Int).toNat * 2, none⟩)) (by kernel_rfl) (by kernel_rfl) ?_)
                refine sq (o_pv (.int .i64 ((lget r20 (2 : Int)).Op)) (by kernel_rfl) (x_load1 (by kernel_rfl) Try.isAgg3 (hc245 0 _ rfl)) ?_)
                by_cases h248 : ((lget r20 (2 : Int)).Op) = (3 : Int)
                ·
                  replace hp := hp.1 h248
                  refine sq (o_pv (.bool true) (by kernel_rfl) (x_dt (p := ((lget r20 (2 : Int)).Op) = (3 : Int)) (by kernel_rfl) h248) ?_)
                  refine sq (o_pv (.bool true) rfl (by kernel_rfl) ?_)
                  refine sq (o_pv (.bool true) rfl (by kernel_rfl) ?_)
                  refine sq (o_pv (.slice ar25 r20.length cr26) (by kernel_rfl) (by kernel_rfl) ?_)
                  obtain ⟨h249, hp⟩ := hp
                  obtain ⟨b250, o251, cs252, ha253, nx254, lt255, ok256, hc257⟩ := Sl.atI hr198 (2 : Int) h249
                  obtain ⟨rfl, reOp258, zeLine259⟩ := r_diff_Edit_open ok256
                  replace hp := hp reOp258
                  replace hp := hp zeLine259
                  refine sq (o_pv (.pointer (some ⟨b250, o251 + (2 : Int).toNat * 2, none⟩)) (by kernel_rfl) (x_ixA (m := r20.length) (c := cr26) (k := .i64) (i := (2 : Int)) Try.underlying45 Try.sizeOf49 (by rw [← ha253]; kernel_rfl) (by kernel_rfl) h249) ?_)
                  refine sq (o_pv (.pointer (some ⟨b250, o251 + (2 : Int).toNat * 2 + 1, none⟩)) (by kernel_rfl) (by kernel_rfl) ?_)
                  refine sq (o_pv (.string ((lget r20 (2 : Int)).Line)) (by kernel_rfl) (x_load1 (by kernel_rfl) Try.isAgg9 (hc257 1 _ rfl)) ?_)
                  by_cases h260 : ((lget r20 (2 : Int)).Line : ByteArray) = (ByteArray.mk #[99])
                  ·
                    replace hp := hp.1 h260
                    refine sq (o_pv (.bool true) (by kernel_rfl) (x_dt (p := ((lget r20 (2 : Int)).Line : ByteArray) = (ByteArray.mk #[99])) (x_streq (by kernel_rfl) (by kernel_rfl)) h260) ?_)
                    refine sq (o_pv (.bool true) rfl (by kernel_rfl) ?_)
                    refine sq (o_pv (.bool true) rfl (by kernel_rfl) ?_)
                    refine sq (o_pv (.slice ar62 r57.length cr63) (by kernel_rfl) (by kernel_rfl) ?_)
                    refine sq (o_pv (.int .i64 (r57.length : Int)) (by kernel_rfl) (by kernel_rfl) ?_)
                    by_cases h261 : (r57.length : Int) = (1 : Int)
                    ·
                      replace hp := hp.1 h261
                      refine sq (o_pv (.bool true) (by kernel_rfl) (x_dt (p := (r57.length : Int) = (1 : Int)) (by kernel_rfl) h261) ?_)
                      refine sq (o_pv (.bool true) rfl (by kernel_rfl) ?_)
                      refine sq (o_pv (.bool true) rfl (by kernel_rfl) ?_)
                      refine sq (o_pv (.slice ar62 r57.length cr63) (by kernel_rfl) (by kernel_rfl) ?_)
                      obtain ⟨h262, hp⟩ := hp
                      obtain ⟨b263, o264, cs265, ha266, nx267, lt268, ok269, hc270⟩ := Sl.atI hr202 (0 : Int) h262
                      obtain ⟨rfl, reA271, reB272, reN273⟩ := r_diff_Match_open ok269
                      replace hp := hp reA271
                      replace hp := hp reB272
                      replace hp := hp reN273
                      refine sq (o_pv (.pointer (some ⟨b263, o264 + (0 : Int).toNat * 3, none⟩)) (by kernel_rfl) (x_ixA (m := r57.length) (c := cr63) (k := .i64) (i := (0 : Int)) Try.underlying100 Try.sizeOf104 (by rw [← ha266]; kernel_rfl) (by kernel_rfl) h262) ?_)
                      refine sq (o_pv (.pointer (some ⟨b263, o264 + (0 : Int).toNat * 3 + 2, none⟩)) (by kernel_rfl) (by kernel_rfl) ?_)
                      refine sq (o_pv (.int .i64 ((lget r57 (0 : Int)).N)) (by kernel_rfl) (x_load1 (by kernel_rfl) Try.isAgg3 (hc270 2 _ rfl)) ?_)
                      by_cases h274 : ((lget r57 (0 : Int)).N) = (1 : Int)
                      ·
                        replace hp := hp.1 h274
                        refine sq (o_pv (.bool true) (by kernel_rfl) (x_dt (p := ((lget r57 (0 : Int)).N) = (1 : Int)) (by kernel_rfl) h274) ?_)
                        refine sq (o_pv (.bool true) rfl (by kernel_rfl) ?_)
                        refine sq (o_pv (.bool true) rfl (by kernel_rfl) ?_)
                        refine sq (o_pv (.int .i64 r102) (by kernel_rfl) (by kernel_rfl) ?_)
                        by_cases h275 : r102 = (1 : Int)
                        ·
                          replace hp := hp.1 h275
                          refine sq (o_pv (.bool true) (by kernel_rfl) (x_dt (p := r102 = (1 : Int)) (by kernel_rfl) h275) ?_)
                          refine sq (o_pv (.bool true) rfl (by kernel_rfl) ?_)
                          refine sq (o_pv (.bool true) rfl (by kernel_rfl) ?_)
                          refine sq (o_pv (.slice ar25 r20.length cr26) (by kernel_rfl) (by kernel_rfl) ?_)
                          refine sq (o_call 31 #[(.slice ar25 r20.length cr26)] (by kernel_rfl) (x_call Try.call31 (by kernel_rfl)) (diff_Cost_w (X := []) (l := r20) (Old.nil _) (Sl.less hr198 (Sub.nil _)) hp) ?_)
                          rintro _ w277 ⟨r276, hp, e278, rfl, rr280⟩
                          have s279 := Step.of0 X89 e278
                          replace hp := hp rr280
                          refine sq (o_pv (.bool (decide (r276 = (2 : Int)))) (by kernel_rfl) (by kernel_rfl) ?_)
                          refine sq (o_pv (.bool (decide (r276 = (2 : Int)))) rfl (by kernel_rfl) ?_)
                          refine sq (o_pv (.bool (decide (r276 = (2 : Int)))) rfl (by kernel_rfl) ?_)
                          refine nil_ ?_
                          have E281 := (Evo.then0 E194 e278)
                          have hXo282 := (Old.step hXo193 s279)
                          have hS283 := (Sub.trans hS195 (Step.up s279))
                          refine then_normal (hJ191 _ _ _ ⟨[(0, (.bool (decide (r276 = (2 : Int)))))], fit_mk (fun _ _ => rfl) (by kernel_rfl) (vs_cons (by kernel_rfl) vs_nil), ?_⟩)
                          exact ⟨X89, (decide (r276 = (2 : Int))), rfl, E281, hXo282, hS283, hp⟩
                        ·
                          replace hp := hp.2 h275
                          refine sq (o_pv (.bool false) (by kernel_rfl) (x_df (p := r102 = (1 : Int)) (by kernel_rfl) h275) ?_)
                          refine sq (o_pv (.bool false) rfl (by kernel_rfl) ?_)
                          refine sq (o_pv (.bool false) rfl (by kernel_rfl) ?_)
                          refine sq (o_not (by kernel_rfl) ?_)
                          refine sq (o_not (by kernel_rfl) ?_)
                          refine sq (o_not (by kernel_rfl) ?_)
                          refine sq (o_pv (.bool false) rfl (by kernel_rfl) ?_)
                          refine sq (o_pv (.bool false) rfl (by kernel_rfl) ?_)
                          refine nil_ ?_
                          refine then_normal (hJ191 _ _ _ ⟨[(0, (.bool false))], fit_mk (fun _ _ => rfl) (by kernel_rfl) (vs_cons (by kernel_rfl) vs_nil), ?_⟩)
                          exact ⟨X89, false, rfl, E194, hXo193, hS195, hp⟩
                      ·
                        replace hp := hp.2 h274
                        refine sq (o_pv (.bool false) (by kernel_rfl) (x_df (p := ((lget r57 (0 : Int)).N) = (1 : Int)) (by kernel_rfl) h274) ?_)
                        refine sq (o_pv (.bool false) rfl (by kernel_rfl) ?_)
                        refine sq (o_pv (.bool false) rfl (by kernel_rfl) ?_)
                        refine sq (o_not (by kernel_rfl) ?_)
                        refine sq (o_not (by kernel_rfl) ?_)
                        refine sq (o_pv (.bool false) rfl (by kernel_rfl) ?_)
                        refine sq (o_pv (.bool false) rfl (by kernel_rfl) ?_)
                        refine sq (o_not (by kernel_rfl) ?_)
                        refine sq (o_not (by kernel_rfl) ?_)
                        refine sq (o_not (by kernel_rfl) ?_)
                        refine sq (o_pv (.bool false) rfl (by kernel_rfl) ?_)
                        refine sq (o_pv (.bool false) rfl (by kernel_rfl) ?_)
                        refine nil_ ?_
                        refine then_normal (hJ191 _ _ _ ⟨[(0, (.bool false))], fit_mk (fun _ _ => rfl) (by kernel_rfl) (vs_cons (by kernel_rfl) vs_nil), ?_⟩)
                        exact ⟨X89, false, rfl, E194, hXo193, hS195, hp⟩
                    ·
                      replace hp := hp.2 h261
                      refine sq (o_pv (.bool false) (by kernel_rfl) (x_df (p := (r57.length : Int) = (1 : Int)) (by kernel_rfl) h261) ?_)
                      refine sq (o_pv (.bool false) rfl (by kernel_rfl) ?_)
                      refine sq (o_pv (.bool false) rfl (by kernel_rfl) ?_)
                      refine sq (o_not (by kernel_rfl) ?_)
                      refine sq (o_not (by kernel_rfl) ?_)
                      refine sq (o_not (by kernel_rfl) ?_)
                      refine sq (o_not (by kernel_rfl) ?_)
                      refine sq (o_not (by kernel_rfl) ?_)
                      refine sq (o_pv (.bool false) rfl (by kernel_rfl) ?_)
                      refine sq (o_pv (.bool false) rfl (by kernel_rfl) ?_)
                      refine sq (o_not (by kernel_rfl) ?_)
                      refine sq (o_not (by kernel_rfl) ?_)
                      refine sq (o_pv (.bool false) rfl (by kernel_rfl) ?_)
                      refine sq (o_pv (.bool false) rfl (by kernel_rfl) ?_)
                      refine sq (o_not (by kernel_rfl) ?_)
                      refine sq (o_not (by kernel_rfl) ?_)
                      refine sq (o_not (by kernel_rfl) ?_)
                      refine sq (o_pv (.bool false) rfl (by kernel_rfl) ?_)
                      refine sq (o_pv (.bool false) rfl (by kernel_rfl) ?_)
                      refine nil_ ?_
                      refine then_normal (hJ191 _ _ _ ⟨[(0, (.bool false))], fit_mk (fun _ _ => rfl) (by kernel_rfl) (vs_cons (by kernel_rfl) vs_nil), ?_⟩)
                      exact ⟨X89, false, rfl, E194, hXo193, hS195, hp⟩
                  ·
                    replace hp := hp.2 h260
                    refine sq (o_pv (.bool false) (by kernel_rfl) (x_df (p := ((lget r20 (2 : Int)).Line : ByteArray) = (ByteArray.mk #[99])) (x_streq (by kernel_rfl) (by kernel_rfl)) h260) ?_)
                    refine sq (o_pv (.bool false) rfl (by kernel_rfl) ?_)
                    refine sq (o_pv (.bool false) rfl (by kernel_rfl) ?_)
                    refine sq (o_not (by kernel_rfl) ?_)
                    refine sq (o_not (by kernel_rfl) ?_)
                    refine sq (o_not (by kernel_rfl) ?_)
                    refine sq (o_pv (.bool false) rfl (by kernel_rfl) ?_)
                    refine sq (o_pv (.bool false) rfl (by kernel_rfl) ?_)
                    refine sq (o_not (by kernel_rfl) ?_)
                    refine sq (o_not (by kernel_rfl) ?_)
                    refine sq (o_not (by kernel_rfl) ?_)
                    refine sq (o_not (by kernel_rfl) ?_)
                    refine sq (o_not (by kernel_rfl) ?_)
                    refine sq (o_pv (.bool false) rfl (by kernel_rfl) ?_)
                    refine sq (o_pv (.bool false) rfl (by kernel_rfl) ?_)
                    refine sq (o_not (by kernel_rfl) ?_)
                    refine sq (o_not (by kernel_rfl) ?_)
                    refine sq (o_pv (.bool false) rfl (by kernel_rfl) ?_)
                    refine sq (o_pv (.bool false) rfl (by kernel_rfl) ?_)
                    refine sq (o_not (by kernel_rfl) ?_)
                    refine sq (o_not (by kernel_rfl) ?_)
                    refine sq (o_not (by kernel_rfl) ?_)
                    refine sq (o_pv (.bool false) rfl (by kernel_rfl) ?_)
                    refine sq (o_pv (.bool false) rfl (by kernel_rfl) ?_)
                    refine nil_ ?_
                    refine then_normal (hJ191 _ _ _ ⟨[(0, (.bool false))], fit_mk (fun _ _ => rfl) (by kernel_rfl) (vs_cons (by kernel_rfl) vs_nil), ?_⟩)
                    exact ⟨X89, false, rfl, E194, hXo193, hS195, hp⟩
                ·
                  replace hp := hp.2 h248
                  refine sq (o_pv (.bool false) (by kernel_rfl) (x_df (p := ((lget r20 (2 : Int)).Op) = (3 : Int)) (by kernel_rfl) h248) ?_)
                  refine sq (o_pv (.bool false) rfl (by kernel_rfl) ?_)
                  refine sq (o_pv (.bool false) rfl (by kernel_rfl) ?_)
                  refine sq (o_not (by kernel_rfl) ?_)
                  refine sq (o_not (by kernel_rfl) ?_)
                  refine sq (o_not (by kernel_rfl) ?_)
                  refine sq (o_not (by kernel_rfl) ?_)
                  refine sq (o_not (by kernel_rfl) ?_)
                  refine sq (o_pv (.bool false) rfl (by kernel_rfl) ?_)
                  refine sq (o_pv (.bool false) rfl (by kernel_rfl) ?_)
                  refine sq (o_not (by kernel_rfl) ?_)
                  refine sq (o_not (by kernel_rfl) ?_)
                  refine sq (o_not (by kernel_rfl) ?_)
                  refine sq (o_pv (.bool false) rfl (by kernel_rfl) ?_)
                  refine sq (o_pv (.bool false) rfl (by kernel_rfl) ?_)
                  refine sq (o_not (by kernel_rfl) ?_)
                  refine sq (o_not (by kernel_rfl) ?_)
                  refine sq (o_not (by kernel_rfl) ?_)
                  refine sq (o_not (by kernel_rfl) ?_)
                  refine sq (o_not (by kernel_rfl) ?_)
                  refine sq (o_pv (.bool false) rfl (by kernel_rfl) ?_)
                  refine sq (o_pv (.bool false) rfl (by kernel_rfl) ?_)
                  refine sq (o_not (by kernel_rfl) ?_)
                  refine sq (o_not (by kernel_rfl) ?_)
                  refine sq (o_pv (.bool false) rfl (by kernel_rfl) ?_)
                  refine sq (o_pv (.bool false) rfl (by kernel_rfl) ?_)
                  refine sq (o_not (by kernel_rfl) ?_)
                  refine sq (o_not (by kernel_rfl) ?_)
                  refine sq (o_not (by kernel_rfl) ?_)
                  refine sq (o_pv (.bool false) rfl (by kernel_rfl) ?_)
                  refine sq (o_pv (.bool false) rfl (by kernel_rfl) ?_)
                  refine nil_ ?_
                  refine then_normal (hJ191 _ _ _ ⟨[(0, (.bool false))], fit_mk (fun _ _ => rfl) (by kernel_rfl) (vs_cons (by kernel_rfl) vs_nil), ?_⟩)
                  exact ⟨X89, false, rfl, E194, hXo193, hS195, hp⟩
              ·
                replace hp := hp.2 h236
                refine sq (o_pv (.bool false) (by kernel_rfl) (x_df (p := ((lget r20 (1 : Int)).Op) = (2 : Int)) (by kernel_rfl) h236) ?_)
                refine sq (o_pv (.bool false) rfl (by kernel_rfl) ?_)
                refine sq (o_pv (.bool false) rfl (by kernel_rfl) ?_)
                refine sq (o_not (by kernel_rfl) ?_)
                refine sq (o_not (by kernel_rfl) ?_)
                refine sq (o_not (by kernel_rfl) ?_)
                refine sq (o_not (by kernel_rfl) ?_)
                refine sq (o_not (by kernel_rfl) ?_)
                refine sq (o_pv (.bool false) rfl (by kernel_rfl) ?_)
                refine sq (o_pv (.bool false) rfl (by kernel_rfl) ?_)
                refine sq (o_not (by kernel_rfl) ?_)
                refine sq (o_not (by kernel_rfl) ?_)
                refine sq (o_not (by kernel_rfl) ?_)
                refine sq (o_not (by kernel_rfl) ?_)
                refine sq (o_not (by kernel_rfl) ?_)
                refine sq (o_pv (.bool false) rfl (by kernel_rfl) ?_)
                refine sq (o_pv (.bool false) rfl (by kernel_rfl) ?_)
                refine sq (o_not (by kernel_rfl) ?_)
                refine sq (o_not (by kernel_rfl) ?_)
                refine sq (o_not (by kernel_rfl) ?_)
                refine sq (o_pv (.bool false) rfl (by kernel_rfl) ?_)
                refine sq (o_pv (.bool false) rfl (by kernel_rfl) ?_)
                refine sq (o_not (by kernel_rfl) ?_)
                refine sq (o_not (by kernel_rfl) ?_)
                refine sq (o_not (by kernel_rfl) ?_)
                refine sq (o_not (by kernel_rfl) ?_)
                refine sq (o_not (by kernel_rfl) ?_)
                refine sq (o_pv (.bool false) rfl (by kernel_rfl) ?_)
                refine sq (o_pv (.bool false) rfl (by kernel_rfl) ?_)
                refine sq (o_not (by kernel_rfl) ?_)
                refine sq (o_not (by kernel_rfl) ?_)
                refine sq (o_pv (.bool false) rfl (by kernel_rfl) ?_)
                refine sq (o_pv (.bool false) rfl (by kernel_rfl) ?_)
                refine sq (o_not (by kernel_rfl) ?_)
                refine sq (o_not (by kernel_rfl) ?_)
                refine sq (o_not (by kernel_rfl) ?_)
                refine sq (o_pv (.bool false) rfl (by kernel_rfl) ?_)
                refine sq (o_pv (.bool false) rfl (by kernel_rfl) ?_)
                refine nil_ ?_
                refine then_normal (hJ191 _ _ _ ⟨[(0, (.bool false))], fit_mk (fun _ _ => rfl) (by kernel_rfl) (vs_cons (by kernel_rfl) vs_nil), ?_⟩)
                exact ⟨X89, false, rfl, E194, hXo193, hS195, hp⟩
            ·
              replace hp := hp.2 h224
              refine sq (o_pv (.bool false) (by kernel_rfl) (x_df (p := ((lget r20 (0 : Int)).Op) = (1 : Int)) (by kernel_rfl) h224) ?_)
              refine sq (o_pv (.bool false) rfl (by kernel_rfl) ?_)
              refine sq (o_pv (.bool false) rfl (by kernel_rfl) ?_)
              refine sq (o_not (by kernel_rfl) ?_)
              refine sq (o_not (by kernel_rfl) ?_)
              refine sq (o_not (by kernel_rfl) ?_)
              refine sq (o_not (by kernel_rfl) ?_)
              refine sq (o_not (by kernel_rfl) ?_)
              refine sq (o_pv (.bool false) rfl (by kernel_rfl) ?_)
              refine sq (o_pv (.bool false) rfl (by kernel_rfl) ?_)
              refine sq (o_not (by kernel_rfl) ?_)
              refine sq (o_not (by kernel_rfl) ?_)
              refine sq (o_not (by kernel_rfl) ?_)
              refine sq (o_not (by kernel_rfl) ?_)
              refine sq (o_not (by kernel_rfl) ?_)
              refine sq (o_pv (.bool false) rfl (by kernel_rfl) ?_)
              refine sq (o_pv (.bool false) rfl (by kernel_rfl) ?_)
              refine sq (o_not (by kernel_rfl) ?_)
              refine sq (o_not (by kernel_rfl) ?_)
              refine sq (o_not (by kernel_rfl) ?_)
              refine sq (o_not (by kernel_rfl) ?_)
              refine sq (o_not (by kernel_rfl) ?_)
              refine sq (o_pv (.bool false) rfl (by kernel_rfl) ?_)
              refine sq (o_pv (.bool false) rfl (by kernel_rfl) ?_)
              refine sq (o_not (by kernel_rfl) ?_)
              refine sq (o_not (by kernel_rfl) ?_)
              refine sq (o_not (by kernel_rfl) ?_)
              refine sq (o_pv (.bool false) rfl (by kernel_rfl) ?_)
              refine sq (o_pv (.bool false) rfl (by kernel_rfl) ?_)
              refine sq (o_not (by kernel_rfl) ?_)
              refine sq (o_not (by kernel_rfl) ?_)
              refine sq (o_not (by kernel_rfl) ?_)
              refine sq (o_not (by kernel_rfl) ?_)
              refine sq (o_not (by kernel_rfl) ?_)
              refine sq (o_pv (.bool false) rfl (by kernel_rfl) ?_)
              refine sq (o_pv (.bool false) rfl (by kernel_rfl) ?_)
              refine sq (o_not (by kernel_rfl) ?_)
              refine sq (o_not (by kernel_rfl) ?_)
              refine sq (o_pv (.bool false) rfl (by kernel_rfl) ?_)
              refine sq (o_pv (.bool false) rfl (by kernel_rfl) ?_)
              refine sq (o_not (by kernel_rfl) ?_)
              refine sq (o_not (by kernel_rfl) ?_)
              refine sq (o_not (by kernel_rfl) ?_)
              refine sq (o_pv (.bool false) rfl (by kernel_rfl) ?_)
              refine sq (o_pv (.bool false) rfl (by kernel_rfl) ?_)
              refine nil_ ?_
              refine then_normal (hJ191 _ _ _ ⟨[(0, (.bool false))], fit_mk (fun _ _ => rfl) (by kernel_rfl) (vs_cons (by kernel_rfl) vs_nil), ?_⟩)
              exact ⟨X89, false, rfl, E194, hXo193, hS195, hp⟩
          ·
            replace hp := hp.2 h212
            refine sq (o_pv (.bool false) (by kernel_rfl) (x_df (p := (r20.length : Int) = (3 : Int)) (by kernel_rfl) h212) ?_)
            refine sq (o_pv (.bool false) rfl (by kernel_rfl) ?_)
            refine sq (o_pv (.bool false) rfl (by kernel_rfl) ?_)
            refine sq (o_not (by kernel_rfl) ?_)
            refine sq (o_not (by kernel_rfl) ?_)
            refine sq (o_not (by kernel_rfl) ?_)
            refine sq (o_not (by kernel_rfl) ?_)
            refine sq (o_not (by kernel_rfl) ?_)
            refine sq (o_pv (.bool false) rfl (by kernel_rfl) ?_)
            refine sq (o_pv (.bool false) rfl (by kernel_rfl) ?_)
            refine sq (o_not (by kernel_rfl) ?_)
            refine sq (o_not (by kernel_rfl) ?_)
            refine sq (o_not (by kernel_rfl) ?_)
            refine sq (o_not (by kernel_rfl) ?_)
            refine sq (o_not (by kernel_rfl) ?_)
            refine sq (o_pv (.bool false) rfl (by kernel_rfl) ?_)
            refine sq (o_pv (.bool false) rfl (by kernel_rfl) ?_)
            refine sq (o_not (by kernel_rfl) ?_)
            refine sq (o_not (by kernel_rfl) ?_)
            refine sq (o_not (by kernel_rfl) ?_)
            refine sq (o_not (by kernel_rfl) ?_)
            refine sq (o_not (by kernel_rfl) ?_)
            refine sq (o_pv (.bool false) rfl (by kernel_rfl) ?_)
            refine sq (o_pv (.bool false) rfl (by kernel_rfl) ?_)
            refine sq (o_not (by kernel_rfl) ?_)
            refine sq (o_not (by kernel_rfl) ?_)
            refine sq (o_not (by kernel_rfl) ?_)
            refine sq (o_not (by kernel_rfl) ?_)
            refine sq (o_not (by kernel_rfl) ?_)
            refine sq (o_pv (.bool false) rfl (by kernel_rfl) ?_)
            refine sq (o_pv (.bool false) rfl (by kernel_rfl) ?_)
            refine sq (o_not (by kernel_rfl) ?_)
            refine sq (o_not (by kernel_rfl) ?_)
            refine sq (o_not (by kernel_rfl) ?_)
            refine sq (o_pv (.bool false) rfl (by kernel_rfl) ?_)
            refine sq (o_pv (.bool false) rfl (by kernel_rfl) ?_)
            refine sq (o_not (by kernel_rfl) ?_)
            refine sq (o_not (by kernel_rfl) ?_)
            refine sq (o_not (by kernel_rfl) ?_)
            refine sq (o_not (by kernel_rfl) ?_)
            refine sq (o_not (by kernel_rfl) ?_)
            refine sq (o_pv (.bool false) rfl (by kernel_rfl) ?_)
            refine sq (o_pv (.bool false) rfl (by kernel_rfl) ?_)
            refine sq (o_not (by kernel_rfl) ?_)
            refine sq (o_not (by kernel_rfl) ?_)
            refine sq (o_pv (.bool false) rfl (by kernel_rfl) ?_)
            refine sq (o_pv (.bool false) rfl (by kernel_rfl) ?_)
            refine sq (o_not (by kernel_rfl) ?_)
            refine sq (o_not (by kernel_rfl) ?_)
            refine sq (o_not (by kernel_rfl) ?_)
            refine sq (o_pv (.bool false) rfl (by kernel_rfl) ?_)
            refine sq (o_pv (.bool false) rfl (by kernel_rfl) ?_)
            refine nil_ ?_
            refine then_normal (hJ191 _ _ _ ⟨[(0, (.bool false))], fit_mk (fun _ _ => rfl) (by kernel_rfl) (vs_cons (by kernel_rfl) vs_nil), ?_⟩)
            exact ⟨X89, false, rfl, E194, hXo193, hS195, hp⟩
        ·
          replace hp := hp.2 h211
          refine sq (o_pv (.bool false) (by kernel_rfl) (x_bf (x_err_eq r103 hr109 Try.underlying40 (by kernel_rfl)) h211) ?_)
          refine sq (o_pv (.bool false) rfl (by kernel_rfl) ?_)
          refine sq (o_pv (.bool false) rfl (by kernel_rfl) ?_)
          refine sq (o_not (by kernel_rfl) ?_)
          refine sq (o_not (by kernel_rfl) ?_)
          refine sq (o_not (by kernel_rfl) ?_)
          refine sq (o_pv (.bool false) rfl (by kernel_rfl) ?_)
          refine sq (o_pv (.bool false) rfl (by kernel_rfl) ?_)
          refine sq (o_not (by kernel_rfl) ?_)
          refine sq (o_not (by kernel_rfl) ?_)
          refine sq (o_not (by kernel_rfl) ?_)
          refine sq (o_not (by kernel_rfl) ?_)
          refine sq (o_not (by kernel_rfl) ?_)
          refine sq (o_pv (.bool false) rfl (by kernel_rfl) ?_)
          refine sq (o_pv (.bool false) rfl (by kernel_rfl) ?_)
          refine sq (o_not (by kernel_rfl) ?_)
          refine sq (o_not (by kernel_rfl) ?_)
          refine sq (o_not (by kernel_rfl) ?_)
          refine sq (o_not (by kernel_rfl) ?_)
          refine sq (o_not (by kernel_rfl) ?_)
          refine sq (o_pv (.bool false) rfl (by kernel_rfl) ?_)
          refine sq (o_pv (.bool false) rfl (by kernel_rfl) ?_)
          refine sq (o_not (by kernel_rfl) ?_)
          refine sq (o_not (by kernel_rfl) ?_)
          refine sq (o_not (by kernel_rfl) ?_)
          refine sq (o_not (by kernel_rfl) ?_)
          refine sq (o_not (by kernel_rfl) ?_)
          refine sq (o_pv (.bool false) rfl (by kernel_rfl) ?_)
          refine sq (o_pv (.bool false) rfl (by kernel_rfl) ?_)
          refine sq (o_not (by kernel_rfl) ?_)
          refine sq (o_not (by kernel_rfl) ?_)
          refine sq (o_not (by kernel_rfl) ?_)
          refine sq (o_not (by kernel_rfl) ?_)
          refine sq (o_not (by kernel_rfl) ?_)
          refine sq (o_pv (.bool false) rfl (by kernel_rfl) ?_)
          refine sq (o_pv (.bool false) rfl (by kernel_rfl) ?_)
          refine sq (o_not (by kernel_rfl) ?_)
          refine sq (o_not (by kernel_rfl) ?_)
          refine sq (o_not (by kernel_rfl) ?_)
          refine sq (o_pv (.bool false) rfl (by kernel_rfl) ?_)
          refine sq (o_pv (.bool false) rfl (by kernel_rfl) ?_)
          refine sq (o_not (by kernel_rfl) ?_)
          refine sq (o_not (by kernel_rfl) ?_)
          refine sq (o_not (by kernel_rfl) ?_)
          refine sq (o_not (by kernel_rfl) ?_)
          refine sq (o_not (by kernel_rfl) ?_)
          refine sq (o_pv (.bool false) rfl (by kernel_rfl) ?_)
          refine sq (o_pv (.bool false) rfl (by kernel_rfl) ?_)
          refine sq (o_not (by kernel_rfl) ?_)
          refine sq (o_not (by kernel_rfl) ?_)
          refine sq (o_pv (.bool false) rfl (by kernel_rfl) ?_)
          refine sq (o_pv (.bool false) rfl (by kernel_rfl) ?_)
          refine sq (o_not (by kernel_rfl) ?_)
          refine sq (o_not (by kernel_rfl) ?_)
          refine sq (o_not (by kernel_rfl) ?_)
          refine sq (o_pv (.bool false) rfl (by kernel_rfl) ?_)
          refine sq (o_pv (.bool false) rfl (by kernel_rfl) ?_)
          refine nil_ ?_
          refine then_normal (hJ191 _ _ _ ⟨[(0, (.bool false))], fit_mk (fun _ _ => rfl) (by kernel_rfl) (vs_cons (by kernel_rfl) vs_nil), ?_⟩)
          exact ⟨X89, false, rfl, E194, hXo193, hS195, hp⟩
      ·
        replace hp := hp.2 h210
        refine sq (o_pv (.bool false) (by kernel_rfl) (x_bf (x_err_eq r58 hr203 Try.underlying40 (by kernel_rfl)) h210) ?_)
        refine sq (o_pv (.bool false) rfl (by kernel_rfl) ?_)
        refine sq (o_pv (.bool false) rfl (by kernel_rfl) ?_)
        refine sq (o_not (by kernel_rfl) ?_)
        refine sq (o_not (by kernel_rfl) ?_)
        refine sq (o_pv (.bool false) rfl (by kernel_rfl) ?_)
        refine sq (o_pv (.bool false) rfl (by kernel_rfl) ?_)
        refine sq (o_not (by kernel_rfl) ?_)
        refine sq (o_not (by kernel_rfl) ?_)
        refine sq (o_not (by kernel_rfl) ?_)
        refine sq (o_pv (.bool false) rfl (by kernel_rfl) ?_)
        refine sq (o_pv (.bool false) rfl (by kernel_rfl) ?_)
        refine sq (o_not (by kernel_rfl) ?_)
        refine sq (o_not (by kernel_rfl) ?_)
        refine sq (o_not (by kernel_rfl) ?_)
        refine sq (o_not (by kernel_rfl) ?_)
        refine sq (o_not (by kernel_rfl) ?_)
        refine sq (o_pv (.bool false) rfl (by kernel_rfl) ?_)
        refine sq (o_pv (.bool false) rfl (by kernel_rfl) ?_)
        refine sq (o_not (by kernel_rfl) ?_)
        refine sq (o_not (by kernel_rfl) ?_)
        refine sq (o_not (by kernel_rfl) ?_)
        refine sq (o_not (by kernel_rfl) ?_)
        refine sq (o_not (by kernel_rfl) ?_)
        refine sq (o_pv (.bool false) rfl (by kernel_rfl) ?_)
        refine sq (o_pv (.bool false) rfl (by kernel_rfl) ?_)
        refine sq (o_not (by kernel_rfl) ?_)
        refine sq (o_not (by kernel_rfl) ?_)
        refine sq (o_not (by kernel_rfl) ?_)
        refine sq (o_not (by kernel_rfl) ?_)
        refine sq (o_not (by kernel_rfl) ?_)
        refine sq (o_pv (.bool false) rfl (by kernel_rfl) ?_)
        refine sq (o_pv (.bool false) rfl (by kernel_rfl) ?_)
        refine sq (o_not (by kernel_rfl) ?_)
        refine sq (o_not (by kernel_rfl) ?_)
        refine sq (o_not (by kernel_rfl) ?_)
        refine sq (o_not (by kernel_rfl) ?_)
        refine sq (o_not (by kernel_rfl) ?_)
        refine sq (o_pv (.bool false) rfl (by kernel_rfl) ?_)
        refine sq (o_pv (.bool false) rfl (by kernel_rfl) ?_)
        refine sq (o_not (by kernel_rfl) ?_)
        refine sq (o_not (by kernel_rfl) ?_)
        refine sq (o_not (by kernel_rfl) ?_)
        refine sq (o_pv (.bool false) rfl (by kernel_rfl) ?_)
        refine sq (o_pv (.bool false) rfl (by kernel_rfl) ?_)
        refine sq (o_not (by kernel_rfl) ?_)
        refine sq (o_not (by kernel_rfl) ?_)
        refine sq (o_not (by kernel_rfl) ?_)
        refine sq (o_not (by kernel_rfl) ?_)
        refine sq (o_not (by kernel_rfl) ?_)
        refine sq (o_pv (.bool false) rfl (by kernel_rfl) ?_)
        refine sq (o_pv (.bool false) rfl (by kernel_rfl) ?_)
        refine sq (o_not (by kernel_rfl) ?_)
        refine sq (o_not (by kernel_rfl) ?_)
        refine sq (o_pv (.bool false) rfl (by kernel_rfl) ?_)
        refine sq (o_pv (.bool false) rfl (by kernel_rfl) ?_)
        refine sq (o_not (by kernel_rfl) ?_)
        refine sq (o_not (by kernel_rfl) ?_)
        refine sq (o_not (by kernel_rfl) ?_)
        refine sq (o_pv (.bool false) rfl (by kernel_rfl) ?_)
        refine sq (o_pv (.bool false) rfl (by kernel_rfl) ?_)
        refine nil_ ?_
        refine then_normal (hJ191 _ _ _ ⟨[(0, (.bool false))], fit_mk (fun _ _ => rfl) (by kernel_rfl) (vs_cons (by kernel_rfl) vs_nil), ?_⟩)
        exact ⟨X89, false, rfl, E194, hXo193, hS195, hp⟩
    ·
      replace hp := hp.2 h209
      refine sq (o_pv (.bool false) rfl (x_bf (x_err_eq r21 hr199 Try.underlying40 (by kernel_rfl)) h209) ?_)
      refine sq (o_pv (.bool false) rfl (by kernel_rfl) ?_)
      refine sq (o_not (by kernel_rfl) ?_)
      refine sq (o_not (by kernel_rfl) ?_)
      refine sq (o_pv (.bool false) rfl (by kernel_rfl) ?_)
      refine sq (o_pv (.bool false) rfl (by kernel_rfl) ?_)
      refine sq (o_not (by kernel_rfl) ?_)
      refine sq (o_not (by kernel_rfl) ?_)
      refine sq (o_pv (.bool false) rfl (by kernel_rfl) ?_)
      refine sq (o_pv (.bool false) rfl (by kernel_rfl) ?_)
      refine sq (o_not (by kernel_rfl) ?_)
      refine sq (o_not (by kernel_rfl) ?_)
      refine sq (o_not (by kernel_rfl) ?_)
      refine sq (o_pv (.bool false) rfl (by kernel_rfl) ?_)
      refine sq (o_pv (.bool false) rfl (by kernel_rfl) ?_)
      refine sq (o_not (by kernel_rfl) ?_)
      refine sq (o_not (by kernel_rfl) ?_)
      refine sq (o_not (by kernel_rfl) ?_)
      refine sq (o_not (by kernel_rfl) ?_)
      refine sq (o_not (by kernel_rfl) ?_)
      refine sq (o_pv (.bool false) rfl (by kernel_rfl) ?_)
      refine sq (o_pv (.bool false) rfl (by kernel_rfl) ?_)
      refine sq (o_not (by kernel_rfl) ?_)
      refine sq (o_not (by kernel_rfl) ?_)
      refine sq (o_not (by kernel_rfl) ?_)
      refine sq (o_not (by kernel_rfl) ?_)
      refine sq (o_not (by kernel_rfl) ?_)
      refine sq (o_pv (.bool false) rfl (by kernel_rfl) ?_)
      refine sq (o_pv (.bool false) rfl (by kernel_rfl) ?_)
      refine sq (o_not (by kernel_rfl) ?_)
      refine sq (o_not (by kernel_rfl) ?_)
      refine sq (o_not (by kernel_rfl) ?_)
      refine sq (o_not (by kernel_rfl) ?_)
      refine sq (o_not (by kernel_rfl) ?_)
      refine sq (o_pv (.bool false) rfl (by kernel_rfl) ?_)
      refine sq (o_pv (.bool false) rfl (by kernel_rfl) ?_)
      refine sq (o_not (by kernel_rfl) ?_)
      refine sq (o_not (by kernel_rfl) ?_)
      refine sq (o_not (by kernel_rfl) ?_)
      refine sq (o_not (by kernel_rfl) ?_)
      refine sq (o_not (by kernel_rfl) ?_)
      refine sq (o_pv (.bool false) rfl (by kernel_rfl) ?_)
      refine sq (o_pv (.bool false) rfl (by kernel_rfl) ?_)
      refine sq (o_not (by kernel_rfl) ?_)
      refine sq (o_not (by kernel_rfl) ?_)
      refine sq (o_not (by kernel_rfl) ?_)
      refine sq (o_pv (.bool false) rfl (by kernel_rfl) ?_)
      refine sq (o_pv (.bool false) rfl (by kernel_rfl) ?_)
      refine sq (o_not (by kernel_rfl) ?_)
      refine sq (o_not (by kernel_rfl) ?_)
      refine sq (o_not (by kernel_rfl) ?_)
      refine sq (o_not (by kernel_rfl) ?_)
      refine sq (o_not (by kernel_rfl) ?_)
      refine sq (o_pv (.bool false) rfl (by kernel_rfl) ?_)
      refine sq (o_pv (.bool false) rfl (by kernel_rfl) ?_)
      refine sq (o_not (by kernel_rfl) ?_)
      refine sq (o_not (by kernel_rfl) ?_)
      refine sq (o_pv (.bool false) rfl (by kernel_rfl) ?_)
      refine sq (o_pv (.bool false) rfl (by kernel_rfl) ?_)
      refine sq (o_not (by kernel_rfl) ?_)
      refine sq (o_not (by kernel_rfl) ?_)
      refine sq (o_not (by kernel_rfl) ?_)
      refine sq (o_pv (.bool false) rfl (by kernel_rfl) ?_)
      refine sq (o_pv (.bool false) rfl (by kernel_rfl) ?_)
      refine nil_ ?_
      refine then_normal (hJ191 _ _ _ ⟨[(0, (.bool false))], fit_mk (fun _ _ => rfl) (by kernel_rfl) (vs_cons (by kernel_rfl) vs_nil), ?_⟩)
      exact ⟨X89, false, rfl, E194, hXo193, hS195, hp⟩
  ·
    rintro _ w188 g284 ⟨X189, s185, rfl, E206, hXo207, hS208, hv192⟩
    replace hp := hk187 s185 hv192
    refine then_normal (K110 _ _ _ _ ?_)
    refine wp_ret ?_
    refine end_ret hQ (.bool s185) (by kernel_rfl) ?_
    exact ⟨s185, hp, E206, rfl⟩

def rectolaw11_DiffDone_p (a : (List ByteArray)) (b : (List ByteArray)) (Q : Bool → Prop) : Prop :=
  ((a.length ≤ 9223372036854775807) → ((b.length ≤ 9223372036854775807) → (rectolaw11_known_p  (fun (r10 : Bool) => ((((!r10) = true) → Q false) ∧ (((!r10) = false) → (rectolaw11_Few_p a b (fun (r21 : Bool) => ((((!r21) = true) → Q true) ∧ (((!r21) = false) → (diff_Lines_p a b (fun (r32 : (List S_diff_Edit)) (r33 : PErr) => ((r32.length ≤ 9223372036854775807) → ((((!r33.isNil) = true) → Q (decide (((a.length : Int) > (256 : Int)) ∨ ((b.length : Int) > (256 : Int))))) ∧ (((!r33.isNil) = false) → (∃ (I746 : (List ByteArray) → (List ByteArray) → Int → Prop) (m747 : (List ByteArray) → (List ByteArray) → Int → Nat), (I746 ([] : List ByteArray) ([] : List ByteArray) (0 : Int)) ∧ ∀ (x381 : (List ByteArray)) (y386 : (List ByteArray)) (i391 : Int), (I746 x381 y386 i391) → (x381.length ≤ 9223372036854775807) → (y386.length ≤ 9223372036854775807) → (inR .i64 i391) → (((i391 < (r32.length : Int)) → (∃ k934 : (List ByteArray) → (List ByteArray) → Prop, (∀ (x924 : (List ByteArray)) (y929 : (List ByteArray)), k934 x924 y929 → (x924.length ≤ 9223372036854775807) → (y929.length ≤ 9223372036854775807) → ((inR .i64 (i391 + (1 : Int))) ∧ ((I746 x924 y929 (i391 + (1 : Int))) ∧ m747 x924 y929 (i391 + (1 : Int)) < m747 x381 y386 i391))) ∧ ((inL r32 i391) ∧ ((inR .i64 ((lget r32 i391).Op)) → ((((lget r32 i391).Line).size ≤ maxLen) → (∃ k999 : (List ByteArray) → Prop, (∀ (x994 : (List ByteArray)), k999 x994 → (x994.length ≤ 9223372036854775807) → ((inL r32 i391) ∧ ((inR .i64 ((lget r32 i391).Op)) → ((((lget r32 i391).Line).size ≤ maxLen) → (((¬ (((lget r32 i391).Op) = (2 : Int))) → ((inL r32 i391) ∧ ((inR .i64 ((lget r32 i391).Op)) → ((((lget r32 i391).Line).size ≤ maxLen) → (((y386.length + ([(lget r32 i391).Line]).length) * 16 ≤ 140737488355328) ∧ (k934 x994 (y386 ++ ([(lget r32 i391).Line])))))))) ∧ ((((lget r32 i391).Op) = (2 : Int)) → (k934 x994 y386))))))) ∧ (((¬ (((lget r32 i391).Op) = (3 : Int))) → ((inL r32 i391) ∧ ((inR .i64 ((lget r32 i391).Op)) → ((((lget r32 i391).Line).size ≤ maxLen) → (((x381.length + ([(lget r32 i391).Line]).length) * 16 ≤ 140737488355328) ∧ (k999 (x381 ++ ([(lget r32 i391).Line])))))))) ∧ ((((lget r32 i391).Op) = (3 : Int)) → (k999 x381))))))))) ∧ ((¬ (i391 < (r32.length : Int))) → (∃ k1121 : Bool → Prop, (∀ (s1120 : Bool), k1121 s1120 → Q s1120) ∧ (rectoref11_Equal_p x381 a (fun (r1131 : Bool) => (((r1131 = true) → (rectoref11_Equal_p y386 b (fun (r1140 : Bool) => (k1121 r1140)))) ∧ ((r1131 = false) → (k1121 false))))))))))))))))))))))))
set_option maxRecDepth 20000 in
set_option maxHeartbeats 4000000 in
theorem rectolaw11_DiffDone_w {X : List Nat} {w : World} {a : (List ByteArray)} {b : (List ByteArray)} {aa1 : Option Addr} {ca2 : Nat} {ab4 : Option Addr} {cb5 : Nat} {Q : Bool → Prop} (hX0 : Old X w) (ha3 : Sl rStr X w aa1 ca2 a) (hb6 : Sl rStr X w ab4 cb5 b) (hp : rectolaw11_DiffDone_p a b Q) :
    Calls Try.prog 4 #[(.slice aa1 a.length ca2), (.slice ab4 b.length cb5)] w (Ret fun v w' => ∃ (r0 : Bool), Q r0 ∧ Evo [] w w' ∧ v = (.bool r0)) := by
  have hXo := hX0
  have E0 : Evo [] w w := RB.refl _ _ _
  have hS : Sub X X := Sub.refl _
  unfold rectolaw11_DiffDone_p at hp
  refine enter_ Try.func4 rfl 74 [(0, (.slice aa1 a.length ca2)), (1, (.slice ab4 b.length cb5))] (by kernel_rfl) (fun Qe hQ => ?_)
  replace hp := hp (Sl.len ha3)
  replace hp := hp (Sl.len hb6)
  refine seq_ (fun _ K7 => ?_)
  refine reg_ ?_
  refine sq (o_pv (.bool false) rfl (by kernel_rfl) ?_)
  refine nil_ ?_
  refine then_normal (K7 _ _ _ _ ?_)
  refine seq_ (fun _ K8 => ?_)
  refine seq_ (fun _ K9 => ?_)
  refine reg_ ?_
  refine sq (o_call 26 #[] rfl (x_call Try.call26 (by kernel_rfl)) (rectolaw11_known_w (X := [])  (Old.nil _) hp) ?_)
  rintro _ w11 ⟨r10, hp, e12, rfl⟩
  have s13 := Step.of0 X e12
  refine sq (o_pv (.bool (!r10)) rfl (by kernel_rfl) ?_)
  refine nil_ ?_
  refine then_normal (K9 _ _ _ _ ?_)
  refine cond_b (!r10) (by kernel_rfl) (fun h14 => ?_) (fun h14 => ?_)
  ·
    replace hp := hp.1 h14
    refine seq_ (fun _ K15 => ?_)
    refine reg_ ?_
    refine sq (o_pv (.bool false) rfl (by kernel_rfl) ?_)
    refine nil_ ?_
    refine then_normal (K15 _ _ _ _ ?_)
    refine wp_ret ?_
    refine then_ret ?_
    have E16 := (Evo.then0 E0 e12)
    refine end_ret hQ (.bool false) (by kernel_rfl) ?_
    exact ⟨false, hp, E16, rfl⟩
  ·
    replace hp := hp.2 h14
    refine wp_skip ?_
    refine then_normal (K8 _ _ _ _ ?_)
    refine seq_ (fun _ K17 => ?_)
    refine seq_ (fun _ K18 => ?_)
    refine reg_ ?_
    refine sq (o_pv (.slice aa1 a.length ca2) rfl (by kernel_rfl) ?_)
    refine sq (o_pv (.slice ab4 b.length cb5) rfl (by kernel_rfl) ?_)
    have ha19 := (Sl.step ha3 s13)
    have hb20 := (Sl.step hb6 s13)
    refine sq (o_call 27 #[(.slice aa1 a.length ca2), (.slice ab4 b.length cb5)] rfl (x_call Try.call27 (by kernel_rfl)) (rectolaw11_Few_w (X := []) (a := a) (b := b) (Old.nil _) (Sl.less ha19 (Sub.nil _)) (Sl.less hb20 (Sub.nil _)) hp) ?_)
    rintro _ w22 ⟨r21, hp, e23, rfl⟩
    have s24 := Step.of0 X e23
    refine sq (o_pv (.bool (!r21)) rfl (by kernel_rfl) ?_)
    refine nil_ ?_
    refine then_normal (K18 _ _ _ _ ?_)
    refine cond_b (!r21) (by kernel_rfl) (fun h25 => ?_) (fun h25 => ?_)
    ·
      replace hp := hp.1 h25
      refine seq_ (fun _ K26 => ?_)
      refine reg_ ?_
      refine sq (o_pv (.bool true) rfl (by kernel_rfl) ?_)
      refine nil_ ?_
      refine then_normal (K26 _ _ _ _ ?_)
      refine wp_ret ?_
      refine then_ret ?_
      have E27 := (Evo.then0 (Evo.then0 E0 e12) e23)
      refine end_ret hQ (.bool true) (by kernel_rfl) ?_
      exact ⟨true, hp, E27, rfl⟩
    ·
      replace hp := hp.2 h25
      refine wp_skip ?_
      refine then_normal (K17 _ _ _ _ ?_)
      refine seq_ (fun _ K28 => ?_)
      refine reg_ ?_
      refine sq (o_pv (.slice aa1 a.length ca2) rfl (by kernel_rfl) ?_)
      refine sq (o_pv (.slice ab4 b.length cb5) rfl (by kernel_rfl) ?_)
      have ha29 := (Sl.step ha19 s24)
      have hb30 := (Sl.step hb20 s24)
      have hXo31 := (Old.step (Old.step hXo s13) s24)
      refine sq (o_call 28 #[(.slice aa1 a.length ca2), (.slice ab4 b.length cb5)] rfl (x_call Try.call28 (by kernel_rfl)) (diff_Lines_w (X := X) (a := a) (b := b) hXo31 ha29 hb30 hp) ?_)
      rintro _ w34 ⟨r32, r33, hp, e35, ar37, cr38, vr40, rfl, hr39, hr41⟩
      have s36 := Step.of0 X e35
      replace hp := hp (Sl.len hr39)
      refine sq (o_pv (.tuple #[(.slice ar37 r32.length cr38), vr40]) rfl (by kernel_rfl) ?_)
      refine sq (o_pv (.slice ar37 r32.length cr38) rfl (by kernel_rfl) ?_)
      refine sq (o_pv vr40 rfl (by kernel_rfl) ?_)
      refine sq (o_pv (.slice ar37 r32.length cr38) rfl (by kernel_rfl) ?_)
      refine sq (o_pv vr40 rfl (by kernel_rfl) ?_)
      refine nil_ ?_
      refine then_normal (K28 _ _ _ _ ?_)
      refine seq_ (fun _ K42 => ?_)
      refine seq_ (fun _ K43 => ?_)
      refine reg_ ?_
      refine sq (o_pv vr40 rfl (by kernel_rfl) ?_)
      refine sq (o_pv (.bool (!r33.isNil)) rfl (x_err_ne r33 hr41 Try.underlying40 (by kernel_rfl)) ?_)
      refine nil_ ?_
      refine then_normal (K43 _ _ _ _ ?_)
      refine cond_b (!r33.isNil) (by kernel_rfl) (fun h44 => ?_) (fun h44 => ?_)
      ·
        replace hp := hp.1 h44
        refine seq_ (fun _ K45 => ?_)
        refine ground_ ?_
        refine join_ 4278190096 (fun lq w49 => lq = [(4, (.bool (decide (((a.length : Int) > (256 : Int)) ∨ ((b.length : Int) > (256 : Int))))))] ∧ w34 = w49) (fun Kj47 hJ48 => ?_) ?_
        ·
          refine reg_ ?_
          refine sq (o_pv (.slice aa1 a.length ca2) rfl (by kernel_rfl) ?_)
          refine sq (o_pv (.int .i64 (a.length : Int)) rfl (by kernel_rfl) ?_)
          by_cases h51 : (a.length : Int) > (256 : Int)
          ·
            refine sq (o_pv (.bool true) rfl (x_dt (p := (a.length : Int) > (256 : Int)) (by kernel_rfl) h51) ?_)
            refine sq (o_pv (.bool true) rfl (by kernel_rfl) ?_)
            refine sq (o_not (by kernel_rfl) ?_)
            refine sq (o_not (by kernel_rfl) ?_)
            refine sq (o_not (by kernel_rfl) ?_)
            refine sq (o_pv (.bool true) rfl (by kernel_rfl) ?_)
            refine sq (o_pv (.bool true) rfl (by kernel_rfl) ?_)
            refine nil_ ?_
            refine then_normal (hJ48 _ _ _ ⟨[(4, (.bool (decide (((a.length : Int) > (256 : Int)) ∨ ((b.length : Int) > (256 : Int))))))], fit_mk (fun _ _ => rfl) (by kernel_rfl) (vs_cons (Eq.trans (b := (.bool true)) (by kernel_rfl) (dec_t (iff_true_intro (Or.inl h51))).symm) vs_nil), rfl, rfl⟩)
          ·
            refine sq (o_pv (.bool false) rfl (x_df (p := (a.length : Int) > (256 : Int)) (by kernel_rfl) h51) ?_)
            refine sq (o_pv (.bool false) rfl (by kernel_rfl) ?_)
            refine sq (o_pv (.slice ab4 b.length cb5) (by kernel_rfl) (by kernel_rfl) ?_)
            refine sq (o_pv (.int .i64 (b.length : Int)) (by kernel_rfl) (by kernel_rfl) ?_)
            refine sq (o_pv (.bool (decide ((b.length : Int) > (256 : Int)))) (by kernel_rfl) (by kernel_rfl) ?_)
            refine sq (o_pv (.bool (decide ((b.length : Int) > (256 : Int)))) rfl (by kernel_rfl) ?_)
            refine sq (o_pv (.bool (decide ((b.length : Int) > (256 : Int)))) rfl (by kernel_rfl) ?_)
            refine nil_ ?_
            refine then_normal (hJ48 _ _ _ ⟨[(4, (.bool (decide (((a.length : Int) > (256 : Int)) ∨ ((b.length : Int) > (256 : Int))))))], fit_mk (fun _ _ => rfl) (by kernel_rfl) (vs_cons (Eq.trans (b := (.bool (decide ((b.length : Int) > (256 : Int))))) (by kernel_rfl) (dec_d ((or_iff_right h51).trans Iff.rfl)).symm) vs_nil), rfl, rfl⟩)
        ·
          rintro _ w49 g50 ⟨rfl, hw⟩
          subst hw
          refine then_normal (K45 _ _ _ _ ?_)
          refine wp_ret ?_
          refine then_ret ?_
          have E52 := (Evo.then0 (Evo.then0 (Evo.then0 E0 e12) e23) e35)
          refine end_ret hQ (.bool (decide (((a.length : Int) > (256 : Int)) ∨ ((b.length : Int) > (256 : Int))))) (by kernel_rfl) ?_
          exact ⟨(decide (((a.length : Int) > (256 : Int)) ∨ ((b.length : Int) > (256 : Int)))), hp, E52, rfl⟩
      ·
        replace hp := hp.2 h44
        refine wp_skip ?_
        refine then_normal (K42 _ _ _ _ ?_)
        refine seq_ (fun _ K53 => ?_)
        refine reg_ ?_
        refine sq (o_pv (.slice none 0 0) rfl (by kernel_rfl) ?_)
        refine sq (o_pv (.slice none 0 0) rfl (by kernel_rfl) ?_)
        refine nil_ ?_
        refine then_normal (K53 _ _ _ _ ?_)
        refine seq_ (fun _ K54 => ?_)
        refine seq_ (fun _ K55 => ?_)
        refine reg_ ?_
        refine sq (o_pv (.int .i64 (0 : Int)) rfl (by kernel_rfl) ?_)
        refine nil_ ?_
        refine then_normal (K55 _ _ _ _ ?_)
        refine wp_block ?_
        have ha756 := (Sl.step ha29 s36)
        have hb757 := (Sl.step hb30 s36)
        have hXo758 := (Old.step hXo31 s36)
        have E759 := (Evo.then0 (Evo.then0 (Evo.then0 E0 e12) e23) e35)
        have hS760 := (Sub.trans (Sub.trans (Sub.trans hS (Step.up s13)) (Step.up s24)) (Step.up s36))
        obtain ⟨I746, m747, hI748, hp⟩ := hp
        refine loop_ 73786976290543240064 (fun kq lq w750 => ∃ (X751 : List Nat) (x381 : (List ByteArray)) (y386 : (List ByteArray)) (i391 : Int) (a382 : Option Addr) (n383 : Nat) (c384 : Nat) (a387 : Option Addr) (n388 : Nat) (c389 : Nat), (lq = [(7, (.slice a382 n383 c384)), (8, (.slice a387 n388 c389)), (9, (.int .i64 i391))]) ∧ (kq = m747 x381 y386 i391) ∧ (Evo [] w w750) ∧ (Old X751 w750) ∧ (Sub X X751) ∧ (Sl rStr X751 w750 aa1 ca2 a) ∧ (Sl rStr X751 w750 ab4 cb5 b) ∧ (Sl r_diff_Edit X751 w750 ar37 cr38 r32) ∧ (OS rStr ([]) w.heap.size X751 w750 9 a382 n383 c384 x381) ∧ (OS rStr ([]) w.heap.size X751 w750 9 a387 n388 c389 y386) ∧ (Ap (blkL a382) (blkL a387)) ∧ (inR .i64 i391) ∧ (I746 x381 y386 i391)) (m747 ([] : List ByteArray) ([] : List ByteArray) (0 : Int)) [(7, (.slice none 0 0)), (8, (.slice none 0 0)), (9, (.int .i64 (0 : Int)))] (vs_cons (by kernel_rfl) (vs_cons (by kernel_rfl) (vs_cons (by kernel_rfl) vs_nil))) ⟨X, ([] : List ByteArray), ([] : List ByteArray), (0 : Int), none, 0, 0, none, 0, 0, rfl, rfl, E759, hXo758, hS760, ha756, hb757, hr39, (OS.nil _ _ _ _), (OS.nil _ _ _ _), (Ap.nil_l _), (by decide), hI748⟩ ?_
        rintro _ _ w750 g753 ⟨X751, x381, y386, i391, a382, n383, c384, a387, n388, c389, rfl, rfl, E761, hXo762, hS763, ha764, hb765, hr766, O385, O390, p767, ri392, hI749⟩ Kl754 hA755
        replace hp := hp x381 y386 i391 hI749 (OS.len O385) (OS.len O390) ri392
        refine seq_ (fun _ K768 => ?_)
        refine seq_ (fun _ K769 => ?_)
        refine reg_ ?_
        refine sq (o_pv (.int .i64 i391) rfl (by kernel_rfl) ?_)
        refine sq (o_pv (.slice ar37 r32.length cr38) rfl (by kernel_rfl) ?_)
        refine sq (o_pv (.int .i64 (r32.length : Int)) rfl (by kernel_rfl) ?_)
        refine sq (o_pv (.bool (decide (i391 < (r32.length : Int)))) rfl (by kernel_rfl) ?_)
        refine nil_ ?_
        refine then_normal (K769 _ _ _ _ ?_)
        refine cond_d (i391 < (r32.length : Int)) (by kernel_rfl) (fun h770 => ?_) (fun h770 => ?_)
        ·
          replace hp := hp.1 h770
          refine wp_skip ?_
          refine then_normal (K768 _ _ _ _ ?_)
          refine seq_ (fun _ K771 => ?_)
          obtain ⟨k934, hk935, hp⟩ := hp
          refine ground_ ?_
          refine join_ 73786976019960299904 (fun lq w936 => ∃ (X937 : List Nat) (x924 : (List ByteArray)) (y929 : (List ByteArray)) (a925 : Option Addr) (n926 : Nat) (c927 : Nat) (a930 : Option Addr) (n931 : Nat) (c932 : Nat), (lq = [(7, (.slice a925 n926 c927)), (8, (.slice a930 n931 c932))]) ∧ (Evo [] w w936) ∧ (Old X937 w936) ∧ (Sub X X937) ∧ (Sl rStr X937 w936 aa1 ca2 a) ∧ (Sl rStr X937 w936 ab4 cb5 b) ∧ (Sl r_diff_Edit X937 w936 ar37 cr38 r32) ∧ (OS rStr ([]) w.heap.size X937 w936 9 a925 n926 c927 x924) ∧ (OS rStr ([]) w.heap.size X937 w936 9 a930 n931 c932 y929) ∧ (Ap (blkL a925) (blkL a930)) ∧ (k934 x924 y929)) (fun Kj938 hJ939 => ?_) ?_
          ·
            refine wp_block ?_
            refine seq_ (fun _ K948 => ?_)
            refine seq_ (fun _ K949 => ?_)
            refine reg_ ?_
            refine sq (o_pv (.slice ar37 r32.length cr38) rfl (by kernel_rfl) ?_)
            refine sq (o_pv (.int .i64 i391) rfl (by kernel_rfl) ?_)
            obtain ⟨h950, hp⟩ := hp
            obtain ⟨b951, o952, cs953, ha954, nx955, lt956, ok957, hc958⟩ := Sl.atI hr766 i391 h950
            obtain ⟨rfl, reOp959, zeLine960⟩ := r_diff_Edit_open ok957
            replace hp := hp reOp959
            replace hp := hp zeLine960
            refine sq (o_pv (.pointer (some ⟨b951, o952 + i391.toNat * 2, none⟩)) rfl (x_ixA (m := r32.length) (c := cr38) (k := .i64) (i := i391) Try.underlying45 Try.sizeOf49 (by rw [← ha954]; kernel_rfl) (by kernel_rfl) h950) ?_)
            refine sq (o_pv (.pointer (some ⟨b951, o952 + i391.toNat * 2, none⟩)) rfl (by kernel_rfl) ?_)
            refine sq (o_pv (.int .i64 ((lget r32 i391).Op)) rfl (x_load1 (by kernel_rfl) Try.isAgg3 (hc958 0 _ rfl)) ?_)
            refine sq (o_pv (.bool (!decide (((lget r32 i391).Op) = (3 : Int)))) rfl (by kernel_rfl) ?_)
            refine nil_ ?_
            refine then_normal (K949 _ _ _ _ ?_)
            obtain ⟨k999, hk1000, hp⟩ := hp
            refine ground_ ?_
            refine join_ 4486007441326208 (fun lq w1001 => ∃ (X1002 : List Nat) (x994 : (List ByteArray)) (a995 : Option Addr) (n996 : Nat) (c997 : Nat), (lq = [(7, (.slice a995 n996 c997))]) ∧ (Evo [] w w1001) ∧ (Old X1002 w1001) ∧ (Sub X X1002) ∧ (Sl rStr X1002 w1001 aa1 ca2 a) ∧ (Sl rStr X1002 w1001 ab4 cb5 b) ∧ (Sl r_diff_Edit X1002 w1001 ar37 cr38 r32) ∧ (OS rStr ([]) w.heap.size X1002 w1001 9 a387 n388 c389 y386) ∧ (OS rStr ([]) w.heap.size X1002 w1001 9 a995 n996 c997 x994) ∧ (Ap (blkL a387) (blkL a995)) ∧ (k999 x994)) (fun Kj1003 hJ1004 => ?_) ?_
            ·
              refine cond_nd (((lget r32 i391).Op) = (3 : Int)) (by kernel_rfl) (fun h1014 => ?_) (fun h1014 => ?_)
              ·
                replace hp := hp.1 h1014
                refine reg_ ?_
                refine sq (o_pv (.slice a382 n383 c384) rfl (by kernel_rfl) ?_)
                refine sq (o_pv (.slice ar37 r32.length cr38) rfl (by kernel_rfl) ?_)
                refine sq (o_pv (.int .i64 i391) rfl (by kernel_rfl) ?_)
                obtain ⟨h1015, hp⟩ := hp
                obtain ⟨b1016, o1017, cs1018, ha1019, nx1020, lt1021, ok1022, hc1023⟩ := Sl.atI hr766 i391 h1015
                obtain ⟨rfl, reOp1024, zeLine1025⟩ := r_diff_Edit_open ok1022
                replace hp := hp reOp1024
                replace hp := hp zeLine1025
                refine sq (o_pv (.pointer (some ⟨b1016, o1017 + i391.toNat * 2, none⟩)) rfl (x_ixA (m := r32.length) (c := cr38) (k := .i64) (i := i391) Try.underlying45 Try.sizeOf49 (by rw [← ha1019]; kernel_rfl) (by kernel_rfl) h1015) ?_)
                refine sq (o_pv (.pointer (some ⟨b1016, o1017 + i391.toNat * 2 + 1, none⟩)) rfl (by kernel_rfl) ?_)
                refine sq (o_pv (.string ((lget r32 i391).Line)) rfl (x_load1 (by kernel_rfl) Try.isAgg9 (hc1023 1 _ rfl)) ?_)
                refine sq (o_rowX (R := rStr) [(.string ((lget r32 i391).Line))] [(lget r32 i391).Line] 9 1 (X := X751) (B := w.heap.size) E761.size rfl (by kernel_rfl) (Flat.cons (cs := [(.string ((lget r32 i391).Line))]) (rStr_mk zeLine1025) Flat.nil) rfl (by decide) ?_)
                intro b1026 w1027 X1028 s1029 O1030 n1031
                have p1032 := n1031 _ (OS.old O385)
                have p1033 := n1031 _ (OS.old O390)
                obtain ⟨h1034, hp⟩ := hp
                have O1035 := (OS.step0 O385 s1029)
                have O1036 := (OS.step0 O390 s1029)
                have E1037 := (Evo.then0 E761 (Step.evo s1029))
                refine sq (o_appX (R := rStr) (X := X1028) (B := w.heap.size) (L := x381) (M := [(lget r32 i391).Line]) rfl elT43 rfl E1037.size O1035 (OS.src O1030) O1030.1 (by kernel_rfl) (by kernel_rfl) h1034 ?_)
                intro a1038 n1039 c1040 w1041 X1042 s1043 O1044 gr1045
                have p1046 := gr1045 _ (Ap.symm p767) (OS.old O1036)
                refine sq (o_pv (.slice a1038 n1039 c1040) rfl (by kernel_rfl) ?_)
                refine nil_ ?_
                have E1047 := (Evo.thenW E1037 (Step.evo s1043) O1035.2.2)
                have hXo1048 := (Old.step (Old.step hXo762 s1029) s1043)
                have hS1049 := (Sub.trans (Sub.trans hS763 (Step.up s1029)) (Step.up s1043))
                have ha1050 := (Sl.step (Sl.step ha764 s1029) s1043)
                have hb1051 := (Sl.step (Sl.step hb765 s1029) s1043)
                have hr1052 := (Sl.step (Sl.step hr766 s1029) s1043)
                have O1053 := (OS.step O1036 s1043 (Ap.symm p767))
                refine then_normal (hJ1004 _ _ _ ⟨[(7, (.slice a1038 n1039 c1040))], fit_mk (fun _ _ => rfl) (by kernel_rfl) (vs_cons (by kernel_rfl) vs_nil), ?_⟩)
                exact ⟨X1042, (x381 ++ ([(lget r32 i391).Line])), a1038, n1039, c1040, rfl, E1047, hXo1048, hS1049, ha1050, hb1051, hr1052, O1053, O1044, p1046, hp⟩
              ·
                replace hp := hp.2 h1014
                refine wp_skip ?_
                refine then_normal (hJ1004 _ _ _ ⟨[(7, (.slice a382 n383 c384))], fit_mk (fun _ _ => rfl) (by kernel_rfl) (vs_cons (by kernel_rfl) vs_nil), ?_⟩)
                exact ⟨X751, x381, a382, n383, c384, rfl, E761, hXo762, hS763, ha764, hb765, hr766, O390, O385, (Ap.symm p767), hp⟩
            ·
              rintro _ w1001 g1054 ⟨X1002, x994, a995, n996, c997, rfl, E1006, hXo1007, hS1008, ha1009, hb1010, hr1011, O1012, O998, p1013, hv1005⟩
              replace hp := hk1000 x994 hv1005 (OS.len O998)
              refine then_normal (K948 _ _ _ _ ?_)
              refine seq_ (fun _ K1055 => ?_)
              refine reg_ ?_
              refine sq (o_pv (.slice ar37 r32.length cr38) rfl (by kernel_rfl) ?_)
              refine sq (o_pv (.int .i64 i391) rfl (by kernel_rfl) ?_)
              obtain ⟨h1056, hp⟩ := hp
              obtain ⟨b1057, o1058, cs1059, ha1060, nx1061, lt1062, ok1063, hc1064⟩ := Sl.atI hr1011 i391 h1056
              obtain ⟨rfl, reOp1065, zeLine1066⟩ := r_diff_Edit_open ok1063
              replace hp := hp reOp1065
              replace hp := hp zeLine1066
              refine sq (o_pv (.pointer (some ⟨b1057, o1058 + i391.toNat * 2, none⟩)) rfl (x_ixA (m := r32.length) (c := cr38) (k := .i64) (i := i391) Try.underlying45 Try.sizeOf49 (by rw [← ha1060]; kernel_rfl) (by kernel_rfl) h1056) ?_)
              refine sq (o_pv (.pointer (some ⟨b1057, o1058 + i391.toNat * 2, none⟩)) rfl (by kernel_rfl) ?_)
              refine sq (o_pv (.int .i64 ((lget r32 i391).Op)) rfl (x_load1 (by kernel_rfl) Try.isAgg3 (hc1064 0 _ rfl)) ?_)
              refine sq (o_pv (.bool (!decide (((lget r32 i391).Op) = (2 : Int)))) rfl (by kernel_rfl) ?_)
              refine nil_ ?_
              refine then_normal (K1055 _ _ _ _ ?_)
              refine cond_nd (((lget r32 i391).Op) = (2 : Int)) (by kernel_rfl) (fun h1067 => ?_) (fun h1067 => ?_)
              ·
                replace hp := hp.1 h1067
                refine reg_ ?_
                refine sq (o_pv (.slice a387 n388 c389) rfl (by kernel_rfl) ?_)
                refine sq (o_pv (.slice ar37 r32.length cr38) rfl (by kernel_rfl) ?_)
                refine sq (o_pv (.int .i64 i391) rfl (by kernel_rfl) ?_)
                obtain ⟨h1068, hp⟩ := hp
                obtain ⟨b1069, o1070, cs1071, ha1072, nx1073, lt1074, ok1075, hc1076⟩ := Sl.atI hr1011 i391 h1068
                obtain ⟨rfl, reOp1077, zeLine1078⟩ := r_diff_Edit_open ok1075
                replace hp := hp reOp1077
                replace hp := hp zeLine1078
                refine sq (o_pv (.pointer (some ⟨b1069, o1070 + i391.toNat * 2, none⟩)) rfl (x_ixA (m := r32.length) (c := cr38) (k := .i64) (i := i391) Try.underlying45 Try.sizeOf49 (by rw [← ha1072]; kernel_rfl) (by kernel_rfl) h1068) ?_)
                refine sq (o_pv (.pointer (some ⟨b1069, o1070 + i391.toNat * 2 + 1, none⟩)) rfl (by kernel_rfl) ?_)
                refine sq (o_pv (.string ((lget r32 i391).Line)) rfl (x_load1 (by kernel_rfl) Try.isAgg9 (hc1076 1 _ rfl)) ?_)
                refine sq (o_rowX (R := rStr) [(.string ((lget r32 i391).Line))] [(lget r32 i391).Line] 9 1 (X := X1002) (B := w.heap.size) E1006.size rfl (by kernel_rfl) (Flat.cons (cs := [(.string ((lget r32 i391).Line))]) (rStr_mk zeLine1078) Flat.nil) rfl (by decide) ?_)
                intro b1079 w1080 X1081 s1082 O1083 n1084
                have p1085 := n1084 _ (OS.old O1012)
                have p1086 := n1084 _ (OS.old O998)
                obtain ⟨h1087, hp⟩ := hp
                have O1088 := (OS.step0 O1012 s1082)
                have O1089 := (OS.step0 O998 s1082)
                have E1090 := (Evo.then0 E1006 (Step.evo s1082))
                refine sq (o_appX (R := rStr) (X := X1081) (B := w.heap.size) (L := y386) (M := [(lget r32 i391).Line]) rfl elT43 rfl E1090.size O1088 (OS.src O1083) O1083.1 (by kernel_rfl) (by kernel_rfl) h1087 ?_)
                intro a1091 n1092 c1093 w1094 X1095 s1096 O1097 gr1098
                have p1099 := gr1098 _ (Ap.symm p1013) (OS.old O1089)
                refine sq (o_pv (.slice a1091 n1092 c1093) rfl (by kernel_rfl) ?_)
                refine nil_ ?_
                refine blk_normal ?_
                have E1100 := (Evo.thenW E1090 (Step.evo s1096) O1088.2.2)
                have hXo1101 := (Old.step (Old.step hXo1007 s1082) s1096)
                have hS1102 := (Sub.trans (Sub.trans hS1008 (Step.up s1082)) (Step.up s1096))
                have ha1103 := (Sl.step (Sl.step ha1009 s1082) s1096)
                have hb1104 := (Sl.step (Sl.step hb1010 s1082) s1096)
                have hr1105 := (Sl.step (Sl.step hr1011 s1082) s1096)
                have O1106 := (OS.step O1089 s1096 (Ap.symm p1013))
                refine then_normal (hJ939 _ _ _ ⟨[(7, (.slice a995 n996 c997)), (8, (.slice a1091 n1092 c1093))], fit_mk (AgB.nest (AgB.look (fun _ _ => rfl) (by kernel_rfl)) (by kernel_rfl) (by kernel_rfl)) (by kernel_rfl) (vs_cons (by kernel_rfl) (vs_cons (by kernel_rfl) vs_nil)), ?_⟩)
                exact ⟨X1095, x994, (y386 ++ ([(lget r32 i391).Line])), a995, n996, c997, a1091, n1092, c1093, rfl, E1100, hXo1101, hS1102, ha1103, hb1104, hr1105, O1106, O1097, p1099, hp⟩
              ·
                replace hp := hp.2 h1067
                refine wp_skip ?_
                refine blk_normal ?_
                refine then_normal (hJ939 _ _ _ ⟨[(7, (.slice a995 n996 c997)), (8, (.slice a387 n388 c389))], fit_mk (AgB.nest (AgB.look (fun _ _ => rfl) (by kernel_rfl)) (by kernel_rfl) (by kernel_rfl)) (by kernel_rfl) (vs_cons (by kernel_rfl) (vs_cons (by kernel_rfl) vs_nil)), ?_⟩)
                exact ⟨X1002, x994, y386, a995, n996, c997, a387, n388, c389, rfl, E1006, hXo1007, hS1008, ha1009, hb1010, hr1011, O998, O1012, (Ap.symm p1013), hp⟩
          ·
            rintro _ w936 g1107 ⟨X937, x924, y929, a925, n926, c927, a930, n931, c932, rfl, E941, hXo942, hS943, ha944, hb945, hr946, O928, O933, p947, hv940⟩
            replace hp := hk935 x924 y929 hv940 (OS.len O928) (OS.len O933)
            refine then_normal (K771 _ _ _ _ ?_)
            refine reg_ ?_
            refine sq (o_pv (.int .i64 i391) rfl (by kernel_rfl) ?_)
            obtain ⟨h1108, hp⟩ := hp
            refine sq (o_pv (.int .i64 (i391 + (1 : Int))) rfl (x_add2 (a := i391) (b := (1 : Int)) (i391 + (1 : Int)) (by kernel_rfl) (by kernel_rfl) (wrap_inR h1108)) ?_)
            refine sq (o_pv (.int .i64 (i391 + (1 : Int))) rfl (by kernel_rfl) ?_)
            refine nil_ ?_
            refine then_normal (hA755 _ _ _ ⟨_, [(7, (.slice a925 n926 c927)), (8, (.slice a930 n931 c932)), (9, (.int .i64 (i391 + (1 : Int))))], hp.2, fit_mk (AgB.nest (AgB.look (AgB.mix _ _ _) (by kernel_rfl)) (by kernel_rfl) (by kernel_rfl)) (by kernel_rfl) (vs_cons (by kernel_rfl) (vs_cons (by kernel_rfl) (vs_cons (by kernel_rfl) vs_nil))), ?_⟩)
            exact ⟨X937, x924, y929, (i391 + (1 : Int)), a925, n926, c927, a930, n931, c932, rfl, rfl, E941, hXo942, hS943, ha944, hb945, hr946, O928, O933, p947, h1108, hp.1⟩
        ·
          replace hp := hp.2 h770
          refine wp_exit ?_
          refine then_exit ?_
          refine then_exit ?_
          refine blk_exit ?_
          refine then_normal (K54 _ _ _ _ ?_)
          refine seq_ (fun _ K1109 => ?_)
          obtain ⟨k1121, hk1122, hp⟩ := hp
          refine ground_ ?_
          refine join_ 18815678955183742648336 (fun lq w1123 => ∃ (X1124 : List Nat) (s1120 : Bool), (lq = [(4, (.bool s1120))]) ∧ (Evo [] w w1123) ∧ (Old X1124 w1123) ∧ (Sub X X1124) ∧ (k1121 s1120)) (fun Kj1125 hJ1126 => ?_) ?_
          ·
            refine reg_ ?_
            refine sq (o_pv (.slice a382 n383 c384) rfl (by kernel_rfl) ?_)
            refine sq (o_pv (.slice aa1 a.length ca2) rfl (by kernel_rfl) ?_)
            refine sq (o_call 29 #[(.slice a382 x381.length c384), (.slice aa1 a.length ca2)] rfl (x_call Try.call29 (by rw [← show n383 = x381.length from O385.1]; kernel_rfl)) (rectoref11_Equal_w (X := []) (a := x381) (b := a) (Old.nil _) (OS.rd O385) (Sl.less ha764 (Sub.nil _)) hp) ?_)
            rintro _ w1132 ⟨r1131, hp, e1133, rfl⟩
            have s1134 := Step.of0 X751 e1133
            cases r1131
            ·
              replace hp := hp.2 rfl
              refine sq (o_pv (.bool false) rfl (by kernel_rfl) ?_)
              refine sq (o_not (by kernel_rfl) ?_)
              refine sq (o_not (by kernel_rfl) ?_)
              refine sq (o_not (by kernel_rfl) ?_)
              refine sq (o_pv (.bool false) rfl (by kernel_rfl) ?_)
              refine sq (o_pv (.bool false) rfl (by kernel_rfl) ?_)
              refine nil_ ?_
              have E1135 := (Evo.then0 E761 e1133)
              have hXo1136 := (Old.step hXo762 s1134)
              have hS1137 := (Sub.trans hS763 (Step.up s1134))
              refine then_normal (hJ1126 _ _ _ ⟨[(4, (.bool false))], fit_mk (fun _ _ => rfl) (by kernel_rfl) (vs_cons (by kernel_rfl) vs_nil), ?_⟩)
              exact ⟨X751, false, rfl, E1135, hXo1136, hS1137, hp⟩
            ·
              replace hp := hp.1 rfl
              refine sq (o_pv (.bool true) rfl (by kernel_rfl) ?_)
              refine sq (o_pv (.slice a387 n388 c389) (by kernel_rfl) (by kernel_rfl) ?_)
              refine sq (o_pv (.slice ab4 b.length cb5) (by kernel_rfl) (by kernel_rfl) ?_)
              have O1138 := (OS.step0 O390 s1134)
              have hb1139 := (Sl.step hb765 s1134)
              refine sq (o_call 29 #[(.slice a387 y386.length c389), (.slice ab4 b.length cb5)] (by kernel_rfl) (x_call Try.call29 (by rw [← show n388 = y386.length from O1138.1]; kernel_rfl)) (rectoref11_Equal_w (X := []) (a := y386) (b := b) (Old.nil _) (OS.rd O1138) (Sl.less hb1139 (Sub.nil _)) hp) ?_)
              rintro _ w1141 ⟨r1140, hp, e1142, rfl⟩
              have s1143 := Step.of0 X751 e1142
              refine sq (o_pv (.bool r1140) rfl (by kernel_rfl) ?_)
              refine sq (o_pv (.bool r1140) rfl (by kernel_rfl) ?_)
              refine nil_ ?_
              have E1144 := (Evo.then0 (Evo.then0 E761 e1133) e1142)
              have hXo1145 := (Old.step (Old.step hXo762 s1134) s1143)
              have hS1146 := (Sub.trans (Sub.trans hS763 (Step.up s1134)) (Step.up s1143))
              refine then_normal (hJ1126 _ _ _ ⟨[(4, (.bool r1140))], fit_mk (fun _ _ => rfl) (by kernel_rfl) (vs_cons (by kernel_rfl) vs_nil), ?_⟩)
              exact ⟨X751, r1140, rfl, E1144, hXo1145, hS1146, hp⟩
          ·
            rintro _ w1123 g1147 ⟨X1124, s1120, rfl, E1128, hXo1129, hS1130, hv1127⟩
            replace hp := hk1122 s1120 hv1127
            refine then_normal (K1109 _ _ _ _ ?_)
            refine wp_ret ?_
            refine end_ret hQ (.bool s1120) (by kernel_rfl) ?_
            exact ⟨s1120, hp, E1128, rfl⟩

def rectolaw11_DiffLeast_p (common : (List ByteArray)) (a : (List Int)) (b : (List Int)) (Q : Bool → Prop) : Prop :=
  ((common.length ≤ 9223372036854775807) → ((a.length ≤ 9223372036854775807) → ((b.length ≤ 9223372036854775807) → (rectolaw11_known_p  (fun (r13 : Bool) => ((((!r13) = true) → Q false) ∧ (((!r13) = false) → (((((common.length : Int) > (20 : Int)) ∨ (((a.length : Int) > (20 : Int)) ∨ ((b.length : Int) > (20 : Int)))) → Q true) ∧ ((¬ (((common.length : Int) > (20 : Int)) ∨ (((a.length : Int) > (20 : Int)) ∨ ((b.length : Int) > (20 : Int))))) → (∃ (I1954 : (List ByteArray) → (List ByteArray) → Int → Prop) (m1955 : (List ByteArray) → (List ByteArray) → Int → Nat), (I1954 ([] : List ByteArray) ([] : List ByteArray) (0 : Int)) ∧ ∀ (x963 : (List ByteArray)) (y968 : (List ByteArray)) (i973 : Int), (I1954 x963 y968 i973) → (x963.length ≤ 9223372036854775807) → (y968.length ≤ 9223372036854775807) → (inR .i64 i973) → (((i973 < (common.length : Int)) → ((inL common i973) ∧ (((lget common i973).size ≤ maxLen) → (((((lget common i973).size : Int) > (100 : Int)) → Q true) ∧ ((¬ (((lget common i973).size : Int) > (100 : Int))) → (∃ k2211 : (List ByteArray) → Prop, (∀ (x2206 : (List ByteArray)), k2211 x2206 → (x2206.length ≤ 9223372036854775807) → (∃ k2652 : (List ByteArray) → Prop, (∀ (y2647 : (List ByteArray)), k2652 y2647 → (y2647.length ≤ 9223372036854775807) → ((inL common i973) ∧ (((lget common i973).size ≤ maxLen) → (((x2206.length + ([lget common i973]).length) * 16 ≤ 140737488355328) ∧ ((inL common i973) ∧ (((lget common i973).size ≤ maxLen) → (((y2647.length + ([lget common i973]).length) * 16 ≤ 140737488355328) ∧ ((inR .i64 (i973 + (1 : Int))) ∧ ((I1954 (x2206 ++ ([lget common i973])) (y2647 ++ ([lget common i973])) (i973 + (1 : Int))) ∧ m1955 (x2206 ++ ([lget common i973])) (y2647 ++ ([lget common i973])) (i973 + (1 : Int)) < m1955 x963 y968 i973))))))))) ∧ (((i973 < (b.length : Int)) → (∃ (I2798 : (List ByteArray) → Int → Prop) (m2799 : (List ByteArray) → Int → Nat), (I2798 y968 (0 : Int)) ∧ ∀ (y2731 : (List ByteArray)) (k2736 : Int), (I2798 y2731 k2736) → (y2731.length ≤ 9223372036854775807) → (inR .i64 k2736) → ((inL b i973) ∧ ((inR .u8 (lget b i973)) → (((k2736 < ((lget b i973) % (3 : Int))) → ((inR .i64 ((48 : Int) + k2736)) ∧ ((((ByteArray.mk #[121]) ++ (strOfNums ([iwrap .u8 ((48 : Int) + k2736)]))).size ≤ maxLen) ∧ (((y2731.length + ([(ByteArray.mk #[121]) ++ (strOfNums ([iwrap .u8 ((48 : Int) + k2736)]))]).length) * 16 ≤ 140737488355328) ∧ ((inR .i64 (k2736 + (1 : Int))) ∧ ((I2798 (y2731 ++ ([(ByteArray.mk #[121]) ++ (strOfNums ([iwrap .u8 ((48 : Int) + k2736)]))])) (k2736 + (1 : Int))) ∧ m2799 (y2731 ++ ([(ByteArray.mk #[121]) ++ (strOfNums ([iwrap .u8 ((48 : Int) + k2736)]))])) (k2736 + (1 : Int)) < m2799 y2731 k2736)))))) ∧ ((¬ (k2736 < ((lget b i973) % (3 : Int)))) → (k2652 y2731))))))) ∧ ((¬ (i973 < (b.length : Int))) → (k2652 y968))))) ∧ (((i973 < (a.length : Int)) → (∃ (I2357 : (List ByteArray) → Int → Prop) (m2358 : (List ByteArray) → Int → Nat), (I2357 x963 (0 : Int)) ∧ ∀ (x2290 : (List ByteArray)) (k2295 : Int), (I2357 x2290 k2295) → (x2290.length ≤ 9223372036854775807) → (inR .i64 k2295) → ((inL a i973) ∧ ((inR .u8 (lget a i973)) → (((k2295 < ((lget a i973) % (3 : Int))) → ((inR .i64 ((48 : Int) + k2295)) ∧ ((((ByteArray.mk #[120]) ++ (strOfNums ([iwrap .u8 ((48 : Int) + k2295)]))).size ≤ maxLen) ∧ (((x2290.length + ([(ByteArray.mk #[120]) ++ (strOfNums ([iwrap .u8 ((48 : Int) + k2295)]))]).length) * 16 ≤ 140737488355328) ∧ ((inR .i64 (k2295 + (1 : Int))) ∧ ((I2357 (x2290 ++ ([(ByteArray.mk #[120]) ++ (strOfNums ([iwrap .u8 ((48 : Int) + k2295)]))])) (k2295 + (1 : Int))) ∧ m2358 (x2290 ++ ([(ByteArray.mk #[120]) ++ (strOfNums ([iwrap .u8 ((48 : Int) + k2295)]))])) (k2295 + (1 : Int)) < m2358 x2290 k2295)))))) ∧ ((¬ (k2295 < ((lget a i973) % (3 : Int)))) → (k2211 x2290))))))) ∧ ((¬ (i973 < (a.length : Int))) → (k2211 x963))))))))) ∧ ((¬ (i973 < (common.length : Int))) → (diff_Common_p x963 y968 (fun (r2952 : Int) (r2953 : PErr) => ((inR .i64 r2952) → (diff_Common_p y968 x963 (fun (r2965 : Int) (r2966 : PErr) => ((inR .i64 r2965) → Q (decide ((r2953.isNil = true) ∧ ((r2966.isNil = true) ∧ ((r2952 ≥ (common.length : Int)) ∧ (r2952 = r2965)))))))))))))))))))))))
set_option maxRecDepth 20000 in
set_option maxHeartbeats 4000000 in
theorem rectolaw11_DiffLeast_w {X : List Nat} {w : World} {common : (List ByteArray)} {a : (List Int)} {b : (List Int)} {acommon1 : Option Addr} {ccommon2 : Nat} {aa4 : Option Addr} {ca5 : Nat} {ab7 : Option Addr} {cb8 : Nat} {Q : Bool → Prop} (hX0 : Old X w) (hcommon3 : Sl rStr X w acommon1 ccommon2 common) (ha6 : Sl (rInt .u8) X w aa4 ca5 a) (hb9 : Sl (rInt .u8) X w ab7 cb8 b) (hp : rectolaw11_DiffLeast_p common a b Q) :
    Calls Try.prog 5 #[(.slice acommon1 common.length ccommon2), (.slice aa4 a.length ca5), (.slice ab7 b.length cb8)] w (Ret fun v w' => ∃ (r0 : Bool), Q r0 ∧ Evo [] w w' ∧ v = (.bool r0)) := by
  have hXo := hX0
  have E0 : Evo [] w w := RB.refl _ _ _
  have hS : Sub X X := Sub.refl _
  unfold rectolaw11_DiffLeast_p at hp
  refine enter_ Try.func5 rfl 132 [(0, (.slice acommon1 common.length ccommon2)), (1, (.slice aa4 a.length ca5)), (2, (.slice ab7 b.length cb8))] (by kernel_rfl) (fun Qe hQ => ?_)
  replace hp := hp (Sl.len hcommon3)
  replace hp := hp (Sl.len ha6)
  replace hp := hp (Sl.len hb9)
  refine seq_ (fun _ K10 => ?_)
  refine reg_ ?_
  refine sq (o_pv (.bool false) rfl (by kernel_rfl) ?_)
  refine nil_ ?_
  refine then_normal (K10 _ _ _ _ ?_)
  refine seq_ (fun _ K11 => ?_)
  refine seq_ (fun _ K12 => ?_)
  refine reg_ ?_
  refine sq (o_call 26 #[] rfl (x_call Try.call26 (by kernel_rfl)) (rectolaw11_known_w (X := [])  (Old.nil _) hp) ?_)
  rintro _ w14 ⟨r13, hp, e15, rfl⟩
  have s16 := Step.of0 X e15
  refine sq (o_pv (.bool (!r13)) rfl (by kernel_rfl) ?_)
  refine nil_ ?_
  refine then_normal (K12 _ _ _ _ ?_)
  refine cond_b (!r13) (by kernel_rfl) (fun h17 => ?_) (fun h17 => ?_)
  ·
    replace hp := hp.1 h17
    refine seq_ (fun _ K18 => ?_)
    refine reg_ ?_
    refine sq (o_pv (.bool false) rfl (by kernel_rfl) ?_)
    refine nil_ ?_
    refine then_normal (K18 _ _ _ _ ?_)
    refine wp_ret ?_
    refine then_ret ?_
    have E19 := (Evo.then0 E0 e15)
    refine end_ret hQ (.bool false) (by kernel_rfl) ?_
    exact ⟨false, hp, E19, rfl⟩
  ·
    replace hp := hp.2 h17
    refine wp_skip ?_
    refine then_normal (K11 _ _ _ _ ?_)
    refine seq_ (fun _ K20 => ?_)
    refine seq_ (fun _ K21 => ?_)
    refine ground_ ?_
    refine join_ 2147221504 (fun lq w26 => lq = [(30, (.bool (decide (((common.length : Int) > (20 : Int)) ∨ (((a.length : Int) > (20 : Int)) ∨ ((b.length : Int) > (20 : Int)))))))] ∧ w14 = w26) (fun Kj24 hJ25 => ?_) ?_
    ·
      refine reg_ ?_
      refine sq (o_pv (.slice acommon1 common.length ccommon2) rfl (by kernel_rfl) ?_)
      refine sq (o_pv (.int .i64 (common.length : Int)) rfl (by kernel_rfl) ?_)
      by_cases h28 : (common.length : Int) > (20 : Int)
      ·
        refine sq (o_pv (.bool true) rfl (x_dt (p := (common.length : Int) > (20 : Int)) (by kernel_rfl) h28) ?_)
        refine sq (o_pv (.bool true) rfl (by kernel_rfl) ?_)
        refine sq (o_not (by kernel_rfl) ?_)
        refine sq (o_not (by kernel_rfl) ?_)
        refine sq (o_not (by kernel_rfl) ?_)
        refine sq (o_pv (.bool true) rfl (by kernel_rfl) ?_)
        refine sq (o_pv (.bool true) rfl (by kernel_rfl) ?_)
        refine sq (o_not (by kernel_rfl) ?_)
        refine sq (o_not (by kernel_rfl) ?_)
        refine sq (o_not (by kernel_rfl) ?_)
        refine sq (o_pv (.bool true) rfl (by kernel_rfl) ?_)
        refine nil_ ?_
        refine then_normal (hJ25 _ _ _ ⟨[(30, (.bool (decide (((common.length : Int) > (20 : Int)) ∨ (((a.length : Int) > (20 : Int)) ∨ ((b.length : Int) > (20 : Int)))))))], fit_mk (fun _ _ => rfl) (by kernel_rfl) (vs_cons (Eq.trans (b := (.bool true)) (by kernel_rfl) (dec_t (iff_true_intro (Or.inl h28))).symm) vs_nil), rfl, rfl⟩)
      ·
        refine sq (o_pv (.bool false) rfl (x_df (p := (common.length : Int) > (20 : Int)) (by kernel_rfl) h28) ?_)
        refine sq (o_pv (.bool false) rfl (by kernel_rfl) ?_)
        refine sq (o_pv (.slice aa4 a.length ca5) (by kernel_rfl) (by kernel_rfl) ?_)
        refine sq (o_pv (.int .i64 (a.length : Int)) (by kernel_rfl) (by kernel_rfl) ?_)
        by_cases h29 : (a.length : Int) > (20 : Int)
        ·
          refine sq (o_pv (.bool true) (by kernel_rfl) (x_dt (p := (a.length : Int) > (20 : Int)) (by kernel_rfl) h29) ?_)
          refine sq (o_pv (.bool true) rfl (by kernel_rfl) ?_)
          refine sq (o_pv (.bool true) rfl (by kernel_rfl) ?_)
          refine sq (o_not (by kernel_rfl) ?_)
          refine sq (o_not (by kernel_rfl) ?_)
          refine sq (o_not (by kernel_rfl) ?_)
          refine sq (o_pv (.bool true) rfl (by kernel_rfl) ?_)
          refine nil_ ?_
          refine then_normal (hJ25 _ _ _ ⟨[(30, (.bool (decide (((common.length : Int) > (20 : Int)) ∨ (((a.length : Int) > (20 : Int)) ∨ ((b.length : Int) > (20 : Int)))))))], fit_mk (fun _ _ => rfl) (by kernel_rfl) (vs_cons (Eq.trans (b := (.bool true)) (by kernel_rfl) (dec_t ((or_iff_right h28).trans (iff_true_intro (Or.inl h29)))).symm) vs_nil), rfl, rfl⟩)
        ·
          refine sq (o_pv (.bool false) (by kernel_rfl) (x_df (p := (a.length : Int) > (20 : Int)) (by kernel_rfl) h29) ?_)
          refine sq (o_pv (.bool false) rfl (by kernel_rfl) ?_)
          refine sq (o_pv (.bool false) rfl (by kernel_rfl) ?_)
          refine sq (o_pv (.slice ab7 b.length cb8) (by kernel_rfl) (by kernel_rfl) ?_)
          refine sq (o_pv (.int .i64 (b.length : Int)) (by kernel_rfl) (by kernel_rfl) ?_)
          refine sq (o_pv (.bool (decide ((b.length : Int) > (20 : Int)))) (by kernel_rfl) (by kernel_rfl) ?_)
          refine sq (o_pv (.bool (decide ((b.length : Int) > (20 : Int)))) rfl (by kernel_rfl) ?_)
          refine nil_ ?_
          refine then_normal (hJ25 _ _ _ ⟨[(30, (.bool (decide (((common.length : Int) > (20 : Int)) ∨ (((a.length : Int) > (20 : Int)) ∨ ((b.length : Int) > (20 : Int)))))))], fit_mk (fun _ _ => rfl) (by kernel_rfl) (vs_cons (Eq.trans (b := (.bool (decide ((b.length : Int) > (20 : Int))))) (by kernel_rfl) (dec_d ((or_iff_right h28).trans ((or_iff_right h29).trans Iff.rfl))).symm) vs_nil), rfl, rfl⟩)
    ·
      rintro _ w26 g27 ⟨rfl, hw⟩
      subst hw
      refine then_normal (K21 _ _ _ _ ?_)
      refine cond_d (((common.length : Int) > (20 : Int)) ∨ (((a.length : Int) > (20 : Int)) ∨ ((b.length : Int) > (20 : Int)))) (by kernel_rfl) (fun h30 => ?_) (fun h30 => ?_)
      ·
        replace hp := hp.1 h30
        refine seq_ (fun _ K31 => ?_)
        refine reg_ ?_
        refine sq (o_pv (.bool true) rfl (by kernel_rfl) ?_)
        refine nil_ ?_
        refine then_normal (K31 _ _ _ _ ?_)
        refine wp_ret ?_
        refine then_ret ?_
        have E32 := (Evo.then0 E0 e15)
        refine end_ret hQ (.bool true) (by kernel_rfl) ?_
        exact ⟨true, hp, E32, rfl⟩
      ·
        replace hp := hp.2 h30
        refine wp_skip ?_
        refine then_normal (K20 _ _ _ _ ?_)
        refine seq_ (fun _ K33 => ?_)
        refine reg_ ?_
        refine sq (o_pv (.slice none 0 0) rfl (by kernel_rfl) ?_)
        refine sq (o_pv (.slice none 0 0) rfl (by kernel_rfl) ?_)
        refine nil_ ?_
        refine then_normal (K33 _ _ _ _ ?_)
        refine seq_ (fun _ K34 => ?_)
        refine seq_ (fun _ K35 => ?_)
        refine reg_ ?_
        refine sq (o_pv (.int .i64 (0 : Int)) rfl (by kernel_rfl) ?_)
        refine nil_ ?_
        refine then_normal (K35 _ _ _ _ ?_)
        refine wp_block ?_
        have hcommon1964 := (Sl.step hcommon3 s16)
        have ha1965 := (Sl.step ha6 s16)
        have hb1966 := (Sl.step hb9 s16)
        have hXo1967 := (Old.step hXo s16)
        have E1968 := (Evo.then0 E0 e15)
        have hS1969 := (Sub.trans hS (Step.up s16))
        obtain ⟨I1954, m1955, hI1956, hp⟩ := hp
        refine loop_ 10141204801825835211971478163392 (fun kq lq w1958 => ∃ (X1959 : List Nat) (x963 : (List ByteArray)) (y968 : (List ByteArray)) (i973 : Int) (a964 : Option Addr) (n965 : Nat) (c966 : Nat) (a969 : Option Addr) (n970 : Nat) (c971 : Nat), (lq = [(7, (.slice a964 n965 c966)), (8, (.slice a969 n970 c971)), (9, (.int .i64 i973))]) ∧ (kq = m1955 x963 y968 i973) ∧ (Evo [] w w1958) ∧ (Old X1959 w1958) ∧ (Sub X X1959) ∧ (Sl rStr X1959 w1958 acommon1 ccommon2 common) ∧ (Sl (rInt .u8) X1959 w1958 aa4 ca5 a) ∧ (Sl (rInt .u8) X1959 w1958 ab7 cb8 b) ∧ (OS rStr ([]) w.heap.size X1959 w1958 9 a964 n965 c966 x963) ∧ (OS rStr ([]) w.heap.size X1959 w1958 9 a969 n970 c971 y968) ∧ (Ap (blkL a964) (blkL a969)) ∧ (inR .i64 i973) ∧ (I1954 x963 y968 i973)) (m1955 ([] : List ByteArray) ([] : List ByteArray) (0 : Int)) [(7, (.slice none 0 0)), (8, (.slice none 0 0)), (9, (.int .i64 (0 : Int)))] (vs_cons (by kernel_rfl) (vs_cons (by kernel_rfl) (vs_cons (by kernel_rfl) vs_nil))) ⟨X, ([] : List ByteArray), ([] : List ByteArray), (0 : Int), none, 0, 0, none, 0, 0, rfl, rfl, E1968, hXo1967, hS1969, hcommon1964, ha1965, hb1966, (OS.nil _ _ _ _), (OS.nil _ _ _ _), (Ap.nil_l _), (by decide), hI1956⟩ ?_
        rintro _ _ w1958 g1961 ⟨X1959, x963, y968, i973, a964, n965, c966, a969, n970, c971, rfl, rfl, E1970, hXo1971, hS1972, hcommon1973, ha1974, hb1975, O967, O972, p1976, ri974, hI1957⟩ Kl1962 hA1963
        replace hp := hp x963 y968 i973 hI1957 (OS.len O967) (OS.len O972) ri974
        refine seq_ (fun _ K1977 => ?_)
        refine seq_ (fun _ K1978 => ?_)
        refine reg_ ?_
        refine sq (o_pv (.int .i64 i973) rfl (by kernel_rfl) ?_)
        refine sq (o_pv (.slice acommon1 common.length ccommon2) rfl (by kernel_rfl) ?_)
        refine sq (o_pv (.int .i64 (common.length : Int)) rfl (by kernel_rfl) ?_)
        refine sq (o_pv (.bool (decide (i973 < (common.length : Int)))) rfl (by kernel_rfl) ?_)
        refine nil_ ?_
        refine then_normal (K1978 _ _ _ _ ?_)
        refine cond_d (i973 < (common.length : Int)) (by kernel_rfl) (fun h1979 => ?_) (fun h1979 => ?_)
        ·
          replace hp := hp.1 h1979
          refine wp_skip ?_
          refine then_normal (K1977 _ _ _ _ ?_)
          refine seq_ (fun _ K1980 => ?_)
          refine wp_block ?_
          refine seq_ (fun _ K1981 => ?_)
          refine seq_ (fun _ K1982 => ?_)
          refine reg_ ?_
          refine sq (o_pv (.slice acommon1 common.length ccommon2) rfl (by kernel_rfl) ?_)
          refine sq (o_pv (.int .i64 i973) rfl (by kernel_rfl) ?_)
          obtain ⟨h1983, hp⟩ := hp
          obtain ⟨b1984, o1985, cs1986, ha1987, nx1988, lt1989, ok1990, hc1991⟩ := Sl.atI hcommon1973 i973 h1983
          obtain ⟨rfl, ze1992⟩ := ok1990
          replace hp := hp ze1992
          refine sq (o_pv (.pointer (some ⟨b1984, o1985 + i973.toNat * 1, none⟩)) rfl (x_ixA (m := common.length) (c := ccommon2) (k := .i64) (i := i973) Try.underlying43 Try.sizeOf9 (by rw [← ha1987]; kernel_rfl) (by kernel_rfl) h1983) ?_)
          refine sq (o_pv (.string (lget common i973)) rfl (x_load1 (by kernel_rfl) Try.isAgg9 (hc1991 0 _ rfl)) ?_)
          refine sq (o_pv (.int .i64 ((lget common i973).size : Int)) rfl (by kernel_rfl) ?_)
          refine sq (o_pv (.bool (decide (((lget common i973).size : Int) > (100 : Int)))) rfl (by kernel_rfl) ?_)
          refine nil_ ?_
          refine then_normal (K1982 _ _ _ _ ?_)
          refine cond_d (((lget common i973).size : Int) > (100 : Int)) (by kernel_rfl) (fun h1993 => ?_) (fun h1993 => ?_)
          ·
            replace hp := hp.1 h1993
            refine seq_ (fun _ K1994 => ?_)
            refine reg_ ?_
            refine sq (o_pv (.bool true) rfl (by kernel_rfl) ?_)
            refine nil_ ?_
            refine then_normal (K1994 _ _ _ _ ?_)
            refine wp_ret ?_
            refine then_ret ?_
            refine blk_ret ?_
            refine then_ret ?_
            refine then_ret ?_
            refine blk_ret ?_
            refine then_ret ?_
            refine end_ret hQ (.bool true) (by kernel_rfl) ?_
            exact ⟨true, hp, E1970, rfl⟩
          ·
            replace hp := hp.2 h1993
            refine wp_skip ?_
            refine then_normal (K1981 _ _ _ _ ?_)
            refine seq_ (fun _ K1995 => ?_)
            refine seq_ (fun _ K1996 => ?_)
            refine reg_ ?_
            refine sq (o_pv (.int .i64 i973) rfl (by kernel_rfl) ?_)
            refine sq (o_pv (.slice aa4 a.length ca5) rfl (by kernel_rfl) ?_)
            refine sq (o_pv (.int .i64 (a.length : Int)) rfl (by kernel_rfl) ?_)
            refine sq (o_pv (.bool (decide (i973 < (a.length : Int)))) rfl (by kernel_rfl) ?_)
            refine nil_ ?_
            refine then_normal (K1996 _ _ _ _ ?_)
            obtain ⟨k2211, hk2212, hp⟩ := hp
            refine ground_ ?_
            refine join_ 73786835557349852288 (fun lq w2213 => ∃ (X2214 : List Nat) (x2206 : (List ByteArray)) (a2207 : Option Addr) (n2208 : Nat) (c2209 : Nat), (lq = [(7, (.slice a2207 n2208 c2209))]) ∧ (Evo [] w w2213) ∧ (Old X2214 w2213) ∧ (Sub X X2214) ∧ (Sl rStr X2214 w2213 acommon1 ccommon2 common) ∧ (Sl (rInt .u8) X2214 w2213 aa4 ca5 a) ∧ (Sl (rInt .u8) X2214 w2213 ab7 cb8 b) ∧ (OS rStr ([]) w.heap.size X2214 w2213 9 a969 n970 c971 y968) ∧ (OS rStr ([]) w.heap.size X2214 w2213 9 a2207 n2208 c2209 x2206) ∧ (Ap (blkL a969) (blkL a2207)) ∧ (k2211 x2206)) (fun Kj2215 hJ2216 => ?_) ?_
            ·
              refine cond_d (i973 < (a.length : Int)) (by kernel_rfl) (fun h2226 => ?_) (fun h2226 => ?_)
              ·
                replace hp := hp.1 h2226
                refine seq_ (fun _ K2227 => ?_)
                refine reg_ ?_
                refine sq (o_pv (.int .i64 (0 : Int)) rfl (by kernel_rfl) ?_)
                refine nil_ ?_
                refine then_normal (K2227 _ _ _ _ ?_)
                refine wp_block ?_
                obtain ⟨I2357, m2358, hI2359, hp⟩ := hp
                refine loop_ 73786835557349852288 (fun kq lq w2361 => ∃ (X2362 : List Nat) (x2290 : (List ByteArray)) (k2295 : Int) (a2291 : Option Addr) (n2292 : Nat) (c2293 : Nat), (lq = [(7, (.slice a2291 n2292 c2293)), (10, (.int .i64 k2295))]) ∧ (kq = m2358 x2290 k2295) ∧ (Evo [] w w2361) ∧ (Old X2362 w2361) ∧ (Sub X X2362) ∧ (Sl rStr X2362 w2361 acommon1 ccommon2 common) ∧ (Sl (rInt .u8) X2362 w2361 aa4 ca5 a) ∧ (Sl (rInt .u8) X2362 w2361 ab7 cb8 b) ∧ (OS rStr ([]) w.heap.size X2362 w2361 9 a969 n970 c971 y968) ∧ (OS rStr ([]) w.heap.size X2362 w2361 9 a2291 n2292 c2293 x2290) ∧ (Ap (blkL a969) (blkL a2291)) ∧ (inR .i64 k2295) ∧ (I2357 x2290 k2295)) (m2358 x963 (0 : Int)) [(7, (.slice a964 n965 c966)), (10, (.int .i64 (0 : Int)))] (vs_cons (by kernel_rfl) (vs_cons (by kernel_rfl) vs_nil)) ⟨X1959, x963, (0 : Int), a964, n965, c966, rfl, rfl, E1970, hXo1971, hS1972, hcommon1973, ha1974, hb1975, O972, O967, (Ap.symm p1976), (by decide), hI2359⟩ ?_
                rintro _ _ w2361 g2364 ⟨X2362, x2290, k2295, a2291, n2292, c2293, rfl, rfl, E2367, hXo2368, hS2369, hcommon2370, ha2371, hb2372, O2373, O2294, p2374, rk2296, hI2360⟩ Kl2365 hA2366
                replace hp := hp x2290 k2295 hI2360 (OS.len O2294) rk2296
                refine seq_ (fun _ K2375 => ?_)
                refine seq_ (fun _ K2376 => ?_)
                refine reg_ ?_
                refine sq (o_pv (.int .i64 k2295) rfl (by kernel_rfl) ?_)
                refine sq (o_pv (.slice aa4 a.length ca5) rfl (by kernel_rfl) ?_)
                refine sq (o_pv (.int .i64 i973) rfl (by kernel_rfl) ?_)
                obtain ⟨h2377, hp⟩ := hp
                obtain ⟨b2378, o2379, cs2380, ha2381, nx2382, lt2383, ok2384, hc2385⟩ := Sl.atI ha2371 i973 h2377
                obtain ⟨rfl, re2386⟩ := ok2384
                replace hp := hp re2386
                refine sq (o_pv (.pointer (some ⟨b2378, o2379 + i973.toNat * 1, none⟩)) rfl (x_ixA (m := a.length) (c := ca5) (k := .i64) (i := i973) Try.underlying25 Try.sizeOf5 (by rw [← ha2381]; kernel_rfl) (by kernel_rfl) h2377) ?_)
                refine sq (o_pv (.int .u8 (lget a i973)) rfl (x_load1 (by kernel_rfl) Try.isAgg5 (hc2385 0 _ rfl)) ?_)
                refine sq (o_pv (.int .u8 ((lget a i973) % (3 : Int))) rfl (x_rem2 (a := lget a i973) (b := (3 : Int)) ((lget a i973) % (3 : Int)) (by kernel_rfl) (by kernel_rfl) (inR_nn re2386) (by decide) rfl (wrap_inR (inR_rem (inR_nn re2386) (by decide) re2386 (by decide)))) ?_)
                have r2387 : inR .i64 ((lget a i973) % (3 : Int)) := inR_up (by decide) (by decide) (inR_rem (inR_nn re2386) (by decide) re2386 (by decide))
                refine sq (o_pv (.int .i64 ((lget a i973) % (3 : Int))) rfl (x_conv (k := .u8) Try.underlying5 Try.underlying3 (by kernel_rfl) (wrap_inR r2387)) ?_)
                refine sq (o_pv (.bool (decide (k2295 < ((lget a i973) % (3 : Int))))) rfl (by kernel_rfl) ?_)
                refine nil_ ?_
                refine then_normal (K2376 _ _ _ _ ?_)
                refine cond_d (k2295 < ((lget a i973) % (3 : Int))) (by kernel_rfl) (fun h2388 => ?_) (fun h2388 => ?_)
                ·
                  replace hp := hp.1 h2388
                  refine wp_skip ?_
                  refine then_normal (K2375 _ _ _ _ ?_)
                  refine seq_ (fun _ K2389 => ?_)
                  refine wp_block ?_
                  refine reg_ ?_
                  refine sq (o_pv (.slice a2291 n2292 c2293) rfl (by kernel_rfl) ?_)
                  refine sq (o_pv (.int .i64 k2295) rfl (by kernel_rfl) ?_)
                  obtain ⟨h2390, hp⟩ := hp
                  refine sq (o_pv (.int .i64 ((48 : Int) + k2295)) rfl (x_add2 (a := (48 : Int)) (b := k2295) ((48 : Int) + k2295) (by kernel_rfl) (by kernel_rfl) (wrap_inR h2390)) ?_)
                  refine sq (o_pv (.int .u8 (iwrap .u8 ((48 : Int) + k2295))) rfl (x_convw (k := .i64) Try.underlying3 Try.underlying5 (by kernel_rfl)) ?_)
                  refine sq (o_rowX (R := (rInt .u8)) [(.int .u8 (iwrap .u8 ((48 : Int) + k2295)))] [iwrap .u8 ((48 : Int) + k2295)] 5 1 (X := X2362) (B := w.heap.size) E2367.size rfl (by kernel_rfl) (Flat.cons (cs := [(.int .u8 (iwrap .u8 ((48 : Int) + k2295)))]) (rInt_mk (inR_iwrap _ _)) Flat.nil) rfl (by decide) ?_)
                  intro b2391 w2392 X2393 s2394 O2395 n2396
                  have p2397 := n2396 _ (OS.old O2373)
                  have p2398 := n2396 _ (OS.old O2294)
                  refine sq (o_pv (.string (strOfNums ([iwrap .u8 ((48 : Int) + k2295)]))) rfl (x_b2s_sl (a := (some ⟨b2391, 0, none⟩)) (len := 1) (c := 1) ([iwrap .u8 ((48 : Int) + k2295)]) Try.underlying25 Try.underlying5 Try.underlying9 (by kernel_rfl) O2395.1 (OS.rd O2395)) ?_)
                  obtain ⟨h2399, hp⟩ := hp
                  refine sq (o_pv (.string ((ByteArray.mk #[120]) ++ (strOfNums ([iwrap .u8 ((48 : Int) + k2295)])))) rfl (x_cat (by kernel_rfl) (by kernel_rfl) h2399) ?_)
                  have O2400 := (OS.step0 O2373 s2394)
                  have O2401 := (OS.step0 O2294 s2394)
                  have E2408 := (Evo.then0 E2367 (Step.evo s2394))
                  refine sq (o_rowX (R := rStr) [(.string ((ByteArray.mk #[120]) ++ (strOfNums ([iwrap .u8 ((48 : Int) + k2295)]))))] [(ByteArray.mk #[120]) ++ (strOfNums ([iwrap .u8 ((48 : Int) + k2295)]))] 9 1 (X := X2393) (B := w.heap.size) E2408.size rfl (by kernel_rfl) (Flat.cons (cs := [(.string ((ByteArray.mk #[120]) ++ (strOfNums ([iwrap .u8 ((48 : Int) + k2295)]))))]) (rStr_mk h2399) Flat.nil) rfl (by decide) ?_)
                  intro b2402 w2403 X2404 s2405 O2406 n2407
                  have p2409 := n2407 _ (OS.old O2400)
                  have p2410 := n2407 _ (OS.old O2401)
                  have p2411 := n2407 _ (OS.old O2395)
                  obtain ⟨h2412, hp⟩ := hp
                  have O2413 := (OS.step0 O2401 s2405)
                  have O2414 := (OS.step0 O2400 s2405)
                  have O2415 := (OS.step0 O2395 s2405)
                  have E2416 := (Evo.then0 E2408 (Step.evo s2405))
                  refine sq (o_appX (R := rStr) (X := X2404) (B := w.heap.size) (L := x2290) (M := [(ByteArray.mk #[120]) ++ (strOfNums ([iwrap .u8 ((48 : Int) + k2295)]))]) rfl elT43 rfl E2416.size O2413 (OS.src O2406) O2406.1 (by kernel_rfl) (by kernel_rfl) h2412 ?_)
                  intro a2417 n2418 c2419 w2420 X2421 s2422 O2423 gr2424
                  have p2425 := gr2424 _ p2374 (OS.old O2414)
                  have p2426 := gr2424 _ (Ap.symm p2398) (OS.old O2415)
                  refine sq (o_pv (.slice a2417 n2418 c2419) rfl (by kernel_rfl) ?_)
                  refine nil_ ?_
                  refine blk_normal ?_
                  refine then_normal (K2389 _ _ _ _ ?_)
                  refine reg_ ?_
                  refine sq (o_pv (.int .i64 k2295) rfl (by kernel_rfl) ?_)
                  obtain ⟨h2427, hp⟩ := hp
                  refine sq (o_pv (.int .i64 (k2295 + (1 : Int))) rfl (x_add2 (a := k2295) (b := (1 : Int)) (k2295 + (1 : Int)) (by kernel_rfl) (by kernel_rfl) (wrap_inR h2427)) ?_)
                  refine sq (o_pv (.int .i64 (k2295 + (1 : Int))) rfl (by kernel_rfl) ?_)
                  refine nil_ ?_
                  have E2428 := (Evo.thenW E2416 (Step.evo s2422) O2413.2.2)
                  have hXo2429 := (Old.step (Old.step (Old.step hXo2368 s2394) s2405) s2422)
                  have hS2430 := (Sub.trans (Sub.trans (Sub.trans hS2369 (Step.up s2394)) (Step.up s2405)) (Step.up s2422))
                  have hcommon2431 := (Sl.step (Sl.step (Sl.step hcommon2370 s2394) s2405) s2422)
                  have ha2432 := (Sl.step (Sl.step (Sl.step ha2371 s2394) s2405) s2422)
                  have hb2433 := (Sl.step (Sl.step (Sl.step hb2372 s2394) s2405) s2422)
                  have O2434 := (OS.step O2414 s2422 p2374)
                  refine then_normal (hA2366 _ _ _ ⟨_, [(7, (.slice a2417 n2418 c2419)), (10, (.int .i64 (k2295 + (1 : Int))))], hp.2, fit_mk (AgB.mix _ _ _) (by kernel_rfl) (vs_cons (by kernel_rfl) (vs_cons (by kernel_rfl) vs_nil)), ?_⟩)
                  exact ⟨X2421, (x2290 ++ ([(ByteArray.mk #[120]) ++ (strOfNums ([iwrap .u8 ((48 : Int) + k2295)]))])), (k2295 + (1 : Int)), a2417, n2418, c2419, rfl, rfl, E2428, hXo2429, hS2430, hcommon2431, ha2432, hb2433, O2434, O2423, p2425, h2427, hp.1⟩
                ·
                  replace hp := hp.2 h2388
                  refine wp_exit ?_
                  refine then_exit ?_
                  refine then_exit ?_
                  refine blk_exit ?_
                  refine then_normal (hJ2216 _ _ _ ⟨[(7, (.slice a2291 n2292 c2293))], fit_mk (AgB.nest (fun _ _ => rfl) (by kernel_rfl) (by kernel_rfl)) (by kernel_rfl) (vs_cons (by kernel_rfl) vs_nil), ?_⟩)
                  exact ⟨X2362, x2290, a2291, n2292, c2293, rfl, E2367, hXo2368, hS2369, hcommon2370, ha2371, hb2372, O2373, O2294, p2374, hp⟩
              ·
                replace hp := hp.2 h2226
                refine wp_skip ?_
                refine then_normal (hJ2216 _ _ _ ⟨[(7, (.slice a964 n965 c966))], fit_mk (fun _ _ => rfl) (by kernel_rfl) (vs_cons (by kernel_rfl) vs_nil), ?_⟩)
                exact ⟨X1959, x963, a964, n965, c966, rfl, E1970, hXo1971, hS1972, hcommon1973, ha1974, hb1975, O972, O967, (Ap.symm p1976), hp⟩
            ·
              rintro _ w2213 g2435 ⟨X2214, x2206, a2207, n2208, c2209, rfl, E2218, hXo2219, hS2220, hcommon2221, ha2222, hb2223, O2224, O2210, p2225, hv2217⟩
              replace hp := hk2212 x2206 hv2217 (OS.len O2210)
              refine then_normal (K1995 _ _ _ _ ?_)
              refine seq_ (fun _ K2436 => ?_)
              refine seq_ (fun _ K2437 => ?_)
              refine reg_ ?_
              refine sq (o_pv (.int .i64 i973) rfl (by kernel_rfl) ?_)
              refine sq (o_pv (.slice ab7 b.length cb8) rfl (by kernel_rfl) ?_)
              refine sq (o_pv (.int .i64 (b.length : Int)) rfl (by kernel_rfl) ?_)
              refine sq (o_pv (.bool (decide (i973 < (b.length : Int)))) rfl (by kernel_rfl) ?_)
              refine nil_ ?_
              refine then_normal (K2437 _ _ _ _ ?_)
              obtain ⟨k2652, hk2653, hp⟩ := hp
              refine ground_ ?_
              refine join_ 618968839051069420038260992 (fun lq w2654 => ∃ (X2655 : List Nat) (y2647 : (List ByteArray)) (a2648 : Option Addr) (n2649 : Nat) (c2650 : Nat), (lq = [(8, (.slice a2648 n2649 c2650))]) ∧ (Evo [] w w2654) ∧ (Old X2655 w2654) ∧ (Sub X X2655) ∧ (Sl rStr X2655 w2654 acommon1 ccommon2 common) ∧ (Sl (rInt .u8) X2655 w2654 aa4 ca5 a) ∧ (Sl (rInt .u8) X2655 w2654 ab7 cb8 b) ∧ (OS rStr ([]) w.heap.size X2655 w2654 9 a2207 n2208 c2209 x2206) ∧ (OS rStr ([]) w.heap.size X2655 w2654 9 a2648 n2649 c2650 y2647) ∧ (Ap (blkL a2207) (blkL a2648)) ∧ (k2652 y2647)) (fun Kj2656 hJ2657 => ?_) ?_
              ·
                refine cond_d (i973 < (b.length : Int)) (by kernel_rfl) (fun h2667 => ?_) (fun h2667 => ?_)
                ·
                  replace hp := hp.1 h2667
                  refine seq_ (fun _ K2668 => ?_)
                  refine reg_ ?_
                  refine sq (o_pv (.int .i64 (0 : Int)) rfl (by kernel_rfl) ?_)
                  refine nil_ ?_
                  refine then_normal (K2668 _ _ _ _ ?_)
                  refine wp_block ?_
                  obtain ⟨I2798, m2799, hI2800, hp⟩ := hp
                  refine loop_ 618968839051069420038260992 (fun kq lq w2802 => ∃ (X2803 : List Nat) (y2731 : (List ByteArray)) (k2736 : Int) (a2732 : Option Addr) (n2733 : Nat) (c2734 : Nat), (lq = [(8, (.slice a2732 n2733 c2734)), (11, (.int .i64 k2736))]) ∧ (kq = m2799 y2731 k2736) ∧ (Evo [] w w2802) ∧ (Old X2803 w2802) ∧ (Sub X X2803) ∧ (Sl rStr X2803 w2802 acommon1 ccommon2 common) ∧ (Sl (rInt .u8) X2803 w2802 aa4 ca5 a) ∧ (Sl (rInt .u8) X2803 w2802 ab7 cb8 b) ∧ (OS rStr ([]) w.heap.size X2803 w2802 9 a2207 n2208 c2209 x2206) ∧ (OS rStr ([]) w.heap.size X2803 w2802 9 a2732 n2733 c2734 y2731) ∧ (Ap (blkL a2207) (blkL a2732)) ∧ (inR .i64 k2736) ∧ (I2798 y2731 k2736)) (m2799 y968 (0 : Int)) [(8, (.slice a969 n970 c971)), (11, (.int .i64 (0 : Int)))] (vs_cons (by kernel_rfl) (vs_cons (by kernel_rfl) vs_nil)) ⟨X2214, y968, (0 : Int), a969, n970, c971, rfl, rfl, E2218, hXo2219, hS2220, hcommon2221, ha2222, hb2223, O2210, O2224, (Ap.symm p2225), (by decide), hI2800⟩ ?_
                  rintro _ _ w2802 g2805 ⟨X2803, y2731, k2736, a2732, n2733, c2734, rfl, rfl, E2808, hXo2809, hS2810, hcommon2811, ha2812, hb2813, O2814, O2735, p2815, rk2737, hI2801⟩ Kl2806 hA2807
                  replace hp := hp y2731 k2736 hI2801 (OS.len O2735) rk2737
                  refine seq_ (fun _ K2816 => ?_)
                  refine seq_ (fun _ K2817 => ?_)
                  refine reg_ ?_
                  refine sq (o_pv (.int .i64 k2736) rfl (by kernel_rfl) ?_)
                  refine sq (o_pv (.slice ab7 b.length cb8) rfl (by kernel_rfl) ?_)
                  refine sq (o_pv (.int .i64 i973) rfl (by kernel_rfl) ?_)
                  obtain ⟨h2818, hp⟩ := hp
                  obtain ⟨b2819, o2820, cs2821, ha2822, nx2823, lt2824, ok2825, hc2826⟩ := Sl.atI hb2813 i973 h2818
                  obtain ⟨rfl, re2827⟩ := ok2825
                  replace hp := hp re2827
                  refine sq (o_pv (.pointer (some ⟨b2819, o2820 + i973.toNat * 1, none⟩)) rfl (x_ixA (m := b.length) (c := cb8) (k := .i64) (i := i973) Try.underlying25 Try.sizeOf5 (by rw [← ha2822]; kernel_rfl) (by kernel_rfl) h2818) ?_)
                  refine sq (o_pv (.int .u8 (lget b i973)) rfl (x_load1 (by kernel_rfl) Try.isAgg5 (hc2826 0 _ rfl)) ?_)
                  refine sq (o_pv (.int .u8 ((lget b i973) % (3 : Int))) rfl (x_rem2 (a := lget b i973) (b := (3 : Int)) ((lget b i973) % (3 : Int)) (by kernel_rfl) (by kernel_rfl) (inR_nn re2827) (by decide) rfl (wrap_inR (inR_rem (inR_nn re2827) (by decide) re2827 (by decide)))) ?_)
                  have r2828 : inR .i64 ((lget b i973) % (3 : Int)) := inR_up (by decide) (by decide) (inR_rem (inR_nn re2827) (by decide) re2827 (by decide))
                  refine sq (o_pv (.int .i64 ((lget b i973) % (3 : Int))) rfl (x_conv (k := .u8) Try.underlying5 Try.underlying3 (by kernel_rfl) (wrap_inR r2828)) ?_)
                  refine sq (o_pv (.bool (decide (k2736 < ((lget b i973) % (3 : Int))))) rfl (by kernel_rfl) ?_)
                  refine nil_ ?_
                  refine then_normal (K2817 _ _ _ _ ?_)
                  refine cond_d (k2736 < ((lget b i973) % (3 : Int))) (by kernel_rfl) (fun h2829 => ?_) (fun h2829 => ?_)
                  ·
                    replace hp := hp.1 h2829
                    refine wp_skip ?_
                    refine then_normal (K2816 _ _ _ _ ?_)
                    refine seq_ (fun _ K2830 => ?_)
                    refine wp_block ?_
                    refine reg_ ?_
                    refine sq (o_pv (.slice a2732 n2733 c2734) rfl (by kernel_rfl) ?_)
                    refine sq (o_pv (.int .i64 k2736) rfl (by kernel_rfl) ?_)
                    obtain ⟨h2831, hp⟩ := hp
                    refine sq (o_pv (.int .i64 ((48 : Int) + k2736)) rfl (x_add2 (a := (48 : Int)) (b := k2736) ((48 : Int) + k2736) (by kernel_rfl) (by kernel_rfl) (wrap_inR h2831)) ?_)
                    refine sq (o_pv (.int .u8 (iwrap .u8 ((48 : Int) + k2736))) rfl (x_convw (k := .i64) Try.underlying3 Try.underlying5 (by kernel_rfl)) ?_)
                    refine sq (o_rowX (R := (rInt .u8)) [(.int .u8 (iwrap .u8 ((48 : Int) + k2736)))] [iwrap .u8 ((48 : Int) + k2736)] 5 1 (X := X2803) (B := w.heap.size) E2808.size rfl (by kernel_rfl) (Flat.cons (cs := [(.int .u8 (iwrap .u8 ((48 : Int) + k2736)))]) (rInt_mk (inR_iwrap _ _)) Flat.nil) rfl (by decide) ?_)
                    intro b2832 w2833 X2834 s2835 O2836 n2837
                    have p2838 := n2837 _ (OS.old O2814)
                    have p2839 := n2837 _ (OS.old O2735)
                    refine sq (o_pv (.string (strOfNums ([iwrap .u8 ((48 : Int) + k2736)]))) rfl (x_b2s_sl (a := (some ⟨b2832, 0, none⟩)) (len := 1) (c := 1) ([iwrap .u8 ((48 : Int) + k2736)]) Try.underlying25 Try.underlying5 Try.underlying9 (by kernel_rfl) O2836.1 (OS.rd O2836)) ?_)
                    obtain ⟨h2840, hp⟩ := hp
                    refine sq (o_pv (.string ((ByteArray.mk #[121]) ++ (strOfNums ([iwrap .u8 ((48 : Int) + k2736)])))) rfl (x_cat (by kernel_rfl) (by kernel_rfl) h2840) ?_)
                    have O2841 := (OS.step0 O2814 s2835)
                    have O2842 := (OS.step0 O2735 s2835)
                    have E2849 := (Evo.then0 E2808 (Step.evo s2835))
                    refine sq (o_rowX (R := rStr) [(.string ((ByteArray.mk #[121]) ++ (strOfNums ([iwrap .u8 ((48 : Int) + k2736)]))))] [(ByteArray.mk #[121]) ++ (strOfNums ([iwrap .u8 ((48 : Int) + k2736)]))] 9 1 (X := X2834) (B := w.heap.size) E2849.size rfl (by kernel_rfl) (Flat.cons (cs := [(.string ((ByteArray.mk #[121]) ++ (strOfNums ([iwrap .u8 ((48 : Int) + k2736)]))))]) (rStr_mk h2840) Flat.nil) rfl (by decide) ?_)
                    intro b2843 w2844 X2845 s2846 O2847 n2848
                    have p2850 := n2848 _ (OS.old O2841)
                    have p2851 := n2848 _ (OS.old O2842)
                    have p2852 := n2848 _ (OS.old O2836)
                    obtain ⟨h2853, hp⟩ := hp
                    have O2854 := (OS.step0 O2842 s2846)
                    have O2855 := (OS.step0 O2841 s2846)
                    have O2856 := (OS.step0 O2836 s2846)
                    have E2857 := (Evo.then0 E2849 (Step.evo s2846))
                    refine sq (o_appX (R := rStr) (X := X2845) (B := w.heap.size) (L := y2731) (M := [(ByteArray.mk #[121]) ++ (strOfNums ([iwrap .u8 ((48 : Int) + k2736)]))]) rfl elT43 rfl E2857.size O2854 (OS.src O2847) O2847.1 (by kernel_rfl) (by kernel_rfl) h2853 ?_)
                    intro a2858 n2859 c2860 w2861 X2862 s2863 O2864 gr2865
                    have p2866 := gr2865 _ p2815 (OS.old O2855)
                    have p2867 := gr2865 _ (Ap.symm p2839) (OS.old O2856)
                    refine sq (o_pv (.slice a2858 n2859 c2860) rfl (by kernel_rfl) ?_)
                    refine nil_ ?_
                    refine blk_normal ?_
                    refine then_normal (K2830 _ _ _ _ ?_)
                    refine reg_ ?_
                    refine sq (o_pv (.int .i64 k2736) rfl (by kernel_rfl) ?_)
                    obtain ⟨h2868, hp⟩ := hp
                    refine sq (o_pv (.int .i64 (k2736 + (1 : Int))) rfl (x_add2 (a := k2736) (b := (1 : Int)) (k2736 + (1 : Int)) (by kernel_rfl) (by kernel_rfl) (wrap_inR h2868)) ?_)
                    refine sq (o_pv (.int .i64 (k2736 + (1 : Int))) rfl (by kernel_rfl) ?_)
                    refine nil_ ?_
                    have E2869 := (Evo.thenW E2857 (Step.evo s2863) O2854.2.2)
                    have hXo2870 := (Old.step (Old.step (Old.step hXo2809 s2835) s2846) s2863)
                    have hS2871 := (Sub.trans (Sub.trans (Sub.trans hS2810 (Step.up s2835)) (Step.up s2846)) (Step.up s2863))
                    have hcommon2872 := (Sl.step (Sl.step (Sl.step hcommon2811 s2835) s2846) s2863)
                    have ha2873 := (Sl.step (Sl.step (Sl.step ha2812 s2835) s2846) s2863)
                    have hb2874 := (Sl.step (Sl.step (Sl.step hb2813 s2835) s2846) s2863)
                    have O2875 := (OS.step O2855 s2863 p2815)
                    refine then_normal (hA2807 _ _ _ ⟨_, [(8, (.slice a2858 n2859 c2860)), (11, (.int .i64 (k2736 + (1 : Int))))], hp.2, fit_mk (AgB.mix _ _ _) (by kernel_rfl) (vs_cons (by kernel_rfl) (vs_cons (by kernel_rfl) vs_nil)), ?_⟩)
                    exact ⟨X2862, (y2731 ++ ([(ByteArray.mk #[121]) ++ (strOfNums ([iwrap .u8 ((48 : Int) + k2736)]))])), (k2736 + (1 : Int)), a2858, n2859, c2860, rfl, rfl, E2869, hXo2870, hS2871, hcommon2872, ha2873, hb2874, O2875, O2864, p2866, h2868, hp.1⟩
                  ·
                    replace hp := hp.2 h2829
                    refine wp_exit ?_
                    refine then_exit ?_
                    refine then_exit ?_
                    refine blk_exit ?_
                    refine then_normal (hJ2657 _ _ _ ⟨[(8, (.slice a2732 n2733 c2734))], fit_mk (AgB.nest (fun _ _ => rfl) (by kernel_rfl) (by kernel_rfl)) (by kernel_rfl) (vs_cons (by kernel_rfl) vs_nil), ?_⟩)
                    exact ⟨X2803, y2731, a2732, n2733, c2734, rfl, E2808, hXo2809, hS2810, hcommon2811, ha2812, hb2813, O2814, O2735, p2815, hp⟩
                ·
                  replace hp := hp.2 h2667
                  refine wp_skip ?_
                  refine then_normal (hJ2657 _ _ _ ⟨[(8, (.slice a969 n970 c971))], fit_mk (fun _ _ => rfl) (by kernel_rfl) (vs_cons (by kernel_rfl) vs_nil), ?_⟩)
                  exact ⟨X2214, y968, a969, n970, c971, rfl, E2218, hXo2219, hS2220, hcommon2221, ha2222, hb2223, O2210, O2224, (Ap.symm p2225), hp⟩
              ·
                rintro _ w2654 g2876 ⟨X2655, y2647, a2648, n2649, c2650, rfl, E2659, hXo2660, hS2661, hcommon2662, ha2663, hb2664, O2665, O2651, p2666, hv2658⟩
                replace hp := hk2653 y2647 hv2658 (OS.len O2651)
                refine then_normal (K2436 _ _ _ _ ?_)
                refine seq_ (fun _ K2877 => ?_)
                refine reg_ ?_
                refine sq (o_pv (.slice a2207 n2208 c2209) rfl (by kernel_rfl) ?_)
                refine sq (o_pv (.slice acommon1 common.length ccommon2) rfl (by kernel_rfl) ?_)
                refine sq (o_pv (.int .i64 i973) rfl (by kernel_rfl) ?_)
                obtain ⟨h2878, hp⟩ := hp
                obtain ⟨b2879, o2880, cs2881, ha2882, nx2883, lt2884, ok2885, hc2886⟩ := Sl.atI hcommon2662 i973 h2878
                obtain ⟨rfl, ze2887⟩ := ok2885
                replace hp := hp ze2887
                refine sq (o_pv (.pointer (some ⟨b2879, o2880 + i973.toNat * 1, none⟩)) rfl (x_ixA (m := common.length) (c := ccommon2) (k := .i64) (i := i973) Try.underlying43 Try.sizeOf9 (by rw [← ha2882]; kernel_rfl) (by kernel_rfl) h2878) ?_)
                refine sq (o_pv (.string (lget common i973)) rfl (x_load1 (by kernel_rfl) Try.isAgg9 (hc2886 0 _ rfl)) ?_)
                refine sq (o_rowX (R := rStr) [(.string (lget common i973))] [lget common i973] 9 1 (X := X2655) (B := w.heap.size) E2659.size rfl (by kernel_rfl) (Flat.cons (cs := [(.string (lget common i973))]) (rStr_mk ze2887) Flat.nil) rfl (by decide) ?_)
                intro b2888 w2889 X2890 s2891 O2892 n2893
                have p2894 := n2893 _ (OS.old O2665)
                have p2895 := n2893 _ (OS.old O2651)
                obtain ⟨h2896, hp⟩ := hp
                have O2897 := (OS.step0 O2665 s2891)
                have O2898 := (OS.step0 O2651 s2891)
                have E2899 := (Evo.then0 E2659 (Step.evo s2891))
                refine sq (o_appX (R := rStr) (X := X2890) (B := w.heap.size) (L := x2206) (M := [lget common i973]) rfl elT43 rfl E2899.size O2897 (OS.src O2892) O2892.1 (by kernel_rfl) (by kernel_rfl) h2896 ?_)
                intro a2900 n2901 c2902 w2903 X2904 s2905 O2906 gr2907
                have p2908 := gr2907 _ (Ap.symm p2666) (OS.old O2898)
                refine sq (o_pv (.slice a2900 n2901 c2902) rfl (by kernel_rfl) ?_)
                refine nil_ ?_
                refine then_normal (K2877 _ _ _ _ ?_)
                refine reg_ ?_
                refine sq (o_pv (.slice a2648 n2649 c2650) rfl (by kernel_rfl) ?_)
                refine sq (o_pv (.slice acommon1 common.length ccommon2) rfl (by kernel_rfl) ?_)
                refine sq (o_pv (.int .i64 i973) rfl (by kernel_rfl) ?_)
                obtain ⟨h2909, hp⟩ := hp
                have hcommon2910 := (Sl.step (Sl.step hcommon2662 s2891) s2905)
                obtain ⟨b2911, o2912, cs2913, ha2914, nx2915, lt2916, ok2917, hc2918⟩ := Sl.atI hcommon2910 i973 h2909
                obtain ⟨rfl, ze2919⟩ := ok2917
                replace hp := hp ze2919
                refine sq (o_pv (.pointer (some ⟨b2911, o2912 + i973.toNat * 1, none⟩)) rfl (x_ixA (m := common.length) (c := ccommon2) (k := .i64) (i := i973) Try.underlying43 Try.sizeOf9 (by rw [← ha2914]; kernel_rfl) (by kernel_rfl) h2909) ?_)
                refine sq (o_pv (.string (lget common i973)) rfl (x_load1 (by kernel_rfl) Try.isAgg9 (hc2918 0 _ rfl)) ?_)
                have O2920 := (OS.step O2898 s2905 (Ap.symm p2666))
                have E2927 := (Evo.thenW E2899 (Step.evo s2905) O2897.2.2)
                refine sq (o_rowX (R := rStr) [(.string (lget common i973))] [lget common i973] 9 1 (X := X2904) (B := w.heap.size) E2927.size rfl (by kernel_rfl) (Flat.cons (cs := [(.string (lget common i973))]) (rStr_mk ze2919) Flat.nil) rfl (by decide) ?_)
                intro b2921 w2922 X2923 s2924 O2925 n2926
                have p2928 := n2926 _ (OS.old O2920)
                have p2929 := n2926 _ (OS.old O2906)
                obtain ⟨h2930, hp⟩ := hp
                have O2931 := (OS.step0 O2920 s2924)
                have O2932 := (OS.step0 O2906 s2924)
                have E2933 := (Evo.then0 E2927 (Step.evo s2924))
                refine sq (o_appX (R := rStr) (X := X2923) (B := w.heap.size) (L := y2647) (M := [lget common i973]) rfl elT43 rfl E2933.size O2931 (OS.src O2925) O2925.1 (by kernel_rfl) (by kernel_rfl) h2930 ?_)
                intro a2934 n2935 c2936 w2937 X2938 s2939 O2940 gr2941
                have p2942 := gr2941 _ (Ap.symm p2908) (OS.old O2932)
                refine sq (o_pv (.slice a2934 n2935 c2936) rfl (by kernel_rfl) ?_)
                refine nil_ ?_
                refine blk_normal ?_
                refine then_normal (K1980 _ _ _ _ ?_)
                refine reg_ ?_
                refine sq (o_pv (.int .i64 i973) rfl (by kernel_rfl) ?_)
                obtain ⟨h2943, hp⟩ := hp
                refine sq (o_pv (.int .i64 (i973 + (1 : Int))) rfl (x_add2 (a := i973) (b := (1 : Int)) (i973 + (1 : Int)) (by kernel_rfl) (by kernel_rfl) (wrap_inR h2943)) ?_)
                refine sq (o_pv (.int .i64 (i973 + (1 : Int))) rfl (by kernel_rfl) ?_)
                refine nil_ ?_
                have E2944 := (Evo.thenW E2933 (Step.evo s2939) O2931.2.2)
                have hXo2945 := (Old.step (Old.step (Old.step (Old.step hXo2660 s2891) s2905) s2924) s2939)
                have hS2946 := (Sub.trans (Sub.trans (Sub.trans (Sub.trans hS2661 (Step.up s2891)) (Step.up s2905)) (Step.up s2924)) (Step.up s2939))
                have hcommon2947 := (Sl.step (Sl.step hcommon2910 s2924) s2939)
                have ha2948 := (Sl.step (Sl.step (Sl.step (Sl.step ha2663 s2891) s2905) s2924) s2939)
                have hb2949 := (Sl.step (Sl.step (Sl.step (Sl.step hb2664 s2891) s2905) s2924) s2939)
                have O2950 := (OS.step O2932 s2939 (Ap.symm p2908))
                refine then_normal (hA1963 _ _ _ ⟨_, [(7, (.slice a2900 n2901 c2902)), (8, (.slice a2934 n2935 c2936)), (9, (.int .i64 (i973 + (1 : Int))))], hp.2, fit_mk (AgB.nest (AgB.look (AgB.nest (AgB.look (AgB.mix _ _ _) (by kernel_rfl)) (by kernel_rfl) (by kernel_rfl)) (by kernel_rfl)) (by kernel_rfl) (by kernel_rfl)) (by kernel_rfl) (vs_cons (by kernel_rfl) (vs_cons (by kernel_rfl) (vs_cons (by kernel_rfl) vs_nil))), ?_⟩)
                exact ⟨X2938, (x2206 ++ ([lget common i973])), (y2647 ++ ([lget common i973])), (i973 + (1 : Int)), a2900, n2901, c2902, a2934, n2935, c2936, rfl, rfl, E2944, hXo2945, hS2946, hcommon2947, ha2948, hb2949, O2950, O2940, p2942, h2943, hp.1⟩
        ·
          replace hp := hp.2 h1979
          refine wp_exit ?_
          refine then_exit ?_
          refine then_exit ?_
          refine blk_exit ?_
          refine then_normal (K34 _ _ _ _ ?_)
          refine seq_ (fun _ K2951 => ?_)
          refine reg_ ?_
          refine sq (o_pv (.slice a964 n965 c966) rfl (by kernel_rfl) ?_)
          refine sq (o_pv (.slice a969 n970 c971) rfl (by kernel_rfl) ?_)
          refine sq (o_call 30 #[(.slice a964 x963.length c966), (.slice a969 y968.length c971)] rfl (x_call Try.call30 (by rw [← show n965 = x963.length from O967.1, ← show n970 = y968.length from O972.1]; kernel_rfl)) (diff_Common_w (X := X) (a := x963) (b := y968) (Old.less hXo1971 hS1972) (OS.out O967 hS1972 hX0) (OS.out O972 hS1972 hX0) hp) ?_)
          rintro _ w2954 ⟨r2952, r2953, hp, e2955, vr2958, rfl, rr2957, hr2959⟩
          have s2956 := Step.of0 X1959 e2955
          replace hp := hp rr2957
          refine sq (o_pv (.tuple #[(.int .i64 r2952), vr2958]) rfl (by kernel_rfl) ?_)
          refine sq (o_pv (.int .i64 r2952) rfl (by kernel_rfl) ?_)
          refine sq (o_pv vr2958 rfl (by kernel_rfl) ?_)
          refine sq (o_pv (.int .i64 r2952) rfl (by kernel_rfl) ?_)
          refine sq (o_pv vr2958 rfl (by kernel_rfl) ?_)
          refine nil_ ?_
          refine then_normal (K2951 _ _ _ _ ?_)
          refine seq_ (fun _ K2960 => ?_)
          refine reg_ ?_
          refine sq (o_pv (.slice a969 n970 c971) rfl (by kernel_rfl) ?_)
          refine sq (o_pv (.slice a964 n965 c966) rfl (by kernel_rfl) ?_)
          have O2961 := (OS.step0 O972 s2956)
          have hS2962 := (Sub.trans hS1972 (Step.up s2956))
          have O2963 := (OS.step0 O967 s2956)
          have hXo2964 := (Old.step hXo1971 s2956)
          refine sq (o_call 30 #[(.slice a969 y968.length c971), (.slice a964 x963.length c966)] rfl (x_call Try.call30 (by rw [← show n970 = y968.length from O2961.1, ← show n965 = x963.length from O2963.1]; kernel_rfl)) (diff_Common_w (X := X) (a := y968) (b := x963) (Old.less hXo2964 hS2962) (OS.out O2961 hS2962 hX0) (OS.out O2963 hS2962 hX0) hp) ?_)
          rintro _ w2967 ⟨r2965, r2966, hp, e2968, vr2971, rfl, rr2970, hr2972⟩
          have s2969 := Step.of0 X1959 e2968
          replace hp := hp rr2970
          refine sq (o_pv (.tuple #[(.int .i64 r2965), vr2971]) rfl (by kernel_rfl) ?_)
          refine sq (o_pv (.int .i64 r2965) rfl (by kernel_rfl) ?_)
          refine sq (o_pv vr2971 rfl (by kernel_rfl) ?_)
          refine sq (o_pv (.int .i64 r2965) rfl (by kernel_rfl) ?_)
          refine sq (o_pv vr2971 rfl (by kernel_rfl) ?_)
          refine nil_ ?_
          refine then_normal (K2960 _ _ _ _ ?_)
          refine seq_ (fun _ K2973 => ?_)
          refine ground_ ?_
          refine join_ 5444476332360147136792965474937657622592 (fun lq w2979 => lq = [(6, (.bool (decide ((r2953.isNil = true) ∧ ((r2966.isNil = true) ∧ ((r2952 ≥ (common.length : Int)) ∧ (r2952 = r2965)))))))] ∧ w2967 = w2979) (fun Kj2977 hJ2978 => ?_) ?_
          ·
            refine reg_ ?_
            refine sq (o_pv vr2958 rfl (by kernel_rfl) ?_)
            by_cases h2981 : r2953.isNil = true
            ·
              refine sq (o_pv (.bool true) rfl (x_bt (x_err_eq r2953 hr2959 Try.underlying40 (by kernel_rfl)) h2981) ?_)
              refine sq (o_pv (.bool true) rfl (by kernel_rfl) ?_)
              refine sq (o_pv vr2971 (by kernel_rfl) (by kernel_rfl) ?_)
              by_cases h2982 : r2966.isNil = true
              ·
                refine sq (o_pv (.bool true) (by kernel_rfl) (x_bt (x_err_eq r2966 hr2972 Try.underlying40 (by kernel_rfl)) h2982) ?_)
                refine sq (o_pv (.bool true) rfl (by kernel_rfl) ?_)
                refine sq (o_pv (.bool true) rfl (by kernel_rfl) ?_)
                refine sq (o_pv (.int .i64 r2952) (by kernel_rfl) (by kernel_rfl) ?_)
                refine sq (o_pv (.slice acommon1 common.length ccommon2) (by kernel_rfl) (by kernel_rfl) ?_)
                refine sq (o_pv (.int .i64 (common.length : Int)) (by kernel_rfl) (by kernel_rfl) ?_)
                by_cases h2983 : r2952 ≥ (common.length : Int)
                ·
                  refine sq (o_pv (.bool true) (by kernel_rfl) (x_dt (p := r2952 ≥ (common.length : Int)) (by kernel_rfl) h2983) ?_)
                  refine sq (o_pv (.bool true) rfl (by kernel_rfl) ?_)
                  refine sq (o_pv (.bool true) rfl (by kernel_rfl) ?_)
                  refine sq (o_pv (.int .i64 r2952) (by kernel_rfl) (by kernel_rfl) ?_)
                  refine sq (o_pv (.int .i64 r2965) (by kernel_rfl) (by kernel_rfl) ?_)
                  refine sq (o_pv (.bool (decide (r2952 = r2965))) (by kernel_rfl) (by kernel_rfl) ?_)
                  refine sq (o_pv (.bool (decide (r2952 = r2965))) rfl (by kernel_rfl) ?_)
                  refine sq (o_pv (.bool (decide (r2952 = r2965))) rfl (by kernel_rfl) ?_)
                  refine nil_ ?_
                  refine then_normal (hJ2978 _ _ _ ⟨[(6, (.bool (decide ((r2953.isNil = true) ∧ ((r2966.isNil = true) ∧ ((r2952 ≥ (common.length : Int)) ∧ (r2952 = r2965)))))))], fit_mk (fun _ _ => rfl) (by kernel_rfl) (vs_cons (Eq.trans (b := (.bool (decide (r2952 = r2965)))) (by kernel_rfl) (dec_d ((and_iff_right h2981).trans ((and_iff_right h2982).trans ((and_iff_right h2983).trans Iff.rfl)))).symm) vs_nil), rfl, rfl⟩)
                ·
                  refine sq (o_pv (.bool false) (by kernel_rfl) (x_df (p := r2952 ≥ (common.length : Int)) (by kernel_rfl) h2983) ?_)
                  refine sq (o_pv (.bool false) rfl (by kernel_rfl) ?_)
                  refine sq (o_pv (.bool false) rfl (by kernel_rfl) ?_)
                  refine sq (o_not (by kernel_rfl) ?_)
                  refine sq (o_not (by kernel_rfl) ?_)
                  refine sq (o_not (by kernel_rfl) ?_)
                  refine sq (o_pv (.bool false) rfl (by kernel_rfl) ?_)
                  refine sq (o_pv (.bool false) rfl (by kernel_rfl) ?_)
                  refine nil_ ?_
                  refine then_normal (hJ2978 _ _ _ ⟨[(6, (.bool (decide ((r2953.isNil = true) ∧ ((r2966.isNil = true) ∧ ((r2952 ≥ (common.length : Int)) ∧ (r2952 = r2965)))))))], fit_mk (fun _ _ => rfl) (by kernel_rfl) (vs_cons (Eq.trans (b := (.bool false)) (by kernel_rfl) (dec_f ((and_iff_right h2981).trans ((and_iff_right h2982).trans (iff_false_intro (fun h => h2983 h.1))))).symm) vs_nil), rfl, rfl⟩)
              ·
                refine sq (o_pv (.bool false) (by kernel_rfl) (x_bf (x_err_eq r2966 hr2972 Try.underlying40 (by kernel_rfl)) h2982) ?_)
                refine sq (o_pv (.bool false) rfl (by kernel_rfl) ?_)
                refine sq (o_pv (.bool false) rfl (by kernel_rfl) ?_)
                refine sq (o_not (by kernel_rfl) ?_)
                refine sq (o_not (by kernel_rfl) ?_)
                refine sq (o_not (by kernel_rfl) ?_)
                refine sq (o_not (by kernel_rfl) ?_)
                refine sq (o_pv (.bool false) rfl (by kernel_rfl) ?_)
                refine sq (o_pv (.bool false) rfl (by kernel_rfl) ?_)
                refine sq (o_not (by kernel_rfl) ?_)
                refine sq (o_not (by kernel_rfl) ?_)
                refine sq (o_not (by kernel_rfl) ?_)
                refine sq (o_pv (.bool false) rfl (by kernel_rfl) ?_)
                refine sq (o_pv (.bool false) rfl (by kernel_rfl) ?_)
                refine nil_ ?_
                refine then_normal (hJ2978 _ _ _ ⟨[(6, (.bool (decide ((r2953.isNil = true) ∧ ((r2966.isNil = true) ∧ ((r2952 ≥ (common.length : Int)) ∧ (r2952 = r2965)))))))], fit_mk (fun _ _ => rfl) (by kernel_rfl) (vs_cons (Eq.trans (b := (.bool false)) (by kernel_rfl) (dec_f ((and_iff_right h2981).trans (iff_false_intro (fun h => h2982 h.1)))).symm) vs_nil), rfl, rfl⟩)
            ·
              refine sq (o_pv (.bool false) rfl (x_bf (x_err_eq r2953 hr2959 Try.underlying40 (by kernel_rfl)) h2981) ?_)
              refine sq (o_pv (.bool false) rfl (by kernel_rfl) ?_)
              refine sq (o_not (by kernel_rfl) ?_)
              refine sq (o_not (by kernel_rfl) ?_)
              refine sq (o_pv (.bool false) rfl (by kernel_rfl) ?_)
              refine sq (o_pv (.bool false) rfl (by kernel_rfl) ?_)
              refine sq (o_not (by kernel_rfl) ?_)
              refine sq (o_not (by kernel_rfl) ?_)
              refine sq (o_not (by kernel_rfl) ?_)
              refine sq (o_not (by kernel_rfl) ?_)
              refine sq (o_pv (.bool false) rfl (by kernel_rfl) ?_)
              refine sq (o_pv (.bool false) rfl (by kernel_rfl) ?_)
              refine sq (o_not (by kernel_rfl) ?_)
              refine sq (o_not (by kernel_rfl) ?_)
              refine sq (o_not (by kernel_rfl) ?_)
              refine sq (o_pv (.bool false) rfl (by kernel_rfl) ?_)
              refine sq (o_pv (.bool false) rfl (by kernel_rfl) ?_)
              refine nil_ ?_
              refine then_normal (hJ2978 _ _ _ ⟨[(6, (.bool (decide ((r2953.isNil = true) ∧ ((r2966.isNil = true) ∧ ((r2952 ≥ (common.length : Int)) ∧ (r2952 = r2965)))))))], fit_mk (fun _ _ => rfl) (by kernel_rfl) (vs_cons (Eq.trans (b := (.bool false)) (by kernel_rfl) (dec_f (iff_false_intro (fun h => h2981 h.1))).symm) vs_nil), rfl, rfl⟩)
          ·
            rintro _ w2979 g2980 ⟨rfl, hw⟩
            subst hw
            refine then_normal (K2973 _ _ _ _ ?_)
            refine wp_ret ?_
            have E2984 := (Evo.then0 (Evo.then0 E1970 e2955) e2968)
            refine end_ret hQ (.bool (decide ((r2953.isNil = true) ∧ ((r2966.isNil = true) ∧ ((r2952 ≥ (common.length : Int)) ∧ (r2952 = r2965)))))) (by kernel_rfl) ?_
            exact ⟨(decide ((r2953.isNil = true) ∧ ((r2966.isNil = true) ∧ ((r2952 ≥ (common.length : Int)) ∧ (r2952 = r2965))))), hp, E2984, rfl⟩

def rectolaw11_DiffTurned_p (a : (List ByteArray)) (b : (List ByteArray)) (Q : Bool → Prop) : Prop :=
  ((a.length ≤ 9223372036854775807) → ((b.length ≤ 9223372036854775807) → (rectolaw11_known_p  (fun (r10 : Bool) => ((((!r10) = true) → Q false) ∧ (((!r10) = false) → (∃ k27 : Bool → Prop, (∀ (s26 : Bool), k27 s26 → (((s26 = true) → Q true) ∧ ((s26 = false) → (diff_Lines_p a b (fun (r68 : (List S_diff_Edit)) (r69 : PErr) => ((r68.length ≤ 9223372036854775807) → (diff_Lines_p b a (fun (r82 : (List S_diff_Edit)) (r83 : PErr) => ((r82.length ≤ 9223372036854775807) → (diff_Common_p a b (fun (r96 : Int) (r97 : PErr) => ((inR .i64 r96) → (∃ k144 : Bool → Prop, (∀ (s143 : Bool), k144 s143 → Q s143) ∧ (((r69.isNil = true) → (((r83.isNil = true) → (((r97.isNil = true) → (diff_Cost_p r68 (fun (r166 : Int) => ((inR .i64 r166) → (diff_Cost_p r82 (fun (r172 : Int) => ((inR .i64 r172) → (((r166 = r172) → (diff_Cost_p r68 (fun (r179 : Int) => ((inR .i64 r179) → ((inR .i64 ((a.length : Int) + (b.length : Int))) ∧ ((inR .i64 ((2 : Int) * r96)) ∧ ((inR .i64 (((a.length : Int) + (b.length : Int)) - ((2 : Int) * r96))) ∧ (((r179 = (((a.length : Int) + (b.length : Int)) - ((2 : Int) * r96))) → (diff_Cost_p r68 (fun (r189 : Int) => ((inR .i64 r189) → (rectoref11_Equal_p a b (fun (r196 : Bool) => (k144 (decide (((decide (r189 = (0 : Int))) : Bool) = r196))))))))) ∧ ((¬ (r179 = (((a.length : Int) + (b.length : Int)) - ((2 : Int) * r96)))) → (k144 false)))))))))) ∧ ((¬ (r166 = r172)) → (k144 false)))))))))) ∧ ((¬ (r97.isNil = true)) → (k144 false)))) ∧ ((¬ (r83.isNil = true)) → (k144 false)))) ∧ ((¬ (r69.isNil = true)) → (k144 false)))))))))))))))) ∧ (rectolaw11_Few_p a b (fun (r44 : Bool) => (((r44 = true) → ((((a.length : Int) > (256 : Int)) → (k27 true)) ∧ ((¬ ((a.length : Int) > (256 : Int))) → (k27 (decide ((b.length : Int) > (256 : Int))))))) ∧ ((r44 = false) → (k27 true))))))))))))
set_option maxRecDepth 20000 in
set_option maxHeartbeats 4000000 in
theorem rectolaw11_DiffTurned_w {X : List Nat} {w : World} {a : (List ByteArray)} {b : (List ByteArray)} {aa1 : Option Addr} {ca2 : Nat} {ab4 : Option Addr} {cb5 : Nat} {Q : Bool → Prop} (hX0 : Old X w) (ha3 : Sl rStr X w aa1 ca2 a) (hb6 : Sl rStr X w ab4 cb5 b) (hp : rectolaw11_DiffTurned_p a b Q) :
    Calls Try.prog 6 #[(.slice aa1 a.length ca2), (.slice ab4 b.length cb5)] w (Ret fun v w' => ∃ (r0 : Bool), Q r0 ∧ Evo [] w w' ∧ v = (.bool r0)) := by
  have hXo := hX0
  have E0 : Evo [] w w := RB.refl _ _ _
  have hS : Sub X X := Sub.refl _
  unfold rectolaw11_DiffTurned_p at hp
  refine enter_ Try.func6 rfl 84 [(0, (.slice aa1 a.length ca2)), (1, (.slice ab4 b.length cb5))] (by kernel_rfl) (fun Qe hQ => ?_)
  replace hp := hp (Sl.len ha3)
  replace hp := hp (Sl.len hb6)
  refine seq_ (fun _ K7 => ?_)
  refine reg_ ?_
  refine sq (o_pv (.bool false) rfl (by kernel_rfl) ?_)
  refine nil_ ?_
  refine then_normal (K7 _ _ _ _ ?_)
  refine seq_ (fun _ K8 => ?_)
  refine seq_ (fun _ K9 => ?_)
  refine reg_ ?_
  refine sq (o_call 26 #[] rfl (x_call Try.call26 (by kernel_rfl)) (rectolaw11_known_w (X := [])  (Old.nil _) hp) ?_)
  rintro _ w11 ⟨r10, hp, e12, rfl⟩
  have s13 := Step.of0 X e12
  refine sq (o_pv (.bool (!r10)) rfl (by kernel_rfl) ?_)
  refine nil_ ?_
  refine then_normal (K9 _ _ _ _ ?_)
  refine cond_b (!r10) (by kernel_rfl) (fun h14 => ?_) (fun h14 => ?_)
  ·
    replace hp := hp.1 h14
    refine seq_ (fun _ K15 => ?_)
    refine reg_ ?_
    refine sq (o_pv (.bool false) rfl (by kernel_rfl) ?_)
    refine nil_ ?_
    refine then_normal (K15 _ _ _ _ ?_)
    refine wp_ret ?_
    refine then_ret ?_
    have E16 := (Evo.then0 E0 e12)
    refine end_ret hQ (.bool false) (by kernel_rfl) ?_
    exact ⟨false, hp, E16, rfl⟩
  ·
    replace hp := hp.2 h14
    refine wp_skip ?_
    refine then_normal (K8 _ _ _ _ ?_)
    refine seq_ (fun _ K17 => ?_)
    refine seq_ (fun _ K18 => ?_)
    have ha34 := (Sl.step ha3 s13)
    have hb35 := (Sl.step hb6 s13)
    have hXo36 := (Old.step hXo s13)
    have E37 := (Evo.then0 E0 e12)
    have hS38 := (Sub.trans hS (Step.up s13))
    obtain ⟨k27, hk28, hp⟩ := hp
    refine ground_ ?_
    refine join_ 134209536 (fun lq w29 => ∃ (X30 : List Nat) (s26 : Bool), (lq = [(26, (.bool s26))]) ∧ (Evo [] w w29) ∧ (Old X30 w29) ∧ (Sub X X30) ∧ (Sl rStr X30 w29 aa1 ca2 a) ∧ (Sl rStr X30 w29 ab4 cb5 b) ∧ (k27 s26)) (fun Kj31 hJ32 => ?_) ?_
    ·
      refine reg_ ?_
      refine sq (o_pv (.slice aa1 a.length ca2) rfl (by kernel_rfl) ?_)
      refine sq (o_pv (.slice ab4 b.length cb5) rfl (by kernel_rfl) ?_)
      refine sq (o_call 27 #[(.slice aa1 a.length ca2), (.slice ab4 b.length cb5)] rfl (x_call Try.call27 (by kernel_rfl)) (rectolaw11_Few_w (X := []) (a := a) (b := b) (Old.nil _) (Sl.less ha34 (Sub.nil _)) (Sl.less hb35 (Sub.nil _)) hp) ?_)
      rintro _ w45 ⟨r44, hp, e46, rfl⟩
      have s47 := Step.of0 X e46
      cases r44
      ·
        replace hp := hp.2 rfl
        refine sq (o_pv (.bool true) rfl (by kernel_rfl) ?_)
        refine sq (o_pv (.bool true) rfl (by kernel_rfl) ?_)
        refine sq (o_not (by kernel_rfl) ?_)
        refine sq (o_not (by kernel_rfl) ?_)
        refine sq (o_not (by kernel_rfl) ?_)
        refine sq (o_pv (.bool true) rfl (by kernel_rfl) ?_)
        refine sq (o_pv (.bool true) rfl (by kernel_rfl) ?_)
        refine sq (o_not (by kernel_rfl) ?_)
        refine sq (o_not (by kernel_rfl) ?_)
        refine sq (o_not (by kernel_rfl) ?_)
        refine sq (o_pv (.bool true) rfl (by kernel_rfl) ?_)
        refine nil_ ?_
        have E48 := (Evo.then0 E37 e46)
        have hXo49 := (Old.step hXo36 s47)
        have hS50 := (Sub.trans hS38 (Step.up s47))
        have ha51 := (Sl.step ha34 s47)
        have hb52 := (Sl.step hb35 s47)
        refine then_normal (hJ32 _ _ _ ⟨[(26, (.bool true))], fit_mk (fun _ _ => rfl) (by kernel_rfl) (vs_cons (by kernel_rfl) vs_nil), ?_⟩)
        exact ⟨X, true, rfl, E48, hXo49, hS50, ha51, hb52, hp⟩
      ·
        replace hp := hp.1 rfl
        refine sq (o_pv (.bool false) rfl (by kernel_rfl) ?_)
        refine sq (o_pv (.bool false) rfl (by kernel_rfl) ?_)
        refine sq (o_pv (.slice aa1 a.length ca2) (by kernel_rfl) (by kernel_rfl) ?_)
        refine sq (o_pv (.int .i64 (a.length : Int)) (by kernel_rfl) (by kernel_rfl) ?_)
        by_cases h53 : (a.length : Int) > (256 : Int)
        ·
          replace hp := hp.1 h53
          refine sq (o_pv (.bool true) (by kernel_rfl) (x_dt (p := (a.length : Int) > (256 : Int)) (by kernel_rfl) h53) ?_)
          refine sq (o_pv (.bool true) rfl (by kernel_rfl) ?_)
          refine sq (o_pv (.bool true) rfl (by kernel_rfl) ?_)
          refine sq (o_not (by kernel_rfl) ?_)
          refine sq (o_not (by kernel_rfl) ?_)
          refine sq (o_not (by kernel_rfl) ?_)
          refine sq (o_pv (.bool true) rfl (by kernel_rfl) ?_)
          refine nil_ ?_
          have E54 := (Evo.then0 E37 e46)
          have hXo55 := (Old.step hXo36 s47)
          have hS56 := (Sub.trans hS38 (Step.up s47))
          have ha57 := (Sl.step ha34 s47)
          have hb58 := (Sl.step hb35 s47)
          refine then_normal (hJ32 _ _ _ ⟨[(26, (.bool true))], fit_mk (fun _ _ => rfl) (by kernel_rfl) (vs_cons (by kernel_rfl) vs_nil), ?_⟩)
          exact ⟨X, true, rfl, E54, hXo55, hS56, ha57, hb58, hp⟩
        ·
          replace hp := hp.2 h53
          refine sq (o_pv (.bool false) (by kernel_rfl) (x_df (p := (a.length : Int) > (256 : Int)) (by kernel_rfl) h53) ?_)
          refine sq (o_pv (.bool false) rfl (by kernel_rfl) ?_)
          refine sq (o_pv (.bool false) rfl (by kernel_rfl) ?_)
          refine sq (o_pv (.slice ab4 b.length cb5) (by kernel_rfl) (by kernel_rfl) ?_)
          refine sq (o_pv (.int .i64 (b.length : Int)) (by kernel_rfl) (by kernel_rfl) ?_)
          refine sq (o_pv (.bool (decide ((b.length : Int) > (256 : Int)))) (by kernel_rfl) (by kernel_rfl) ?_)
          refine sq (o_pv (.bool (decide ((b.length : Int) > (256 : Int)))) rfl (by kernel_rfl) ?_)
          refine nil_ ?_
          have E59 := (Evo.then0 E37 e46)
          have hXo60 := (Old.step hXo36 s47)
          have hS61 := (Sub.trans hS38 (Step.up s47))
          have ha62 := (Sl.step ha34 s47)
          have hb63 := (Sl.step hb35 s47)
          refine then_normal (hJ32 _ _ _ ⟨[(26, (.bool (decide ((b.length : Int) > (256 : Int)))))], fit_mk (fun _ _ => rfl) (by kernel_rfl) (vs_cons (by kernel_rfl) vs_nil), ?_⟩)
          exact ⟨X, (decide ((b.length : Int) > (256 : Int))), rfl, E59, hXo60, hS61, ha62, hb63, hp⟩
    ·
      rintro _ w29 g64 ⟨X30, s26, rfl, E39, hXo40, hS41, ha42, hb43, hv33⟩
      replace hp := hk28 s26 hv33
      refine then_normal (K18 _ _ _ _ ?_)
      refine cond_b s26 (by kernel_rfl) (fun h65 => ?_) (fun h65 => ?_)
      ·
        replace hp := hp.1 h65
        refine seq_ (fun _ K66 => ?_)
        refine reg_ ?_
        refine sq (o_pv (.bool true) rfl (by kernel_rfl) ?_)
        refine nil_ ?_
        refine then_normal (K66 _ _ _ _ ?_)
        refine wp_ret ?_
        refine then_ret ?_
        refine end_ret hQ (.bool true) (by kernel_rfl) ?_
        exact ⟨true, hp, E39, rfl⟩
      ·
        replace hp := hp.2 h65
        refine wp_skip ?_
        refine then_normal (K17 _ _ _ _ ?_)
        refine seq_ (fun _ K67 => ?_)
        refine reg_ ?_
        refine sq (o_pv (.slice aa1 a.length ca2) rfl (by kernel_rfl) ?_)
        refine sq (o_pv (.slice ab4 b.length cb5) rfl (by kernel_rfl) ?_)
        refine sq (o_call 28 #[(.slice aa1 a.length ca2), (.slice ab4 b.length cb5)] rfl (x_call Try.call28 (by kernel_rfl)) (diff_Lines_w (X := X30) (a := a) (b := b) hXo40 ha42 hb43 hp) ?_)
        rintro _ w70 ⟨r68, r69, hp, e71, ar73, cr74, vr76, rfl, hr75, hr77⟩
        have s72 := Step.of0 X30 e71
        replace hp := hp (Sl.len hr75)
        refine sq (o_pv (.tuple #[(.slice ar73 r68.length cr74), vr76]) rfl (by kernel_rfl) ?_)
        refine sq (o_pv (.slice ar73 r68.length cr74) rfl (by kernel_rfl) ?_)
        refine sq (o_pv vr76 rfl (by kernel_rfl) ?_)
        refine sq (o_pv (.slice ar73 r68.length cr74) rfl (by kernel_rfl) ?_)
        refine sq (o_pv vr76 rfl (by kernel_rfl) ?_)
        refine nil_ ?_
        refine then_normal (K67 _ _ _ _ ?_)
        refine seq_ (fun _ K78 => ?_)
        refine reg_ ?_
        refine sq (o_pv (.slice ab4 b.length cb5) rfl (by kernel_rfl) ?_)
        refine sq (o_pv (.slice aa1 a.length ca2) rfl (by kernel_rfl) ?_)
        have hb79 := (Sl.step hb43 s72)
        have ha80 := (Sl.step ha42 s72)
        have hXo81 := (Old.step hXo40 s72)
        refine sq (o_call 28 #[(.slice ab4 b.length cb5), (.slice aa1 a.length ca2)] rfl (x_call Try.call28 (by kernel_rfl)) (diff_Lines_w (X := X30) (a := b) (b := a) hXo81 hb79 ha80 hp) ?_)
        rintro _ w84 ⟨r82, r83, hp, e85, ar87, cr88, vr90, rfl, hr89, hr91⟩
        have s86 := Step.of0 X30 e85
        replace hp := hp (Sl.len hr89)
        refine sq (o_pv (.tuple #[(.slice ar87 r82.length cr88), vr90]) rfl (by kernel_rfl) ?_)
        refine sq (o_pv (.slice ar87 r82.length cr88) rfl (by kernel_rfl) ?_)
        refine sq (o_pv vr90 rfl (by kernel_rfl) ?_)
        refine sq (o_pv (.slice ar87 r82.length cr88) rfl (by kernel_rfl) ?_)
        refine sq (o_pv vr90 rfl (by kernel_rfl) ?_)
        refine nil_ ?_
        refine then_normal (K78 _ _ _ _ ?_)
        refine seq_ (fun _ K92 => ?_)
        refine reg_ ?_
        refine sq (o_pv (.slice aa1 a.length ca2) rfl (by kernel_rfl) ?_)
        refine sq (o_pv (.slice ab4 b.length cb5) rfl (by kernel_rfl) ?_)
        have ha93 := (Sl.step ha80 s86)
        have hb94 := (Sl.step hb79 s86)
        have hXo95 := (Old.step hXo81 s86)
        refine sq (o_call 30 #[(.slice aa1 a.length ca2), (.slice ab4 b.length cb5)] rfl (x_call Try.call30 (by kernel_rfl)) (diff_Common_w (X := X30) (a := a) (b := b) hXo95 ha93 hb94 hp) ?_)
        rintro _ w98 ⟨r96, r97, hp, e99, vr102, rfl, rr101, hr103⟩
        have s100 := Step.of0 X30 e99
        replace hp := hp rr101
        refine sq (o_pv (.tuple #[(.int .i64 r96), vr102]) rfl (by kernel_rfl) ?_)
        refine sq (o_pv (.int .i64 r96) rfl (by kernel_rfl) ?_)
        refine sq (o_pv vr102 rfl (by kernel_rfl) ?_)
        refine sq (o_pv (.int .i64 r96) rfl (by kernel_rfl) ?_)
        refine sq (o_pv vr102 rfl (by kernel_rfl) ?_)
        refine nil_ ?_
        refine then_normal (K92 _ _ _ _ ?_)
        refine seq_ (fun _ K104 => ?_)
        have E151 := (Evo.then0 (Evo.then0 (Evo.then0 E39 e71) e85) e99)
        have hXo152 := (Old.step hXo95 s100)
        have hS153 := (Sub.trans (Sub.trans (Sub.trans hS41 (Step.up s72)) (Step.up s86)) (Step.up s100))
        have ha154 := (Sl.step ha93 s100)
        have hb155 := (Sl.step hb94 s100)
        have hr156 := (Sl.step (Sl.step hr75 s86) s100)
        have hr157 := (Rep.step (rErr 57 129 131) (Rep.step (rErr 57 129 131) hr77 s86) s100)
        have hr158 := (Sl.step hr89 s100)
        have hr159 := (Rep.step (rErr 57 129 131) hr91 s100)
        obtain ⟨k144, hk145, hp⟩ := hp
        refine ground_ ?_
        refine join_ 19342813113798882423210000 (fun lq w146 => ∃ (X147 : List Nat) (s143 : Bool), (lq = [(4, (.bool s143))]) ∧ (Evo [] w w146) ∧ (Old X147 w146) ∧ (Sub X X147) ∧ (k144 s143)) (fun Kj148 hJ149 => ?_) ?_
        ·
          refine reg_ ?_
          refine sq (o_pv vr76 rfl (by kernel_rfl) ?_)
          by_cases h163 : r69.isNil = true
          ·
            replace hp := hp.1 h163
            refine sq (o_pv (.bool true) rfl (x_bt (x_err_eq r69 hr157 Try.underlying40 (by kernel_rfl)) h163) ?_)
            refine sq (o_pv (.bool true) rfl (by kernel_rfl) ?_)
            refine sq (o_pv vr90 (by kernel_rfl) (by kernel_rfl) ?_)
            by_cases h164 : r83.isNil = true
            ·
              replace hp := hp.1 h164
              refine sq (o_pv (.bool true) (by kernel_rfl) (x_bt (x_err_eq r83 hr159 Try.underlying40 (by kernel_rfl)) h164) ?_)
              refine sq (o_pv (.bool true) rfl (by kernel_rfl) ?_)
              refine sq (o_pv (.bool true) rfl (by kernel_rfl) ?_)
              refine sq (o_pv vr102 (by kernel_rfl) (by kernel_rfl) ?_)
              by_cases h165 : r97.isNil = true
              ·
                replace hp := hp.1 h165
                refine sq (o_pv (.bool true) (by kernel_rfl) (x_bt (x_err_eq r97 hr103 Try.underlying40 (by kernel_rfl)) h165) ?_)
                refine sq (o_pv (.bool true) rfl (by kernel_rfl) ?_)
                refine sq (o_pv (.bool true) rfl (by kernel_rfl) ?_)
                refine sq (o_pv (.slice ar73 r68.length cr74) (by kernel_rfl) (by kernel_rfl) ?_)
                refine sq (o_call 31 #[(.slice ar73 r68.length cr74)] (by kernel_rfl) (x_call Try.call31 (by kernel_rfl)) (diff_Cost_w (X := []) (l := r68) (Old.nil _) (Sl.less hr156 (Sub.nil _)) hp) ?_)
                rintro _ w167 ⟨r166, hp, e168, rfl, rr170⟩
                have s169 := Step.of0 X30 e168
                replace hp := hp rr170
                refine sq (o_pv (.slice ar87 r82.length cr88) (by kernel_rfl) (by kernel_rfl) ?_)
                have hr171 := (Sl.step hr158 s169)
                refine sq (o_call 31 #[(.slice ar87 r82.length cr88)] (by kernel_rfl) (x_call Try.call31 (by kernel_rfl)) (diff_Cost_w (X := []) (l := r82) (Old.nil _) (Sl.less hr171 (Sub.nil _)) hp) ?_)
                rintro _ w173 ⟨r172, hp, e174, rfl, rr176⟩
                have s175 := Step.of0 X30 e174
                replace hp := hp rr176
                by_cases h177 : r166 = r172
                ·
                  replace hp := hp.1 h177
                  refine sq (o_pv (.bool true) (by kernel_rfl) (x_dt (p := r166 = r172) (by kernel_rfl) h177) ?_)
                  refine sq (o_pv (.bool true) rfl (by kernel_rfl) ?_)
                  refine sq (o_pv (.bool true) rfl (by kernel_rfl) ?_)
                  refine sq (o_pv (.slice ar73 r68.length cr74) (by kernel_rfl) (by kernel_rfl) ?_)
                  have hr178 := (Sl.step (Sl.step hr156 s169) s175)
                  refine sq (o_call 31 #[(.slice ar73 r68.length cr74)] (by kernel_rfl) (x_call Try.call31 (by kernel_rfl)) (diff_Cost_w (X := []) (l := r68) (Old.nil _) (Sl.less hr178 (Sub.nil _)) hp) ?_)
                  rintro _ w180 ⟨r179, hp, e181, rfl, rr183⟩
                  have s182 := Step.of0 X30 e181
                  replace hp := hp rr183
                  refine sq (o_pv (.slice aa1 a.length ca2) (by kernel_rfl) (by kernel_rfl) ?_)
                  refine sq (o_pv (.int .i64 (a.length : Int)) (by kernel_rfl) (by kernel_rfl) ?_)
                  refine sq (o_pv (.slice ab4 b.length cb5) (by kernel_rfl) (by kernel_rfl) ?_)
                  refine sq (o_pv (.int .i64 (b.length : Int)) (by kernel_rfl) (by kernel_rfl) ?_)
                  obtain ⟨h184, hp⟩ := hp
                  refine sq (o_pv (.int .i64 ((a.length : Int) + (b.length : Int))) (by kernel_rfl) (x_add2 (a := (a.length : Int)) (b := (b.length : Int)) ((a.length : Int) + (b.length : Int)) (by kernel_rfl) (by kernel_rfl) (wrap_inR h184)) ?_)
                  refine sq (o_pv (.int .i64 r96) (by kernel_rfl) (by kernel_rfl) ?_)
                  obtain ⟨h185, hp⟩ := hp
                  refine sq (o_pv (.int .i64 ((2 : Int) * r96)) (by kernel_rfl) (x_mul2 (a := (2 : Int)) (b := r96) ((2 : Int) * r96) (by kernel_rfl) (by kernel_rfl) (wrap_inR h185)) ?_)
                  obtain ⟨h186, hp⟩ := hp
                  refine sq (o_pv (.int .i64 (((a.length : Int) + (b.length : Int)) - ((2 : Int) * r96))) (by kernel_rfl) (x_sub2 (a := (a.length : Int) + (b.length : Int)) (b := (2 : Int) * r96) (((a.length : Int) + (b.length : Int)) - ((2 : Int) * r96)) (by kernel_rfl) (by kernel_rfl) (wrap_inR h186)) ?_)
                  by_cases h187 : r179 = (((a.length : Int) + (b.length : Int)) - ((2 : Int) * r96))
                  ·
                    replace hp := hp.1 h187
                    refine sq (o_pv (.bool true) (by kernel_rfl) (x_dt (p := r179 = (((a.length : Int) + (b.length : Int)) - ((2 : Int) * r96))) (by kernel_rfl) h187) ?_)
                    refine sq (o_pv (.bool true) rfl (by kernel_rfl) ?_)
                    refine sq (o_pv (.bool true) rfl (by kernel_rfl) ?_)
                    refine sq (o_pv (.slice ar73 r68.length cr74) (by kernel_rfl) (by kernel_rfl) ?_)
                    have hr188 := (Sl.step hr178 s182)
                    refine sq (o_call 31 #[(.slice ar73 r68.length cr74)] (by kernel_rfl) (x_call Try.call31 (by kernel_rfl)) (diff_Cost_w (X := []) (l := r68) (Old.nil _) (Sl.less hr188 (Sub.nil _)) hp) ?_)
                    rintro _ w190 ⟨r189, hp, e191, rfl, rr193⟩
                    have s192 := Step.of0 X30 e191
                    replace hp := hp rr193
                    refine sq (o_pv (.bool (decide (r189 = (0 : Int)))) (by kernel_rfl) (by kernel_rfl) ?_)
                    refine sq (o_pv (.slice aa1 a.length ca2) (by kernel_rfl) (by kernel_rfl) ?_)
                    refine sq (o_pv (.slice ab4 b.length cb5) (by kernel_rfl) (by kernel_rfl) ?_)
                    have ha194 := (Sl.step (Sl.step (Sl.step (Sl.step ha154 s169) s175) s182) s192)
                    have hb195 := (Sl.step (Sl.step (Sl.step (Sl.step hb155 s169) s175) s182) s192)
                    refine sq (o_call 29 #[(.slice aa1 a.length ca2), (.slice ab4 b.length cb5)] (by kernel_rfl) (x_call Try.call29 (by kernel_rfl)) (rectoref11_Equal_w (X := []) (a := a) (b := b) (Old.nil _) (Sl.less ha194 (Sub.nil _)) (Sl.less hb195 (Sub.nil _)) hp) ?_)
                    rintro _ w197 ⟨r196, hp, e198, rfl⟩
                    have s199 := Step.of0 X30 e198
                    refine sq (o_pv (.bool (decide (((decide (r189 = (0 : Int))) : Bool) = r196))) (by kernel_rfl) (x_booleq (a := (decide (r189 = (0 : Int)))) (b := r196) Try.underlying4 (by kernel_rfl) (by kernel_rfl)) ?_)
                    refine sq (o_pv (.bool (decide (((decide (r189 = (0 : Int))) : Bool) = r196))) rfl (by kernel_rfl) ?_)
                    refine sq (o_pv (.bool (decide (((decide (r189 = (0 : Int))) : Bool) = r196))) rfl (by kernel_rfl) ?_)
                    refine nil_ ?_
                    have E200 := (Evo.then0 (Evo.then0 (Evo.then0 (Evo.then0 (Evo.then0 E151 e168) e174) e181) e191) e198)
                    have hXo201 := (Old.step (Old.step (Old.step (Old.step (Old.step hXo152 s169) s175) s182) s192) s199)
                    have hS202 := (Sub.trans (Sub.trans (Sub.trans (Sub.trans (Sub.trans hS153 (Step.up s169)) (Step.up s175)) (Step.up s182)) (Step.up s192)) (Step.up s199))
                    refine then_normal (hJ149 _ _ _ ⟨[(4, (.bool (decide (((decide (r189 = (0 : Int))) : Bool) = r196))))], fit_mk (fun _ _ => rfl) (by kernel_rfl) (vs_cons (by kernel_rfl) vs_nil), ?_⟩)
                    exact ⟨X30, (decide (((decide (r189 = (0 : Int))) : Bool) = r196)), rfl, E200, hXo201, hS202, hp⟩
                  ·
                    replace hp := hp.2 h187
                    refine sq (o_pv (.bool false) (by kernel_rfl) (x_df (p := r179 = (((a.length : Int) + (b.length : Int)) - ((2 : Int) * r96))) (by kernel_rfl) h187) ?_)
                    refine sq (o_pv (.bool false) rfl (by kernel_rfl) ?_)
                    refine sq (o_pv (.bool false) rfl (by kernel_rfl) ?_)
                    refine sq (o_not (by kernel_rfl) ?_)
                    refine sq (o_not (by kernel_rfl) ?_)
                    refine sq (o_not (by kernel_rfl) ?_)
                    refine sq (o_not (by kernel_rfl) ?_)
                    refine sq (o_not (by kernel_rfl) ?_)
                    refine sq (o_not (by kernel_rfl) ?_)
                    refine sq (o_not (by kernel_rfl) ?_)
                    refine sq (o_pv (.bool false) rfl (by kernel_rfl) ?_)
                    refine sq (o_pv (.bool false) rfl (by kernel_rfl) ?_)
                    refine nil_ ?_
                    have E203 := (Evo.then0 (Evo.then0 (Evo.then0 E151 e168) e174) e181)
                    have hXo204 := (Old.step (Old.step (Old.step hXo152 s169) s175) s182)
                    have hS205 := (Sub.trans (Sub.trans (Sub.trans hS153 (Step.up s169)) (Step.up s175)) (Step.up s182))
                    refine then_normal (hJ149 _ _ _ ⟨[(4, (.bool false))], fit_mk (fun _ _ => rfl) (by kernel_rfl) (vs_cons (by kernel_rfl) vs_nil), ?_⟩)
                    exact ⟨X30, false, rfl, E203, hXo204, hS205, hp⟩
                ·
                  replace hp := hp.2 h177
                  refine sq (o_pv (.bool false) (by kernel_rfl) (x_df (p := r166 = r172) (by kernel_rfl) h177) ?_)
                  refine sq (o_pv (.bool false) rfl (by kernel_rfl) ?_)
                  refine sq (o_pv (.bool false) rfl (by kernel_rfl) ?_)
                  refine sq (o_not (by kernel_rfl) ?_)
                  refine sq (o_not (by kernel_rfl) ?_)
                  refine sq (o_not (by kernel_rfl) ?_)
                  refine sq (o_not (by kernel_rfl) ?_)
                  refine sq (o_not (by kernel_rfl) ?_)
                  refine sq (o_not (by kernel_rfl) ?_)
                  refine sq (o_not (by kernel_rfl) ?_)
                  refine sq (o_not (by kernel_rfl) ?_)
                  refine sq (o_not (by kernel_rfl) ?_)
                  refine sq (o_not (by kernel_rfl) ?_)
                  refine sq (o_not (by kernel_rfl) ?_)
                  refine sq (o_pv (.bool false) rfl (by kernel_rfl) ?_)
                  refine sq (o_pv (.bool false) rfl (by kernel_rfl) ?_)
                  refine sq (o_not (by kernel_rfl) ?_)
                  refine sq (o_not (by kernel_rfl) ?_)
                  refine sq (o_not (by kernel_rfl) ?_)
                  refine sq (o_not (by kernel_rfl) ?_)
                  refine sq (o_not (by kernel_rfl) ?_)
                  refine sq (o_not (by kernel_rfl) ?_)
                  refine sq (o_not (by kernel_rfl) ?_)
                  refine sq (o_pv (.bool false) rfl (by kernel_rfl) ?_)
                  refine sq (o_pv (.bool false) rfl (by kernel_rfl) ?_)
                  refine nil_ ?_
                  have E206 := (Evo.then0 (Evo.then0 E151 e168) e174)
                  have hXo207 := (Old.step (Old.step hXo152 s169) s175)
                  have hS208 := (Sub.trans (Sub.trans hS153 (Step.up s169)) (Step.up s175))
                  refine then_normal (hJ149 _ _ _ ⟨[(4, (.bool false))], fit_mk (fun _ _ => rfl) (by kernel_rfl) (vs_cons (by kernel_rfl) vs_nil), ?_⟩)
                  exact ⟨X30, false, rfl, E206, hXo207, hS208, hp⟩
              ·
                replace hp := hp.2 h165
                refine sq (o_pv (.bool false) (by kernel_rfl) (x_bf (x_err_eq r97 hr103 Try.underlying40 (by kernel_rfl)) h165) ?_)
                refine sq (o_pv (.bool false) rfl (by kernel_rfl) ?_)
                refine sq (o_pv (.bool false) rfl (by kernel_rfl) ?_)
                refine sq (o_not (by kernel_rfl) ?_)
                refine sq (o_not (by kernel_rfl) ?_)
                refine sq (o_not (by kernel_rfl) ?_)
                refine sq (o_not (by kernel_rfl) ?_)
                refine sq (o_not (by kernel_rfl) ?_)
                refine sq (o_pv (.bool false) rfl (by kernel_rfl) ?_)
                refine sq (o_pv (.bool false) rfl (by kernel_rfl) ?_)
                refine sq (o_not (by kernel_rfl) ?_)
                refine sq (o_not (by kernel_rfl) ?_)
                refine sq (o_not (by kernel_rfl) ?_)
                refine sq (o_not (by kernel_rfl) ?_)
                refine sq (o_not (by kernel_rfl) ?_)
                refine sq (o_not (by kernel_rfl) ?_)
                refine sq (o_not (by kernel_rfl) ?_)
                refine sq (o_not (by kernel_rfl) ?_)
                refine sq (o_not (by kernel_rfl) ?_)
                refine sq (o_not (by kernel_rfl) ?_)
                refine sq (o_not (by kernel_rfl) ?_)
                refine sq (o_pv (.bool false) rfl (by kernel_rfl) ?_)
                refine sq (o_pv (.bool false) rfl (by kernel_rfl) ?_)
                refine sq (o_not (by kernel_rfl) ?_)
                refine sq (o_not (by kernel_rfl) ?_)
                refine sq (o_not (by kernel_rfl) ?_)
                refine sq (o_not (by kernel_rfl) ?_)
                refine sq (o_not (by kernel_rfl) ?_)
                refine sq (o_not (by kernel_rfl) ?_)
                refine sq (o_not (by kernel_rfl) ?_)
                refine sq (o_pv (.bool false) rfl (by kernel_rfl) ?_)
                refine sq (o_pv (.bool false) rfl (by kernel_rfl) ?_)
                refine nil_ ?_
                refine then_normal (hJ149 _ _ _ ⟨[(4, (.bool false))], fit_mk (fun _ _ => rfl) (by kernel_rfl) (vs_cons (by kernel_rfl) vs_nil), ?_⟩)
                exact ⟨X30, false, rfl, E151, hXo152, hS153, hp⟩
            ·
              replace hp := hp.2 h164
              refine sq (o_pv (.bool false) (by kernel_rfl) (x_bf (x_err_eq r83 hr159 Try.underlying40 (by kernel_rfl)) h164) ?_)
              refine sq (o_pv (.bool false) rfl (by kernel_rfl) ?_)
              refine sq (o_pv (.bool false) rfl (by kernel_rfl) ?_)
              refine sq (o_not (by kernel_rfl) ?_)
              refine sq (o_not (by kernel_rfl) ?_)
              refine sq (o_pv (.bool false) rfl (by kernel_rfl) ?_)
              refine sq (o_pv (.bool false) rfl (by kernel_rfl) ?_)
              refine sq (o_not (by kernel_rfl) ?_)
              refine sq (o_not (by kernel_rfl) ?_)
              refine sq (o_not (by kernel_rfl) ?_)
              refine sq (o_not (by kernel_rfl) ?_)
              refine sq (o_not (by kernel_rfl) ?_)
              refine sq (o_pv (.bool false) rfl (by kernel_rfl) ?_)
              refine sq (o_pv (.bool false) rfl (by kernel_rfl) ?_)
              refine sq (o_not (by kernel_rfl) ?_)
              refine sq (o_not (by kernel_rfl) ?_)
              refine sq (o_not (by kernel_rfl) ?_)
              refine sq (o_not (by kernel_rfl) ?_)
              refine sq (o_not (by kernel_rfl) ?_)
              refine sq (o_not (by kernel_rfl) ?_)
              refine sq (o_not (by kernel_rfl) ?_)
              refine sq (o_not (by kernel_rfl) ?_)
              refine sq (o_not (by kernel_rfl) ?_)
              refine sq (o_not (by kernel_rfl) ?_)
              refine sq (o_not (by kernel_rfl) ?_)
              refine sq (o_pv (.bool false) rfl (by kernel_rfl) ?_)
              refine sq (o_pv (.bool false) rfl (by kernel_rfl) ?_)
              refine sq (o_not (by kernel_rfl) ?_)
              refine sq (o_not (by kernel_rfl) ?_)
              refine sq (o_not (by kernel_rfl) ?_)
              refine sq (o_not (by kernel_rfl) ?_)
              refine sq (o_not (by kernel_rfl) ?_)
              refine sq (o_not (by kernel_rfl) ?_)
              refine sq (o_not (by kernel_rfl) ?_)
              refine sq (o_pv (.bool false) rfl (by kernel_rfl) ?_)
              refine sq (o_pv (.bool false) rfl (by kernel_rfl) ?_)
              refine nil_ ?_
              refine then_normal (hJ149 _ _ _ ⟨[(4, (.bool false))], fit_mk (fun _ _ => rfl) (by kernel_rfl) (vs_cons (by kernel_rfl) vs_nil), ?_⟩)
              exact ⟨X30, false, rfl, E151, hXo152, hS153, hp⟩
          ·
            replace hp := hp.2 h163
            refine sq (o_pv (.bool false) rfl (x_bf (x_err_eq r69 hr157 Try.underlying40 (by kernel_rfl)) h163) ?_)
            refine sq (o_pv (.bool false) rfl (by kernel_rfl) ?_)
            refine sq (o_not (by kernel_rfl) ?_)
            refine sq (o_not (by kernel_rfl) ?_)
            refine sq (o_pv (.bool false) rfl (by kernel_rfl) ?_)
            refine sq (o_pv (.bool false) rfl (by kernel_rfl) ?_)
            refine sq (o_not (by kernel_rfl) ?_)
            refine sq (o_not (by kernel_rfl) ?_)
            refine sq (o_pv (.bool false) rfl (by kernel_rfl) ?_)
            refine sq (o_pv (.bool false) rfl (by kernel_rfl) ?_)
            refine sq (o_not (by kernel_rfl) ?_)
            refine sq (o_not (by kernel_rfl) ?_)
            refine sq (o_not (by kernel_rfl) ?_)
            refine sq (o_not (by kernel_rfl) ?_)
            refine sq (o_not (by kernel_rfl) ?_)
            refine sq (o_pv (.bool false) rfl (by kernel_rfl) ?_)
            refine sq (o_pv (.bool false) rfl (by kernel_rfl) ?_)
            refine sq (o_not (by kernel_rfl) ?_)
            refine sq (o_not (by kernel_rfl) ?_)
            refine sq (o_not (by kernel_rfl) ?_)
            refine sq (o_not (by kernel_rfl) ?_)
            refine sq (o_not (by kernel_rfl) ?_)
            refine sq (o_not (by kernel_rfl) ?_)
            refine sq (o_not (by kernel_rfl) ?_)
            refine sq (o_not (by kernel_rfl) ?_)
            refine sq (o_not (by kernel_rfl) ?_)
            refine sq (o_not (by kernel_rfl) ?_)
            refine sq (o_not (by kernel_rfl) ?_)
            refine sq (o_pv (.bool false) rfl (by kernel_rfl) ?_)
            refine sq (o_pv (.bool false) rfl (by kernel_rfl) ?_)
            refine sq (o_not (by kernel_rfl) ?_)
            refine sq (o_not (by kernel_rfl) ?_)
            refine sq (o_not (by kernel_rfl) ?_)
            refine sq (o_not (by kernel_rfl) ?_)
            refine sq (o_not (by kernel_rfl) ?_)
            refine sq (o_not (by kernel_rfl) ?_)
            refine sq (o_not (by kernel_rfl) ?_)
            refine sq (o_pv (.bool false) rfl (by kernel_rfl) ?_)
            refine sq (o_pv (.bool false) rfl (by kernel_rfl) ?_)
            refine nil_ ?_
            refine then_normal (hJ149 _ _ _ ⟨[(4, (.bool false))], fit_mk (fun _ _ => rfl) (by kernel_rfl) (vs_cons (by kernel_rfl) vs_nil), ?_⟩)
            exact ⟨X30, false, rfl, E151, hXo152, hS153, hp⟩
        ·
          rintro _ w146 g209 ⟨X147, s143, rfl, E160, hXo161, hS162, hv150⟩
          replace hp := hk145 s143 hv150
          refine then_normal (K104 _ _ _ _ ?_)
          refine wp_ret ?_
          refine end_ret hQ (.bool s143) (by kernel_rfl) ?_
          exact ⟨s143, hp, E160, rfl⟩

end Go.Proofs.Ytmepomdpjlbaaaa
