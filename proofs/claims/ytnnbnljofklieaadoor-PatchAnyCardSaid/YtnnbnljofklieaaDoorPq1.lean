/- Walks of functions: what each asks and computes, as a plain predicate, and the contract from it. -/
import Derived.Test.YtnnbnljofklieaaDoorChecked
import Derived.Test.YtnnbnljofklieaaDoorStEq
namespace Go.Proofs.YtnnbnljofklieaaDoor
open Go
structure S_diff_Edit where
  Op : Int
  Line : ByteArray
instance : Inhabited S_diff_Edit := ⟨⟨default, default⟩⟩
def r_diff_Edit : Rep S_diff_Edit := rMap (fun d => (d.Op, d.Line)) (rPair (rInt .i64) rStr)
theorem r_diff_Edit_open {X : List Nat} {w : World} {cs : List Value} {d : S_diff_Edit} (h : r_diff_Edit.ok X w cs d) : cs = [.int .i64 d.Op, .string d.Line] ∧ inR .i64 d.Op ∧ d.Line.size ≤ maxLen := by
  obtain ⟨c3, t4, rfl, ⟨rfl, h1⟩, ⟨rfl, h2⟩⟩ := h
  exact ⟨rfl, h1, h2⟩
theorem r_diff_Edit_mk {X : List Nat} {w : World} {Opq : Int} {Lineq : ByteArray} (h1 : inR .i64 Opq) (h2 : Lineq.size ≤ maxLen) : r_diff_Edit.ok X w [.int .i64 Opq, .string Lineq] ⟨Opq, Lineq⟩ :=
  (rMap_mk _ (rPair_mk (rInt_mk h1) (rStr_mk h2)))
structure S_patch_Hunk where
  At : Int
  Del : Int
  To : Int
  Add : Int
  Lines : (List S_diff_Edit)
instance : Inhabited S_patch_Hunk := ⟨⟨default, default, default, default, default⟩⟩
def r_patch_Hunk : Rep S_patch_Hunk := rMap (fun d => (d.At, (d.Del, (d.To, (d.Add, d.Lines))))) (rPair (rInt .i64) (rPair (rInt .i64) (rPair (rInt .i64) (rPair (rInt .i64) (rSl r_diff_Edit)))))
theorem r_patch_Hunk_open {X : List Nat} {w : World} {cs : List Value} {d : S_patch_Hunk} (h : r_patch_Hunk.ok X w cs d) : ∃ (a5 : Option Addr) (c6 : Nat), cs = [.int .i64 d.At, .int .i64 d.Del, .int .i64 d.To, .int .i64 d.Add, .slice a5 d.Lines.length c6] ∧ inR .i64 d.At ∧ inR .i64 d.Del ∧ inR .i64 d.To ∧ inR .i64 d.Add ∧ Sl r_diff_Edit X w a5 c6 d.Lines := by
  obtain ⟨c14, t15, rfl, ⟨rfl, h1⟩, ⟨c12, t13, rfl, ⟨rfl, h2⟩, ⟨c10, t11, rfl, ⟨rfl, h3⟩, ⟨c8, t9, rfl, ⟨rfl, h4⟩, ⟨a5, c6, rfl, h7⟩⟩⟩⟩⟩ := h
  exact ⟨a5, c6, rfl, h1, h2, h3, h4, h7⟩
theorem r_patch_Hunk_mk {X : List Nat} {w : World} {Atq : Int} {Delq : Int} {Toq : Int} {Addq : Int} {Linesq : (List S_diff_Edit)} {a5 : Option Addr} {c6 : Nat} {m8 : Nat} (h1 : inR .i64 Atq) (h2 : inR .i64 Delq) (h3 : inR .i64 Toq) (h4 : inR .i64 Addq) (h7 : Sl r_diff_Edit X w a5 c6 Linesq) (h7n : m8 = Linesq.length) : r_patch_Hunk.ok X w [.int .i64 Atq, .int .i64 Delq, .int .i64 Toq, .int .i64 Addq, .slice a5 m8 c6] ⟨Atq, Delq, Toq, Addq, Linesq⟩ :=
  (rMap_mk _ (rPair_mk (rInt_mk h1) (rPair_mk (rInt_mk h2) (rPair_mk (rInt_mk h3) (rPair_mk (rInt_mk h4) (rSl_mk' h7 h7n))))))
structure S_strings_Builder where
  addr : Bool
  buf : (List Int)
instance : Inhabited S_strings_Builder := ⟨⟨default, default⟩⟩
def o_strings_Builder (b : Nat) : Obj S_strings_Builder := oMap (fun d => (d.addr, d.buf)) (oPair (oSelf b) (oOwn (rInt .u8) 5))
theorem o_strings_Builder_open {X F G : List Nat} {w : World} {B b : Nat} {d : S_strings_Builder} (h : MO (o_strings_Builder b) 66 G B X w F b d) : ∃ (a1 : Option Addr) (n2 : Nat) (c3 : Nat), OB G B X w b [cond d.addr (.pointer (some ⟨b, 0, none⟩)) (.pointer none), .slice a1 n2 c3] 66 ∧ OS (rInt .u8) G B X w 5 a1 n2 c3 d.buf ∧ Sub [b] F ∧ Sub (blkL a1) F ∧ Ap [b] (blkL a1) := by
  obtain ⟨⟨cs, F1, rfl, hb, hn, hk, hO⟩, hw⟩ := h
  obtain ⟨_, _, _, _, rfl, rfl, ap0, ⟨rfl, rfl⟩, ⟨a1, c3, rfl, rfl, h4⟩⟩ := hO
  exact ⟨a1, _, c3, ⟨hb, hk, hw.sub (Sub.hd _ _)⟩, ⟨rfl, h4, hw.sub (Sub.trans (Sub.inr _ _) (Sub.tl _ _))⟩, Sub.hd _ _, (Sub.trans (Sub.inr _ _) (Sub.tl _ _)), (of_notin hn).subr (Sub.inr _ _)⟩
theorem o_strings_Builder_mk {X G : List Nat} {w : World} {B b : Nat} {addrq : Bool} {bufq : (List Int)} {a1 : Option Addr} {m2 : Nat} {c3 : Nat} (hb : OB G B X w b [cond addrq (.pointer (some ⟨b, 0, none⟩)) (.pointer none), .slice a1 m2 c3] 66) (h4 : OS (rInt .u8) G B X w 5 a1 m2 c3 bufq) (pb1 : Ap [b] (blkL a1)) : MO (o_strings_Builder b) 66 G B X w (b :: ([] ++ (blkL a1))) b ⟨addrq, bufq⟩ :=
  MO.mk (O := (o_strings_Builder b)) hb (Ap.app (Ap.nil_r _) pb1) (show (o_strings_Builder b).ok _ X w _ _ from (oPair_mk (Ap.nil_l _) oSelf_mk (oOwn_mk h4))) (Wr.app (Wr.nil _ _) h4.wr)
structure S_rectoref11_Edit where
  Op : Int
  Line : ByteArray
instance : Inhabited S_rectoref11_Edit := ⟨⟨default, default⟩⟩
def r_rectoref11_Edit : Rep S_rectoref11_Edit := rMap (fun d => (d.Op, d.Line)) (rPair (rInt .i64) rStr)
theorem r_rectoref11_Edit_open {X : List Nat} {w : World} {cs : List Value} {d : S_rectoref11_Edit} (h : r_rectoref11_Edit.ok X w cs d) : cs = [.int .i64 d.Op, .string d.Line] ∧ inR .i64 d.Op ∧ d.Line.size ≤ maxLen := by
  obtain ⟨c3, t4, rfl, ⟨rfl, h1⟩, ⟨rfl, h2⟩⟩ := h
  exact ⟨rfl, h1, h2⟩
theorem r_rectoref11_Edit_mk {X : List Nat} {w : World} {Opq : Int} {Lineq : ByteArray} (h1 : inR .i64 Opq) (h2 : Lineq.size ≤ maxLen) : r_rectoref11_Edit.ok X w [.int .i64 Opq, .string Lineq] ⟨Opq, Lineq⟩ :=
  (rMap_mk _ (rPair_mk (rInt_mk h1) (rStr_mk h2)))
structure S_rectoref3_Part where
  Word : ByteArray
  At : Int
instance : Inhabited S_rectoref3_Part := ⟨⟨default, default⟩⟩
def r_rectoref3_Part : Rep S_rectoref3_Part := rMap (fun d => (d.Word, d.At)) (rPair rStr (rInt .i64))
theorem r_rectoref3_Part_open {X : List Nat} {w : World} {cs : List Value} {d : S_rectoref3_Part} (h : r_rectoref3_Part.ok X w cs d) : cs = [.string d.Word, .int .i64 d.At] ∧ d.Word.size ≤ maxLen ∧ inR .i64 d.At := by
  obtain ⟨c3, t4, rfl, ⟨rfl, h1⟩, ⟨rfl, h2⟩⟩ := h
  exact ⟨rfl, h1, h2⟩
theorem r_rectoref3_Part_mk {X : List Nat} {w : World} {Wordq : ByteArray} {Atq : Int} (h1 : Wordq.size ≤ maxLen) (h2 : inR .i64 Atq) : r_rectoref3_Part.ok X w [.string Wordq, .int .i64 Atq] ⟨Wordq, Atq⟩ :=
  (rMap_mk _ (rPair_mk (rStr_mk h1) (rInt_mk h2)))
structure S_rectoref3_Wrong where
  Parts : (List S_rectoref3_Part)
  Err : Int
instance : Inhabited S_rectoref3_Wrong := ⟨⟨default, default⟩⟩
def r_rectoref3_Wrong : Rep S_rectoref3_Wrong := rMap (fun d => (d.Parts, d.Err)) (rPair (rSl r_rectoref3_Part) (rInt .i64))
theorem r_rectoref3_Wrong_open {X : List Nat} {w : World} {cs : List Value} {d : S_rectoref3_Wrong} (h : r_rectoref3_Wrong.ok X w cs d) : ∃ (a1 : Option Addr) (c2 : Nat), cs = [.slice a1 d.Parts.length c2, .int .i64 d.Err] ∧ Sl r_rectoref3_Part X w a1 c2 d.Parts ∧ inR .i64 d.Err := by
  obtain ⟨c5, t6, rfl, ⟨a1, c2, rfl, h3⟩, ⟨rfl, h4⟩⟩ := h
  exact ⟨a1, c2, rfl, h3, h4⟩
theorem r_rectoref3_Wrong_mk {X : List Nat} {w : World} {Partsq : (List S_rectoref3_Part)} {Errq : Int} {a1 : Option Addr} {c2 : Nat} {m4 : Nat} (h3 : Sl r_rectoref3_Part X w a1 c2 Partsq) (h3n : m4 = Partsq.length) (h5 : inR .i64 Errq) : r_rectoref3_Wrong.ok X w [.slice a1 m4 c2, .int .i64 Errq] ⟨Partsq, Errq⟩ :=
  (rMap_mk _ (rPair_mk (rSl_mk' h3 h3n) (rInt_mk h5)))
structure S_rectoref11_Hunk where
  At : Int
  Del : Int
  To : Int
  Add : Int
  Lines : (List S_rectoref11_Edit)
instance : Inhabited S_rectoref11_Hunk := ⟨⟨default, default, default, default, default⟩⟩
def r_rectoref11_Hunk : Rep S_rectoref11_Hunk := rMap (fun d => (d.At, (d.Del, (d.To, (d.Add, d.Lines))))) (rPair (rInt .i64) (rPair (rInt .i64) (rPair (rInt .i64) (rPair (rInt .i64) (rSl r_rectoref11_Edit)))))
theorem r_rectoref11_Hunk_open {X : List Nat} {w : World} {cs : List Value} {d : S_rectoref11_Hunk} (h : r_rectoref11_Hunk.ok X w cs d) : ∃ (a5 : Option Addr) (c6 : Nat), cs = [.int .i64 d.At, .int .i64 d.Del, .int .i64 d.To, .int .i64 d.Add, .slice a5 d.Lines.length c6] ∧ inR .i64 d.At ∧ inR .i64 d.Del ∧ inR .i64 d.To ∧ inR .i64 d.Add ∧ Sl r_rectoref11_Edit X w a5 c6 d.Lines := by
  obtain ⟨c14, t15, rfl, ⟨rfl, h1⟩, ⟨c12, t13, rfl, ⟨rfl, h2⟩, ⟨c10, t11, rfl, ⟨rfl, h3⟩, ⟨c8, t9, rfl, ⟨rfl, h4⟩, ⟨a5, c6, rfl, h7⟩⟩⟩⟩⟩ := h
  exact ⟨a5, c6, rfl, h1, h2, h3, h4, h7⟩
theorem r_rectoref11_Hunk_mk {X : List Nat} {w : World} {Atq : Int} {Delq : Int} {Toq : Int} {Addq : Int} {Linesq : (List S_rectoref11_Edit)} {a5 : Option Addr} {c6 : Nat} {m8 : Nat} (h1 : inR .i64 Atq) (h2 : inR .i64 Delq) (h3 : inR .i64 Toq) (h4 : inR .i64 Addq) (h7 : Sl r_rectoref11_Edit X w a5 c6 Linesq) (h7n : m8 = Linesq.length) : r_rectoref11_Hunk.ok X w [.int .i64 Atq, .int .i64 Delq, .int .i64 Toq, .int .i64 Addq, .slice a5 m8 c6] ⟨Atq, Delq, Toq, Addq, Linesq⟩ :=
  (rMap_mk _ (rPair_mk (rInt_mk h1) (rPair_mk (rInt_mk h2) (rPair_mk (rInt_mk h3) (rPair_mk (rInt_mk h4) (rSl_mk' h7 h7n))))))
theorem elT31 : ElemT Tryd.prog 31 50 5 56 := elemT_mk (i := Tryd.t50) (z := (.agg #[(.int .i64 0), (.int .i64 0), (.int .i64 0), (.int .i64 0), (.slice none 0 0)])) (by kernel_rfl) (by kernel_rfl) (by kernel_rfl) (by kernel_rfl) Tryd.underlying31 Tryd.sizeOf50 (by decide) (by decide)
theorem elT33 : ElemT Tryd.prog 33 48 2 24 := elemT_mk (i := Tryd.t48) (z := (.agg #[(.int .i64 0), (.string (ByteArray.mk #[]))])) (by kernel_rfl) (by kernel_rfl) (by kernel_rfl) (by kernel_rfl) Tryd.underlying33 Tryd.sizeOf48 (by decide) (by decide)
def patch_counts_p (l : (List S_diff_Edit)) (Q : Int → Int → Bool → Prop) : Prop :=
  ((l.length ≤ 9223372036854775807) → (∃ (I184 : Int → Int → Int → Prop) (m185 : Int → Int → Int → Nat), (I184 (0 : Int) (0 : Int) (0 : Int)) ∧ (∀ (del7 : Int) (add9 : Int) (s11 : Int), (I184 del7 add9 s11) → (inR .i64 del7) → (inR .i64 add9) → (inR .i64 s11) → (((s11 < (l.length : Int)) → (∃ k278 : Int → Int → Prop, (∀ (del274 : Int) (add276 : Int), k278 del274 add276 → (inR .i64 del274) → (inR .i64 add276) → ((inR .i64 (s11 + (1 : Int))) ∧ ((I184 del274 add276 (s11 + (1 : Int))) ∧ m185 del274 add276 (s11 + (1 : Int)) < m185 del7 add9 s11))) ∧ ((inL l s11) ∧ ((inR .i64 ((lget l s11).Op)) → ((((lget l s11).Line).size ≤ maxLen) → (∃ k328 : Int → Prop, (∀ (add326 : Int), k328 add326 → (inR .i64 add326) → ((inR .i64 (del7 + (1 : Int))) ∧ (k278 (del7 + (1 : Int)) add326))) ∧ (((((lget l s11).Op) = (1 : Int)) → ((inR .i64 (add9 + (1 : Int))) ∧ (k328 (add9 + (1 : Int))))) ∧ ((¬ (((lget l s11).Op) = (1 : Int))) → (((((lget l s11).Op) = (2 : Int)) → (k328 add9)) ∧ ((¬ (((lget l s11).Op) = (2 : Int))) → (((((lget l s11).Op) = (3 : Int)) → ((inR .i64 (add9 + (1 : Int))) ∧ (k278 del7 (add9 + (1 : Int))))) ∧ ((¬ (((lget l s11).Op) = (3 : Int))) → Q (0 : Int) (0 : Int) false)))))))))))) ∧ ((¬ (s11 < (l.length : Int))) → Q del7 add9 true)))))
set_option maxRecDepth 20000 in
set_option maxHeartbeats 4000000 in
theorem patch_counts_w {X : List Nat} {w : World} {l : (List S_diff_Edit)} {al1 : Option Addr} {cl2 : Nat} {Q : Int → Int → Bool → Prop} (hX0 : Old X w) (hl3 : Sl r_diff_Edit X w al1 cl2 l) (hp : patch_counts_p l Q) :
    Calls Tryd.prog 35 #[(.slice al1 l.length cl2)] w (Ret fun v w' => ∃ (r0 : Int) (r1 : Int) (r2 : Bool), Q r0 r1 r2 ∧ Evo [] w w' ∧ v = .tuple #[(.int .i64 r0), (.int .i64 r1), (.bool r2)] ∧ inR .i64 r0 ∧ inR .i64 r1) := by
  have hXo := hX0
  have E0 : Evo [] w w := RB.refl _ _ _
  have hS : Sub X X := Sub.refl _
  unfold patch_counts_p at hp
  refine enter_ Tryd.func35 rfl 30 [(0, (.slice al1 l.length cl2))] (by kernel_rfl) (fun Qe hQ => ?_)
  replace hp := hp (Sl.len hl3)
  refine seq_ (fun _ K4 => ?_)
  refine reg_ ?_
  refine sq (o_pv (.int .i64 (0 : Int)) rfl (by kernel_rfl) ?_)
  refine sq (o_pv (.int .i64 (0 : Int)) rfl (by kernel_rfl) ?_)
  refine sq (o_pv (.bool false) rfl (by kernel_rfl) ?_)
  refine nil_ ?_
  refine then_normal (K4 _ _ _ _ ?_)
  refine seq_ (fun _ K5 => ?_)
  refine seq_ (fun _ K6 => ?_)
  refine reg_ ?_
  refine sq (o_pv (.slice al1 l.length cl2) rfl (by kernel_rfl) ?_)
  refine sq (o_pv (.int .i64 (l.length : Int)) rfl (by kernel_rfl) ?_)
  refine sq (o_pv (.int .i64 (0 : Int)) rfl (by kernel_rfl) ?_)
  refine nil_ ?_
  refine then_normal (K6 _ _ _ _ ?_)
  refine wp_block ?_
  obtain ⟨I184, m185, hI186, hp⟩ := hp
  refine loop_ 268435036 (fun kq lq w188 => ∃ (X189 : List Nat) (del7 : Int) (add9 : Int) (s11 : Int), (lq = [(2, (.int .i64 del7)), (3, (.int .i64 add9)), (9, (.int .i64 s11))]) ∧ (kq = m185 del7 add9 s11) ∧ (Evo [] w w188) ∧ (Old X189 w188) ∧ (Sub X X189) ∧ (Sl r_diff_Edit X189 w188 al1 cl2 l) ∧ (inR .i64 del7) ∧ (inR .i64 add9) ∧ (inR .i64 s11) ∧ (I184 del7 add9 s11)) (m185 (0 : Int) (0 : Int) (0 : Int)) [(2, (.int .i64 (0 : Int))), (3, (.int .i64 (0 : Int))), (9, (.int .i64 (0 : Int)))] (vs_cons (by kernel_rfl) (vs_cons (by kernel_rfl) (vs_cons (by kernel_rfl) vs_nil))) ⟨X, (0 : Int), (0 : Int), (0 : Int), rfl, rfl, E0, hXo, hS, hl3, (by decide : inR .i64 (0 : Int)), (by decide : inR .i64 (0 : Int)), (by decide : inR .i64 (0 : Int)), hI186⟩ ?_
  rintro _ _ w188 g191 ⟨X189, del7, add9, s11, rfl, rfl, E194, hXo195, hS196, hl197, rdel8, radd10, rs12, hI187⟩ Kl192 hA193
  replace hp := hp del7 add9 s11 hI187 rdel8 radd10 rs12
  refine seq_ (fun _ K198 => ?_)
  refine reg_ ?_
  refine sq (o_pv (.bool (decide (s11 < (l.length : Int)))) rfl (by kernel_rfl) ?_)
  refine nil_ ?_
  refine then_normal (K198 _ _ _ _ ?_)
  refine seq_ (fun _ K199 => ?_)
  refine cond_d (s11 < (l.length : Int)) (by kernel_rfl) (fun h200 => ?_) (fun h200 => ?_)
  ·
    replace hp := hp.1 h200
    refine wp_skip ?_
    refine then_normal (K199 _ _ _ _ ?_)
    refine seq_ (fun _ K201 => ?_)
    obtain ⟨k278, hk279, hp⟩ := hp
    refine ground_ ?_
    refine join_ 134215772 (fun lq w280 => ∃ (X281 : List Nat) (del274 : Int) (add276 : Int), (lq = [(2, (.int .i64 del274)), (3, (.int .i64 add276))]) ∧ (Evo [] w w280) ∧ (Old X281 w280) ∧ (Sub X X281) ∧ (Sl r_diff_Edit X281 w280 al1 cl2 l) ∧ (inR .i64 del274) ∧ (inR .i64 add276) ∧ (k278 del274 add276)) (fun Kj282 hJ283 => ?_) ?_
    ·
      refine wp_block ?_
      refine seq_ (fun _ K289 => ?_)
      refine reg_ ?_
      obtain ⟨h290, hp⟩ := hp
      obtain ⟨b291, o292, cs293, ha294, nx295, lt296, ok297, hc298⟩ := Sl.atI hl197 s11 h290
      obtain ⟨rfl, reOp299, zeLine300⟩ := r_diff_Edit_open ok297
      replace hp := hp reOp299
      replace hp := hp zeLine300
      refine sq (o_pv (.pointer (some ⟨b291, o292 + s11.toNat * 2, none⟩)) rfl (x_ixA (m := l.length) (c := cl2) (k := .i64) (i := s11) Tryd.underlying33 Tryd.sizeOf48 (by rw [← ha294]; kernel_rfl) (by kernel_rfl) h290) ?_)
      refine sq (o_pv (.agg #[(.int .i64 ((lget l s11).Op)), (.string ((lget l s11).Line))]) rfl (x_loadN [(.int .i64 ((lget l s11).Op)), (.string ((lget l s11).Line))] (by kernel_rfl) Tryd.isAgg48 Tryd.sizeOf48 hc298) ?_)
      refine sq (o_newX [(.int .i64 (0 : Int)), (.string (ByteArray.mk #[]))] 48 (X := X189) (B := w.heap.size) E194.size rfl (by kernel_rfl) ?_)
      intro b301 w302 X303 s304 k305 n306
      have E307 := (Evo.then0 E194 (Step.evo s304))
      refine sq (o_stB (o := 0) (v := (.agg #[(.int .i64 ((lget l s11).Op)), (.string ((lget l s11).Line))])) [(.int .i64 ((lget l s11).Op)), (.string ((lget l s11).Line))] rfl k305 (by kernel_rfl) (by kernel_rfl) Tryd.sizeOf48 rfl rfl rfl ?_)
      intro w308 s309 k310
      refine nil_ ?_
      refine then_normal (K289 _ _ _ _ ?_)
      refine seq_ (fun _ K311 => ?_)
      refine reg_ ?_
      refine sq (o_pv (.pointer (some ⟨b301, 0, none⟩)) rfl (by kernel_rfl) ?_)
      refine sq (o_pv (.int .i64 ((lget l s11).Op)) rfl (x_load1 (by kernel_rfl) Tryd.isAgg3 (k310.2.1.cell' 0 rfl)) ?_)
      refine nil_ ?_
      refine then_normal (K311 _ _ _ _ ?_)
      refine wp_block ?_
      refine seq_ (fun _ K312 => ?_)
      refine wp_block ?_
      refine seq_ (fun _ K313 => ?_)
      refine wp_block ?_
      refine seq_ (fun _ K314 => ?_)
      have E335 := (Evo.thenW E307 (Step.evo s309) k305.2.2)
      have hXo336 := (Old.step (Old.step hXo195 s304) s309)
      have hS337 := (Sub.trans (Sub.trans hS196 (Step.up s304)) (Step.up s309))
      have hl338 := (Sl.step (Sl.step hl197 s304) s309)
      obtain ⟨k328, hk329, hp⟩ := hp
      refine ground_ ?_
      refine join_ 8355848 (fun lq w330 => ∃ (X331 : List Nat) (add326 : Int), (lq = [(3, (.int .i64 add326))]) ∧ (Evo [] w w330) ∧ (Old X331 w330) ∧ (Sub X X331) ∧ (Sl r_diff_Edit X331 w330 al1 cl2 l) ∧ (inR .i64 add326) ∧ (k328 add326)) (fun Kj332 hJ333 => ?_) ?_
      ·
        refine wp_block ?_
        refine seq_ (fun _ K343 => ?_)
        refine wp_block ?_
        refine seq_ (fun _ K344 => ?_)
        refine seq_ (fun _ K345 => ?_)
        refine seq_ (fun _ K346 => ?_)
        refine reg_ ?_
        refine sq (o_pv (.bool (decide (((lget l s11).Op) = (1 : Int)))) rfl (by kernel_rfl) ?_)
        refine sq (o_pv (.bool (decide (((lget l s11).Op) = (1 : Int)))) rfl (by kernel_rfl) ?_)
        refine nil_ ?_
        refine then_normal (K346 _ _ _ _ ?_)
        refine cond_d (((lget l s11).Op) = (1 : Int)) (by kernel_rfl) (fun h347 => ?_) (fun h347 => ?_)
        ·
          replace hp := hp.1 h347
          refine wp_exit ?_
          refine then_exit ?_
          refine then_exit ?_
          refine blk_exit ?_
          refine then_normal (K343 _ _ _ _ ?_)
          refine reg_ ?_
          refine sq (o_pv (.int .i64 add9) rfl (by kernel_rfl) ?_)
          obtain ⟨h348, hp⟩ := hp
          refine sq (o_pv (.int .i64 (add9 + (1 : Int))) rfl (x_add2 (k := .i64) (a := add9) (b := (1 : Int)) (add9 + (1 : Int)) (by kernel_rfl) (by kernel_rfl) (wrap_inR h348)) ?_)
          refine sq (o_pv (.int .i64 (add9 + (1 : Int))) rfl (by kernel_rfl) ?_)
          refine nil_ ?_
          refine blk_normal ?_
          refine then_normal (hJ333 _ _ _ ⟨[(3, (.int .i64 (add9 + (1 : Int))))], fit_mk (fun _ _ => rfl) (by kernel_rfl) (vs_cons (by kernel_rfl) vs_nil), ?_⟩)
          exact ⟨X303, (add9 + (1 : Int)), rfl, E335, hXo336, hS337, hl338, h348, hp⟩
        ·
          replace hp := hp.2 h347
          refine wp_skip ?_
          refine then_normal (K345 _ _ _ _ ?_)
          refine seq_ (fun _ K349 => ?_)
          refine seq_ (fun _ K350 => ?_)
          refine reg_ ?_
          refine sq (o_pv (.bool (decide (((lget l s11).Op) = (2 : Int)))) rfl (by kernel_rfl) ?_)
          refine sq (o_pv (.bool (decide (((lget l s11).Op) = (2 : Int)))) rfl (by kernel_rfl) ?_)
          refine nil_ ?_
          refine then_normal (K350 _ _ _ _ ?_)
          refine cond_d (((lget l s11).Op) = (2 : Int)) (by kernel_rfl) (fun h351 => ?_) (fun h351 => ?_)
          ·
            replace hp := hp.1 h351
            refine wp_exit ?_
            refine then_exit ?_
            refine then_exit ?_
            refine blk_exit_ne rfl ?_
            refine then_exit ?_
            refine blk_exit ?_
            refine then_normal (hJ333 _ _ _ ⟨[(3, (.int .i64 add9))], fit_mk (fun _ _ => rfl) (by kernel_rfl) (vs_cons (by kernel_rfl) vs_nil), ?_⟩)
            exact ⟨X303, add9, rfl, E335, hXo336, hS337, hl338, radd10, hp⟩
          ·
            replace hp := hp.2 h351
            refine wp_skip ?_
            refine then_normal (K349 _ _ _ _ ?_)
            refine seq_ (fun _ K352 => ?_)
            refine reg_ ?_
            refine sq (o_pv (.bool (decide (((lget l s11).Op) = (3 : Int)))) rfl (by kernel_rfl) ?_)
            refine sq (o_pv (.bool (decide (((lget l s11).Op) = (3 : Int)))) rfl (by kernel_rfl) ?_)
            refine nil_ ?_
            refine then_normal (K352 _ _ _ _ ?_)
            refine cond_d (((lget l s11).Op) = (3 : Int)) (by kernel_rfl) (fun h353 => ?_) (fun h353 => ?_)
            ·
              replace hp := hp.1 h353
              refine wp_exit ?_
              refine then_exit ?_
              refine blk_exit_ne rfl ?_
              refine then_exit ?_
              refine blk_exit_ne rfl ?_
              refine then_exit ?_
              refine then_exit ?_
              refine blk_exit ?_
              refine then_normal (K313 _ _ _ _ ?_)
              refine seq_ (fun _ K354 => ?_)
              refine reg_ ?_
              refine sq (o_pv (.int .i64 add9) rfl (by kernel_rfl) ?_)
              obtain ⟨h355, hp⟩ := hp
              refine sq (o_pv (.int .i64 (add9 + (1 : Int))) rfl (x_add2 (k := .i64) (a := add9) (b := (1 : Int)) (add9 + (1 : Int)) (by kernel_rfl) (by kernel_rfl) (wrap_inR h355)) ?_)
              refine sq (o_pv (.int .i64 (add9 + (1 : Int))) rfl (by kernel_rfl) ?_)
              refine nil_ ?_
              refine then_normal (K354 _ _ _ _ ?_)
              refine wp_exit ?_
              refine blk_exit_ne rfl ?_
              refine then_exit ?_
              refine blk_exit ?_
              refine blk_normal ?_
              refine then_normal (hJ283 _ _ _ ⟨[(2, (.int .i64 del7)), (3, (.int .i64 (add9 + (1 : Int))))], fit_mk (AgB.look (fun _ _ => rfl) (by kernel_rfl)) (by kernel_rfl) (vs_cons (by kernel_rfl) (vs_cons (by kernel_rfl) vs_nil)), ?_⟩)
              exact ⟨X303, del7, (add9 + (1 : Int)), rfl, E335, hXo336, hS337, hl338, rdel8, h355, hp⟩
            ·
              replace hp := hp.2 h353
              refine wp_skip ?_
              refine then_normal (K344 _ _ _ _ ?_)
              refine wp_exit ?_
              refine blk_exit_ne rfl ?_
              refine then_exit ?_
              refine blk_exit_ne rfl ?_
              refine then_exit ?_
              refine then_exit ?_
              refine blk_exit_ne rfl ?_
              refine then_exit ?_
              refine blk_exit ?_
              refine then_normal (K312 _ _ _ _ ?_)
              refine seq_ (fun _ K356 => ?_)
              refine seq_ (fun _ K357 => ?_)
              refine reg_ ?_
              refine sq (o_pv (.int .i64 (0 : Int)) rfl (by kernel_rfl) ?_)
              refine sq (o_pv (.int .i64 (0 : Int)) rfl (by kernel_rfl) ?_)
              refine sq (o_pv (.bool false) rfl (by kernel_rfl) ?_)
              refine nil_ ?_
              refine then_normal (K357 _ _ _ _ ?_)
              refine wp_ret ?_
              refine then_ret ?_
              refine blk_ret ?_
              refine blk_ret ?_
              refine then_ret ?_
              refine then_ret ?_
              refine then_ret ?_
              refine blk_ret ?_
              refine then_ret ?_
              refine end_ret hQ (.tuple #[(.int .i64 (0 : Int)), (.int .i64 (0 : Int)), (.bool false)]) (by kernel_rfl) ?_
              exact ⟨(0 : Int), (0 : Int), false, hp, E335, rfl, (by decide : inR .i64 (0 : Int)), (by decide : inR .i64 (0 : Int))⟩
      ·
        rintro _ w330 g358 ⟨X331, add326, rfl, E339, hXo340, hS341, hl342, radd327, hv334⟩
        replace hp := hk329 add326 hv334 radd327
        refine then_normal (K314 _ _ _ _ ?_)
        refine seq_ (fun _ K359 => ?_)
        refine reg_ ?_
        refine sq (o_pv (.int .i64 del7) rfl (by kernel_rfl) ?_)
        obtain ⟨h360, hp⟩ := hp
        refine sq (o_pv (.int .i64 (del7 + (1 : Int))) rfl (x_add2 (k := .i64) (a := del7) (b := (1 : Int)) (del7 + (1 : Int)) (by kernel_rfl) (by kernel_rfl) (wrap_inR h360)) ?_)
        refine sq (o_pv (.int .i64 (del7 + (1 : Int))) rfl (by kernel_rfl) ?_)
        refine nil_ ?_
        refine then_normal (K359 _ _ _ _ ?_)
        refine wp_exit ?_
        refine blk_exit_ne rfl ?_
        refine then_exit ?_
        refine blk_exit_ne rfl ?_
        refine then_exit ?_
        refine blk_exit ?_
        refine blk_normal ?_
        refine then_normal (hJ283 _ _ _ ⟨[(2, (.int .i64 (del7 + (1 : Int)))), (3, (.int .i64 add326))], fit_mk (AgB.nest (AgB.look (fun _ _ => rfl) (by kernel_rfl)) (by kernel_rfl) (by kernel_rfl)) (by kernel_rfl) (vs_cons (by kernel_rfl) (vs_cons (by kernel_rfl) vs_nil)), ?_⟩)
        exact ⟨X331, (del7 + (1 : Int)), add326, rfl, E339, hXo340, hS341, hl342, h360, radd327, hp⟩
    ·
      rintro _ w280 g361 ⟨X281, del274, add276, rfl, E285, hXo286, hS287, hl288, rdel275, radd277, hv284⟩
      replace hp := hk279 del274 add276 hv284 rdel275 radd277
      refine then_normal (K201 _ _ _ _ ?_)
      refine reg_ ?_
      obtain ⟨h362, hp⟩ := hp
      refine sq (o_pv (.int .i64 (s11 + (1 : Int))) rfl (x_add2 (k := .i64) (a := s11) (b := (1 : Int)) (s11 + (1 : Int)) (by kernel_rfl) (by kernel_rfl) (wrap_inR h362)) ?_)
      refine sq (o_pv (.int .i64 (s11 + (1 : Int))) rfl (by kernel_rfl) ?_)
      refine nil_ ?_
      refine then_normal (hA193 _ _ _ ⟨_, [(2, (.int .i64 del274)), (3, (.int .i64 add276)), (9, (.int .i64 (s11 + (1 : Int))))], hp.2, fit_mk (AgB.nest (AgB.look (AgB.mix _ _ _) (by kernel_rfl)) (by kernel_rfl) (by kernel_rfl)) (by kernel_rfl) (vs_cons (by kernel_rfl) (vs_cons (by kernel_rfl) (vs_cons (by kernel_rfl) vs_nil))), ?_⟩)
      exact ⟨X281, del274, add276, (s11 + (1 : Int)), rfl, rfl, E285, hXo286, hS287, hl288, rdel275, radd277, h362, hp.1⟩
  ·
    replace hp := hp.2 h200
    refine wp_exit ?_
    refine then_exit ?_
    refine then_exit ?_
    refine blk_exit ?_
    refine then_normal (K5 _ _ _ _ ?_)
    refine seq_ (fun _ K363 => ?_)
    refine reg_ ?_
    refine sq (o_pv (.int .i64 del7) rfl (by kernel_rfl) ?_)
    refine sq (o_pv (.int .i64 add9) rfl (by kernel_rfl) ?_)
    refine sq (o_pv (.int .i64 del7) rfl (by kernel_rfl) ?_)
    refine sq (o_pv (.int .i64 add9) rfl (by kernel_rfl) ?_)
    refine sq (o_pv (.bool true) rfl (by kernel_rfl) ?_)
    refine nil_ ?_
    refine then_normal (K363 _ _ _ _ ?_)
    refine wp_ret ?_
    refine end_ret hQ (.tuple #[(.int .i64 del7), (.int .i64 add9), (.bool true)]) (by kernel_rfl) ?_
    exact ⟨del7, add9, true, hp, E194, rfl, rdel8, radd10⟩

def slices_Clone_diff_Edit_diff_Edit_p (s : (List S_diff_Edit)) (Q : (List S_diff_Edit) → Prop) : Prop :=
  ((s.length ≤ 9223372036854775807) → ((s.length * 24 ≤ 140737488355328) ∧ Q s))
set_option maxRecDepth 20000 in
set_option maxHeartbeats 4000000 in
theorem slices_Clone_diff_Edit_diff_Edit_w {X : List Nat} {w : World} {s : (List S_diff_Edit)} {as1 : Option Addr} {cs2 : Nat} {Q : (List S_diff_Edit) → Prop} (hX0 : Old X w) (hs3 : Sq r_diff_Edit X w as1 cs2 s) (hp : slices_Clone_diff_Edit_diff_Edit_p s Q) :
    Calls Tryd.prog 37 #[(.slice as1 s.length cs2)] w (Ret fun v w' => ∃ (r0 : (List S_diff_Edit)), Q r0 ∧ Evo [] w w' ∧ ∃ (a0 : Option Addr) (c0 : Nat), v = .slice a0 r0.length c0 ∧ OS r_diff_Edit [] w.heap.size (blkL a0 ++ X) w' 48 a0 r0.length c0 r0) := by
  have hXo := hX0
  have E0 : Evo [] w w := RB.refl _ _ _
  have hS : Sub X X := Sub.refl _
  unfold slices_Clone_diff_Edit_diff_Edit_p at hp
  refine enter_ Tryd.func37 rfl 8 [(0, (.slice as1 s.length cs2))] (by kernel_rfl) (fun Qe hQ => ?_)
  replace hp := hp (Sq.len hs3)
  refine seq_ (fun _ K4 => ?_)
  refine reg_ ?_
  refine sq (o_pv (.slice none 0 0) rfl (by kernel_rfl) ?_)
  refine nil_ ?_
  refine then_normal (K4 _ _ _ _ ?_)
  refine seq_ (fun _ K5 => ?_)
  refine seq_ (fun _ K6 => ?_)
  refine reg_ ?_
  refine sq (o_pv (.slice as1 s.length cs2) rfl (by kernel_rfl) ?_)
  rcases as1 with _ | ad
  ·
    obtain rfl : s = [] := hs3.2.elim (fun h => h.1) (fun ⟨b, o, xs, h, _⟩ => by cases h)
    replace hp := hp.2
    refine sq (o_pv (.bool true) rfl (by kernel_rfl) ?_)
    refine nil_ ?_
    refine then_normal (K6 _ _ _ _ ?_)
    refine cond_t (by kernel_rfl) ?_
    refine seq_ (fun _ K7 => ?_)
    refine reg_ ?_
    refine sq (o_pv (.slice none 0 0) rfl (by kernel_rfl) ?_)
    refine nil_ ?_
    refine then_normal (K7 _ _ _ _ ?_)
    refine wp_ret ?_
    refine then_ret ?_
    refine end_ret hQ (.slice none 0 0) (by kernel_rfl) ?_
    exact ⟨([] : List S_diff_Edit), hp, E0, none, 0, rfl, (OS.nil _ _ _ _)⟩
  ·
    refine sq (o_pv (.bool false) rfl (by kernel_rfl) ?_)
    refine nil_ ?_
    refine then_normal (K6 _ _ _ _ ?_)
    refine cond_f (by kernel_rfl) ?_
    refine wp_skip ?_
    refine then_normal (K5 _ _ _ _ ?_)
    refine seq_ (fun _ K8 => ?_)
    refine reg_ ?_
    refine sq (o_rowX (R := r_diff_Edit) [] ([] : List S_diff_Edit) 48 0 (X := X) (B := w.heap.size) E0.size rfl (by kernel_rfl) Flat.nil rfl (by decide) ?_)
    intro b9 w10 X11 s12 O13 n14
    refine sq (o_pv (.slice (some ad) s.length cs2) rfl (by kernel_rfl) ?_)
    obtain ⟨h15, hp⟩ := hp
    have hs16 := (Sq.step hs3 s12)
    have E17 := (Evo.then0 E0 (Step.evo s12))
    refine sq (o_appX (R := r_diff_Edit) (X := X11) (B := w.heap.size) (L := ([] : List S_diff_Edit)) (M := s) rfl elT33 rfl E17.size O13 (Sq.src hs16) rfl (by kernel_rfl) (by kernel_rfl) (by simpa using h15) ?_)
    intro a18 n19 c20 w21 X22 s23 O24 gr25
    rw [List.nil_append] at O24
    refine sq (o_pv (.slice a18 n19 c20) rfl (by kernel_rfl) ?_)
    refine nil_ ?_
    refine then_normal (K8 _ _ _ _ ?_)
    refine wp_ret ?_
    have hS26 := (Sub.trans (Sub.trans hS (Step.up s12)) (Step.up s23))
    have E27 := (Evo.thenW E17 (Step.evo s23) O13.2.2)
    refine end_ret hQ (.slice a18 n19 c20) (by kernel_rfl) ?_
    exact ⟨s, hp, E27, a18, c20, (by (rw [show n19 = s.length from O24.1]); first | done | rfl), (OS.give O24 hS26)⟩

def slices_Clip_diff_Edit_diff_Edit_p (s : (List S_diff_Edit)) (Q : (List S_diff_Edit) → Prop) : Prop :=
  ((s.length ≤ 9223372036854775807) → ((0 ≤ (s.length : Int) ∧ (s.length : Int) ≤ (s.length : Int)) ∧ Q s))
set_option maxRecDepth 20000 in
set_option maxHeartbeats 4000000 in
theorem slices_Clip_diff_Edit_diff_Edit_w {X : List Nat} {w : World} {s : (List S_diff_Edit)} {as1 : Option Addr} {cs2 : Nat} {Q : (List S_diff_Edit) → Prop} (hX0 : Old X w) (hs3 : Sl r_diff_Edit X w as1 cs2 s) (hp : slices_Clip_diff_Edit_diff_Edit_p s Q) :
    Calls Tryd.prog 36 #[(.slice as1 s.length cs2)] w (Ret fun v w' => ∃ (r0 : (List S_diff_Edit)), Q r0 ∧ Evo [] w w' ∧ ∃ (aq01 : Option Addr), v = (.slice aq01 r0.length r0.length) ∧ Sl r_diff_Edit X w' aq01 r0.length r0) := by
  have hXo := hX0
  have E0 : Evo [] w w := RB.refl _ _ _
  have hS : Sub X X := Sub.refl _
  unfold slices_Clip_diff_Edit_diff_Edit_p at hp
  refine enter_ Tryd.func36 rfl 9 [(0, (.slice as1 s.length cs2))] (by kernel_rfl) (fun Qe hQ => ?_)
  replace hp := hp (Sl.len hs3)
  refine seq_ (fun _ K4 => ?_)
  refine reg_ ?_
  refine sq (o_pv (.slice none 0 0) rfl (by kernel_rfl) ?_)
  refine nil_ ?_
  refine then_normal (K4 _ _ _ _ ?_)
  refine seq_ (fun _ K5 => ?_)
  refine reg_ ?_
  refine sq (o_pv (.slice as1 s.length cs2) rfl (by kernel_rfl) ?_)
  refine sq (o_pv (.slice as1 s.length cs2) rfl (by kernel_rfl) ?_)
  refine sq (o_pv (.int .i64 (s.length : Int)) rfl (by kernel_rfl) ?_)
  refine sq (o_pv (.slice as1 s.length cs2) rfl (by kernel_rfl) ?_)
  refine sq (o_pv (.int .i64 (s.length : Int)) rfl (by kernel_rfl) ?_)
  obtain ⟨h9, hp⟩ := hp
  refine sq (o_slice3F (R := r_diff_Edit) (k := .i64) (k' := .i64) (X := X) (L := s) (s.length : Int) Tryd.underlying33 Tryd.sizeOf48 hs3 (by kernel_rfl) rfl rfl (by kernel_rfl) (by kernel_rfl) h9 ?_)
  intro a6 h8
  rw [take_len] at h8
  rw [take_len]
  refine sq (o_pv (.slice a6 s.length s.length) rfl (by kernel_rfl) ?_)
  refine nil_ ?_
  refine then_normal (K5 _ _ _ _ ?_)
  refine wp_ret ?_
  refine end_ret hQ (.slice a6 s.length s.length) (by kernel_rfl) ?_
  exact ⟨s, hp, E0, a6, rfl, (Sl.less h8 hS)⟩
theorem slices_Clip_diff_Edit_diff_Edit_keep {w : World} {a : Option Addr} {m c : Nat} (hmc : m ≤ c) : Calls Tryd.prog 36 #[(.slice a m c)] w (Ret fun v w' => v = (.slice a m m) ∧ w = w') := by
  refine enter_ Tryd.func36 rfl 9 [(0, (.slice a m c))] (by kernel_rfl) (fun Qe hQ => ?_)
  refine seq_ (fun _ K4 => ?_)
  refine reg_ ?_
  refine sq (o_pv (.slice none 0 0) rfl (by kernel_rfl) ?_)
  refine nil_ ?_
  refine then_normal (K4 _ _ _ _ ?_)
  refine seq_ (fun _ K5 => ?_)
  refine reg_ ?_
  refine sq (o_pv (.slice a m c) rfl (by kernel_rfl) ?_)
  refine sq (o_pv (.slice a m c) rfl (by kernel_rfl) ?_)
  refine sq (o_pv (.int .i64 (m : Int)) rfl (by kernel_rfl) ?_)
  refine sq (o_pv (.slice a m c) rfl (by kernel_rfl) ?_)
  refine sq (o_pv (.int .i64 (m : Int)) rfl (by kernel_rfl) ?_)
  refine sq (o_slice3K (a := a) (m := m) (c := c) (k := .i64) (k' := .i64) Tryd.underlying33 Tryd.sizeOf48 (by kernel_rfl) hmc rfl (by kernel_rfl) (by kernel_rfl) ?_)
  refine sq (o_pv (.slice a m m) rfl (by kernel_rfl) ?_)
  refine nil_ ?_
  refine then_normal (K5 _ _ _ _ ?_)
  refine wp_ret ?_
  refine end_ret hQ (.slice a m m) (by kernel_rfl) ?_
  exact ⟨rfl, rfl⟩

def patch_hunk_p (l : (List S_diff_Edit)) (from_ : Int) (to_ : Int) (Q : S_patch_Hunk → Prop) : Prop :=
  ((l.length ≤ 9223372036854775807) → ((inR .i64 from_) → ((inR .i64 to_) → (((0 : Int) ≤ from_ ∧ from_ ≤ (l.length : Int)) ∧ (patch_counts_p (l.take from_.toNat) (fun (r19 : Int) (r20 : Int) (r21 : Bool) => ((inR .i64 r19) → ((inR .i64 r20) → ((0 ≤ from_ ∧ from_ ≤ to_ ∧ to_ ≤ (l.length : Int)) ∧ (patch_counts_p ((l.take to_.toNat).drop from_.toNat) (fun (r33 : Int) (r34 : Int) (r35 : Bool) => ((inR .i64 r33) → ((inR .i64 r34) → ((0 ≤ from_ ∧ from_ ≤ to_ ∧ to_ ≤ (l.length : Int)) ∧ (slices_Clone_diff_Edit_diff_Edit_p ((l.take to_.toNat).drop from_.toNat) (fun (r48 : (List S_diff_Edit)) => ((r48.length ≤ 9223372036854775807) → (slices_Clip_diff_Edit_diff_Edit_p r48 (fun (r75 : (List S_diff_Edit)) => ((r75.length ≤ 9223372036854775807) → Q (S_patch_Hunk.mk r19 r33 r20 r34 r75)))))))))))))))))))))
set_option maxRecDepth 20000 in
set_option maxHeartbeats 4000000 in
theorem patch_hunk_w {X : List Nat} {w : World} {l : (List S_diff_Edit)} {from_ : Int} {to_ : Int} {al1 : Option Addr} {cl2 : Nat} {Q : S_patch_Hunk → Prop} (hX0 : Old X w) (hl3 : Sl r_diff_Edit X w al1 cl2 l) (rfrom_4 : inR .i64 from_) (rto_5 : inR .i64 to_) (hp : patch_hunk_p l from_ to_ Q) :
    Calls Tryd.prog 20 #[(.slice al1 l.length cl2), (.int .i64 from_), (.int .i64 to_)] w (Ret fun v w' => ∃ (r0 : S_patch_Hunk), Q r0 ∧ Evo [] w w' ∧ ∃ (aq0Lines5 : Option Addr) (cq0Lines6 : Nat), v = (.agg #[(.int .i64 r0.At), (.int .i64 r0.Del), (.int .i64 r0.To), (.int .i64 r0.Add), (.slice aq0Lines5 r0.Lines.length cq0Lines6)]) ∧ inR .i64 r0.At ∧ inR .i64 r0.Del ∧ inR .i64 r0.To ∧ inR .i64 r0.Add ∧ Sl r_diff_Edit X w' aq0Lines5 cq0Lines6 r0.Lines) := by
  have hXo := hX0
  have E0 : Evo [] w w := RB.refl _ _ _
  have hS : Sub X X := Sub.refl _
  unfold patch_hunk_p at hp
  refine enter_ Tryd.func20 rfl 41 [(0, (.slice al1 l.length cl2)), (1, (.int .i64 from_)), (2, (.int .i64 to_))] (by kernel_rfl) (fun Qe hQ => ?_)
  replace hp := hp (Sl.len hl3)
  replace hp := hp rfrom_4
  replace hp := hp rto_5
  refine seq_ (fun _ K6 => ?_)
  refine reg_ ?_
  refine sq (o_newX [(.int .i64 (0 : Int)), (.int .i64 (0 : Int)), (.int .i64 (0 : Int)), (.int .i64 (0 : Int)), (.slice none 0 0)] 50 (X := X) (B := w.heap.size) E0.size rfl (by kernel_rfl) ?_)
  intro b7 w8 X9 s10 k11 n12
  refine nil_ ?_
  refine then_normal (K6 _ _ _ _ ?_)
  refine seq_ (fun _ K13 => ?_)
  refine reg_ ?_
  refine sq (o_pv (.slice al1 l.length cl2) rfl (by kernel_rfl) ?_)
  refine sq (o_pv (.int .i64 from_) rfl (by kernel_rfl) ?_)
  have hl14 := (Sl.step hl3 s10)
  obtain ⟨h18, hp⟩ := hp
  refine sq (o_slice (R := r_diff_Edit) (X := X9) (L := l) 0 from_.toNat (l.take from_.toNat) rfl Tryd.underlying33 Tryd.sizeOf48 hl14 (by kernel_rfl) rfl (.inl ⟨rfl, rfl⟩) (.inr ⟨.i64, by rw [show ((from_.toNat : Nat) : Int) = from_ from by omega]; kernel_rfl⟩) (by omega) (by omega) (by rw [List.drop_zero]) ?_)
  intro a15 c16 h17
  refine sq (o_call 35 #[(.slice a15 (l.take from_.toNat).length c16)] rfl (x_call Tryd.call35 (by rw []; kernel_rfl)) (patch_counts_w (X := []) (l := l.take from_.toNat) (Old.nil _) (Sl.less h17 (Sub.nil _)) hp) ?_)
  rintro _ w22 ⟨r19, r20, r21, hp, e23, rfl, rr25, rr26⟩
  have s24 := Step.of0 X9 e23
  replace hp := hp rr25
  replace hp := hp rr26
  refine sq (o_pv (.tuple #[(.int .i64 r19), (.int .i64 r20), (.bool r21)]) rfl (by kernel_rfl) ?_)
  refine sq (o_pv (.int .i64 r19) rfl (by kernel_rfl) ?_)
  refine sq (o_pv (.int .i64 r20) rfl (by kernel_rfl) ?_)
  refine sq (o_pv (.bool r21) rfl (by kernel_rfl) ?_)
  refine sq (o_pv (.int .i64 r19) rfl (by kernel_rfl) ?_)
  refine sq (o_pv (.int .i64 r20) rfl (by kernel_rfl) ?_)
  refine sq (o_pv (.bool r21) rfl (by kernel_rfl) ?_)
  refine nil_ ?_
  refine then_normal (K13 _ _ _ _ ?_)
  refine seq_ (fun _ K27 => ?_)
  refine reg_ ?_
  refine sq (o_pv (.slice al1 l.length cl2) rfl (by kernel_rfl) ?_)
  refine sq (o_pv (.int .i64 from_) rfl (by kernel_rfl) ?_)
  refine sq (o_pv (.int .i64 to_) rfl (by kernel_rfl) ?_)
  have hl28 := (Sl.step hl14 s24)
  obtain ⟨h32, hp⟩ := hp
  refine sq (o_slice (R := r_diff_Edit) (X := X9) (L := l) from_.toNat to_.toNat ((l.take to_.toNat).drop from_.toNat) rfl Tryd.underlying33 Tryd.sizeOf48 hl28 (by kernel_rfl) rfl (.inr ⟨.i64, by rw [show ((from_.toNat : Nat) : Int) = from_ from by omega]; kernel_rfl⟩) (.inr ⟨.i64, by rw [show ((to_.toNat : Nat) : Int) = to_ from by omega]; kernel_rfl⟩) (by omega) (by omega) rfl ?_)
  intro a29 c30 h31
  refine sq (o_call 35 #[(.slice a29 ((l.take to_.toNat).drop from_.toNat).length c30)] rfl (x_call Tryd.call35 (by rw []; kernel_rfl)) (patch_counts_w (X := []) (l := (l.take to_.toNat).drop from_.toNat) (Old.nil _) (Sl.less h31 (Sub.nil _)) hp) ?_)
  rintro _ w36 ⟨r33, r34, r35, hp, e37, rfl, rr39, rr40⟩
  have s38 := Step.of0 X9 e37
  replace hp := hp rr39
  replace hp := hp rr40
  refine sq (o_pv (.tuple #[(.int .i64 r33), (.int .i64 r34), (.bool r35)]) rfl (by kernel_rfl) ?_)
  refine sq (o_pv (.int .i64 r33) rfl (by kernel_rfl) ?_)
  refine sq (o_pv (.int .i64 r34) rfl (by kernel_rfl) ?_)
  refine sq (o_pv (.bool r35) rfl (by kernel_rfl) ?_)
  refine sq (o_pv (.int .i64 r33) rfl (by kernel_rfl) ?_)
  refine sq (o_pv (.int .i64 r34) rfl (by kernel_rfl) ?_)
  refine sq (o_pv (.bool r35) rfl (by kernel_rfl) ?_)
  refine nil_ ?_
  refine then_normal (K27 _ _ _ _ ?_)
  refine seq_ (fun _ K41 => ?_)
  refine reg_ ?_
  refine sq (o_pv (.int .i64 r19) rfl (by kernel_rfl) ?_)
  refine sq (o_pv (.int .i64 r33) rfl (by kernel_rfl) ?_)
  refine sq (o_pv (.int .i64 r20) rfl (by kernel_rfl) ?_)
  refine sq (o_pv (.int .i64 r34) rfl (by kernel_rfl) ?_)
  refine sq (o_pv (.slice al1 l.length cl2) rfl (by kernel_rfl) ?_)
  refine sq (o_pv (.int .i64 from_) rfl (by kernel_rfl) ?_)
  refine sq (o_pv (.int .i64 to_) rfl (by kernel_rfl) ?_)
  have hl42 := (Sl.step hl28 s38)
  obtain ⟨h46, hp⟩ := hp
  refine sq (o_slice (R := r_diff_Edit) (X := X9) (L := l) from_.toNat to_.toNat ((l.take to_.toNat).drop from_.toNat) rfl Tryd.underlying33 Tryd.sizeOf48 hl42 (by kernel_rfl) rfl (.inr ⟨.i64, by rw [show ((from_.toNat : Nat) : Int) = from_ from by omega]; kernel_rfl⟩) (.inr ⟨.i64, by rw [show ((to_.toNat : Nat) : Int) = to_ from by omega]; kernel_rfl⟩) (by omega) (by omega) rfl ?_)
  intro a43 c44 h45
  have hXo47 := (Old.step (Old.step (Old.step hXo s10) s24) s38)
  have k55 := (OB.step0 (OB.step0 k11 s24) s38)
  refine sq (o_call 37 #[(.slice a43 ((l.take to_.toNat).drop from_.toNat).length c44)] rfl (x_call Tryd.call37 (by rw []; kernel_rfl)) (slices_Clone_diff_Edit_diff_Edit_w (X := X9) (s := (l.take to_.toNat).drop from_.toNat) hXo47 (Sl.sq h45) hp) ?_)
  rintro _ w49 ⟨r48, hp, e50, a52, c53, rfl, O54⟩
  have E59 := (Evo.then0 (Evo.then0 (Evo.then0 E0 (Step.evo s10)) e23) e37)
  obtain ⟨X56, s51, O57, n58⟩ := OS.own_in O54 e50 E59.size
  have p60 := n58 _ (OB.old k55)
  replace hp := hp (OS.len O57)
  have hS61 := (Sub.trans (Sub.trans (Sub.trans (Sub.trans hS (Step.up s10)) (Step.up s24)) (Step.up s38)) (Step.up s51))
  have hl67 := (Sl.step hl42 s51)
  have hXo68 := (Old.step hXo47 s51)
  have E69 := (Evo.then0 E59 (Step.evo s51))
  have k70 := (OB.step0 k55 s51)
  have h71 := (Sl.step (Sl.step (Sl.step h17 s24) s38) s51)
  have h72 := (Sl.step (Sl.step h31 s38) s51)
  have h73 := (Sl.step h45 s51)
  have ax66 := OS.apold O57 hX0
  obtain ⟨X62, u63, r64, hm65⟩ := OS.release O57
  have hXo74 := (Old.less hXo68 u63)
  refine sq (o_call 36 #[(.slice a52 r48.length c53)] rfl (x_call Tryd.call36 (by kernel_rfl)) (slices_Clip_diff_Edit_diff_Edit_w (X := X62) (s := r48) hXo74 r64 hp) ?_)
  rintro _ w76 ⟨r75, hp, e77, ar79, rfl, hr80⟩
  have s78 := Step.of0 X62 e77
  replace hp := hp (Sl.len hr80)
  refine sq (o_pv (.agg #[(.int .i64 r19), (.int .i64 r33), (.int .i64 r20), (.int .i64 r34), (.slice ar79 r75.length r75.length)]) rfl (by kernel_rfl) ?_)
  have k81 := (OB.step0 (OB.less k70 (hm65 _ p60 (OB.mem k70))) s78)
  have E82 := (Evo.then0 E69 e77)
  refine sq (o_stB (o := 0) (v := (.agg #[(.int .i64 r19), (.int .i64 r33), (.int .i64 r20), (.int .i64 r34), (.slice ar79 r75.length r75.length)])) [(.int .i64 r19), (.int .i64 r33), (.int .i64 r20), (.int .i64 r34), (.slice ar79 r75.length r75.length)] rfl k81 (by kernel_rfl) (by kernel_rfl) Tryd.sizeOf50 rfl rfl rfl ?_)
  intro w83 s84 k85
  refine nil_ ?_
  refine then_normal (K41 _ _ _ _ ?_)
  refine wp_ret ?_
  have hr86 := (Sl.step hr80 s84)
  have hS87 := (Sub.trans (Sub.trans (hm65 _ ax66 hS61) (Step.up s78)) (Step.up s84))
  have E88 := (Evo.thenW E82 (Step.evo s84) k81.2.2)
  refine end_ret hQ (.agg #[(.int .i64 r19), (.int .i64 r33), (.int .i64 r20), (.int .i64 r34), (.slice ar79 r75.length r75.length)]) (rs_single Tryd.results20 (rs_agg [(.int .i64 r19), (.int .i64 r33), (.int .i64 r20), (.int .i64 r34), (.slice ar79 r75.length r75.length)] (by kernel_rfl) Tryd.isAgg50 Tryd.sizeOf50 (k85.2.1.cells' 0 rfl))) ?_
  exact ⟨(S_patch_Hunk.mk r19 r33 r20 r34 r75), hp, E88, ar79, r75.length, rfl, rr25, rr39, rr26, rr40, (Sl.less hr86 hS87)⟩

def slices_Clip_patch_Hunk_patch_Hunk_p (s : (List S_patch_Hunk)) (Q : (List S_patch_Hunk) → Prop) : Prop :=
  ((s.length ≤ 9223372036854775807) → ((0 ≤ (s.length : Int) ∧ (s.length : Int) ≤ (s.length : Int)) ∧ Q s))
set_option maxRecDepth 20000 in
set_option maxHeartbeats 4000000 in
theorem slices_Clip_patch_Hunk_patch_Hunk_w {X : List Nat} {w : World} {s : (List S_patch_Hunk)} {as1 : Option Addr} {cs2 : Nat} {Q : (List S_patch_Hunk) → Prop} (hX0 : Old X w) (hs3 : Sl r_patch_Hunk X w as1 cs2 s) (hp : slices_Clip_patch_Hunk_patch_Hunk_p s Q) :
    Calls Tryd.prog 21 #[(.slice as1 s.length cs2)] w (Ret fun v w' => ∃ (r0 : (List S_patch_Hunk)), Q r0 ∧ Evo [] w w' ∧ ∃ (aq01 : Option Addr), v = (.slice aq01 r0.length r0.length) ∧ Sl r_patch_Hunk X w' aq01 r0.length r0) := by
  have hXo := hX0
  have E0 : Evo [] w w := RB.refl _ _ _
  have hS : Sub X X := Sub.refl _
  unfold slices_Clip_patch_Hunk_patch_Hunk_p at hp
  refine enter_ Tryd.func21 rfl 9 [(0, (.slice as1 s.length cs2))] (by kernel_rfl) (fun Qe hQ => ?_)
  replace hp := hp (Sl.len hs3)
  refine seq_ (fun _ K4 => ?_)
  refine reg_ ?_
  refine sq (o_pv (.slice none 0 0) rfl (by kernel_rfl) ?_)
  refine nil_ ?_
  refine then_normal (K4 _ _ _ _ ?_)
  refine seq_ (fun _ K5 => ?_)
  refine reg_ ?_
  refine sq (o_pv (.slice as1 s.length cs2) rfl (by kernel_rfl) ?_)
  refine sq (o_pv (.slice as1 s.length cs2) rfl (by kernel_rfl) ?_)
  refine sq (o_pv (.int .i64 (s.length : Int)) rfl (by kernel_rfl) ?_)
  refine sq (o_pv (.slice as1 s.length cs2) rfl (by kernel_rfl) ?_)
  refine sq (o_pv (.int .i64 (s.length : Int)) rfl (by kernel_rfl) ?_)
  obtain ⟨h9, hp⟩ := hp
  refine sq (o_slice3F (R := r_patch_Hunk) (k := .i64) (k' := .i64) (X := X) (L := s) (s.length : Int) Tryd.underlying31 Tryd.sizeOf50 hs3 (by kernel_rfl) rfl rfl (by kernel_rfl) (by kernel_rfl) h9 ?_)
  intro a6 h8
  rw [take_len] at h8
  rw [take_len]
  refine sq (o_pv (.slice a6 s.length s.length) rfl (by kernel_rfl) ?_)
  refine nil_ ?_
  refine then_normal (K5 _ _ _ _ ?_)
  refine wp_ret ?_
  refine end_ret hQ (.slice a6 s.length s.length) (by kernel_rfl) ?_
  exact ⟨s, hp, E0, a6, rfl, (Sl.less h8 hS)⟩
theorem slices_Clip_patch_Hunk_patch_Hunk_keep {w : World} {a : Option Addr} {m c : Nat} (hmc : m ≤ c) : Calls Tryd.prog 21 #[(.slice a m c)] w (Ret fun v w' => v = (.slice a m m) ∧ w = w') := by
  refine enter_ Tryd.func21 rfl 9 [(0, (.slice a m c))] (by kernel_rfl) (fun Qe hQ => ?_)
  refine seq_ (fun _ K4 => ?_)
  refine reg_ ?_
  refine sq (o_pv (.slice none 0 0) rfl (by kernel_rfl) ?_)
  refine nil_ ?_
  refine then_normal (K4 _ _ _ _ ?_)
  refine seq_ (fun _ K5 => ?_)
  refine reg_ ?_
  refine sq (o_pv (.slice a m c) rfl (by kernel_rfl) ?_)
  refine sq (o_pv (.slice a m c) rfl (by kernel_rfl) ?_)
  refine sq (o_pv (.int .i64 (m : Int)) rfl (by kernel_rfl) ?_)
  refine sq (o_pv (.slice a m c) rfl (by kernel_rfl) ?_)
  refine sq (o_pv (.int .i64 (m : Int)) rfl (by kernel_rfl) ?_)
  refine sq (o_slice3K (a := a) (m := m) (c := c) (k := .i64) (k' := .i64) Tryd.underlying31 Tryd.sizeOf50 (by kernel_rfl) hmc rfl (by kernel_rfl) (by kernel_rfl) ?_)
  refine sq (o_pv (.slice a m m) rfl (by kernel_rfl) ?_)
  refine nil_ ?_
  refine then_normal (K5 _ _ _ _ ?_)
  refine wp_ret ?_
  refine end_ret hQ (.slice a m m) (by kernel_rfl) ?_
  exact ⟨rfl, rfl⟩

def patch_Hunks_p (l : (List S_diff_Edit)) (around : Int) (Q : (List S_patch_Hunk) → Prop) : Prop :=
  ((l.length ≤ 9223372036854775807) → ((inR .i64 around) → (∃ (I661 : (List S_patch_Hunk) → Int → Int → Int → Prop) (m662 : (List S_patch_Hunk) → Int → Int → Int → Nat), (I661 ([] : List S_patch_Hunk) (0 : Int) (-1 : Int) (0 : Int)) ∧ (∀ (out324 : (List S_patch_Hunk)) (from_329 : Int) (to_331 : Int) (s333 : Int), (I661 out324 from_329 to_331 s333) → (out324.length ≤ 9223372036854775807) → (inR .i64 from_329) → (inR .i64 to_331) → (inR .i64 s333) → (((s333 < (l.length : Int)) → (∃ k830 : (List S_patch_Hunk) → Int → Int → Prop, (∀ (out821 : (List S_patch_Hunk)) (from_826 : Int) (to_828 : Int), k830 out821 from_826 to_828 → (out821.length ≤ 9223372036854775807) → (inR .i64 from_826) → (inR .i64 to_828) → ((inR .i64 (s333 + (1 : Int))) ∧ ((I661 out821 from_826 to_828 (s333 + (1 : Int))) ∧ m662 out821 from_826 to_828 (s333 + (1 : Int)) < m662 out324 from_329 to_331 s333))) ∧ ((inL l s333) ∧ ((inR .i64 ((lget l s333).Op)) → ((((lget l s333).Line).size ≤ maxLen) → (((((lget l s333).Op) = (1 : Int)) → (k830 out324 from_329 to_331)) ∧ ((¬ (((lget l s333).Op) = (1 : Int))) → ((inR .i64 (s333 - (min (max around (0 : Int)) (16 : Int)))) ∧ ((inR .i64 (s333 + (1 : Int))) ∧ ((inR .i64 ((s333 + (1 : Int)) + (min (max around (0 : Int)) (16 : Int)))) ∧ (∃ k927 : (List S_patch_Hunk) → Int → Prop, (∀ (out920 : (List S_patch_Hunk)) (from_925 : Int), k927 out920 from_925 → (out920.length ≤ 9223372036854775807) → (inR .i64 from_925) → (k830 out920 from_925 (min ((s333 + (1 : Int)) + (min (max around (0 : Int)) (16 : Int))) (l.length : Int)))) ∧ (((to_331 < (0 : Int)) → (k927 out324 (max (s333 - (min (max around (0 : Int)) (16 : Int))) (0 : Int)))) ∧ ((¬ (to_331 < (0 : Int))) → ((((max (s333 - (min (max around (0 : Int)) (16 : Int))) (0 : Int)) > to_331) → (patch_hunk_p l from_329 to_331 (fun (r948 : S_patch_Hunk) => ((inR .i64 r948.At) → ((inR .i64 r948.Del) → ((inR .i64 r948.To) → ((inR .i64 r948.Add) → ((r948.Lines.length ≤ 9223372036854775807) → (((out324.length + ([r948]).length) * 56 ≤ 140737488355328) ∧ (k927 (out324 ++ ([r948])) (max (s333 - (min (max around (0 : Int)) (16 : Int))) (0 : Int)))))))))))) ∧ ((¬ ((max (s333 - (min (max around (0 : Int)) (16 : Int))) (0 : Int)) > to_331)) → (k927 out324 from_329)))))))))))))))) ∧ ((¬ (s333 < (l.length : Int))) → (∃ k1029 : (List S_patch_Hunk) → Prop, (∀ (out1024 : (List S_patch_Hunk)), k1029 out1024 → (out1024.length ≤ 9223372036854775807) → (slices_Clip_patch_Hunk_patch_Hunk_p out1024 (fun (r1082 : (List S_patch_Hunk)) => ((r1082.length ≤ 9223372036854775807) → Q r1082)))) ∧ (((to_331 ≥ (0 : Int)) → (patch_hunk_p l from_329 to_331 (fun (r1040 : S_patch_Hunk) => ((inR .i64 r1040.At) → ((inR .i64 r1040.Del) → ((inR .i64 r1040.To) → ((inR .i64 r1040.Add) → ((r1040.Lines.length ≤ 9223372036854775807) → (((out324.length + ([r1040]).length) * 56 ≤ 140737488355328) ∧ (k1029 (out324 ++ ([r1040])))))))))))) ∧ ((¬ (to_331 ≥ (0 : Int))) → (k1029 out324))))))))))
set_option maxRecDepth 20000 in
set_option maxHeartbeats 4000000 in
theorem patch_Hunks_w {X : List Nat} {w : World} {l : (List S_diff_Edit)} {around : Int} {al1 : Option Addr} {cl2 : Nat} {Q : (List S_patch_Hunk) → Prop} (hX0 : Old X w) (hl3 : Sl r_diff_Edit X w al1 cl2 l) (raround4 : inR .i64 around) (hp : patch_Hunks_p l around Q) :
    Calls Tryd.prog 7 #[(.slice al1 l.length cl2), (.int .i64 around)] w (Ret fun v w' => ∃ (r0 : (List S_patch_Hunk)), Q r0 ∧ Evo [] w w' ∧ ∃ (aq01 : Option Addr) (cq02 : Nat), v = (.slice aq01 r0.length cq02) ∧ Sl r_patch_Hunk X w' aq01 cq02 r0) := by
  have hXo := hX0
  have E0 : Evo [] w w := RB.refl _ _ _
  have hS : Sub X X := Sub.refl _
  unfold patch_Hunks_p at hp
  refine enter_ Tryd.func7 rfl 65 [(0, (.slice al1 l.length cl2)), (1, (.int .i64 around))] (by kernel_rfl) (fun Qe hQ => ?_)
  replace hp := hp (Sl.len hl3)
  replace hp := hp raround4
  refine seq_ (fun _ K5 => ?_)
  refine reg_ ?_
  refine sq (o_pv (.slice none 0 0) rfl (by kernel_rfl) ?_)
  refine nil_ ?_
  refine then_normal (K5 _ _ _ _ ?_)
  refine seq_ (fun _ K6 => ?_)
  refine reg_ ?_
  refine sq (o_pv (.int .i64 around) rfl (by kernel_rfl) ?_)
  refine sq (o_pv (.int .i64 (max around (0 : Int))) rfl (x_max (k := .i64) (a := around) (b := (0 : Int)) (max around (0 : Int)) (by kernel_rfl) (by kernel_rfl) rfl) ?_)
  refine sq (o_pv (.int .i64 (min (max around (0 : Int)) (16 : Int))) rfl (x_min (k := .i64) (a := max around (0 : Int)) (b := (16 : Int)) (min (max around (0 : Int)) (16 : Int)) (by kernel_rfl) (by kernel_rfl) rfl) ?_)
  refine sq (o_pv (.int .i64 (min (max around (0 : Int)) (16 : Int))) rfl (by kernel_rfl) ?_)
  refine nil_ ?_
  refine then_normal (K6 _ _ _ _ ?_)
  refine seq_ (fun _ K7 => ?_)
  refine reg_ ?_
  refine sq (o_pv (.slice none 0 0) rfl (by kernel_rfl) ?_)
  refine nil_ ?_
  refine then_normal (K7 _ _ _ _ ?_)
  refine seq_ (fun _ K8 => ?_)
  refine reg_ ?_
  refine sq (o_pv (.int .i64 (0 : Int)) rfl (by kernel_rfl) ?_)
  refine sq (o_pv (.int .i64 (-1 : Int)) rfl (by kernel_rfl) ?_)
  refine nil_ ?_
  refine then_normal (K8 _ _ _ _ ?_)
  refine seq_ (fun _ K9 => ?_)
  refine seq_ (fun _ K10 => ?_)
  refine reg_ ?_
  refine sq (o_pv (.slice al1 l.length cl2) rfl (by kernel_rfl) ?_)
  refine sq (o_pv (.int .i64 (l.length : Int)) rfl (by kernel_rfl) ?_)
  refine sq (o_pv (.int .i64 (0 : Int)) rfl (by kernel_rfl) ?_)
  refine nil_ ?_
  refine then_normal (K10 _ _ _ _ ?_)
  refine wp_block ?_
  obtain ⟨I661, m662, hI663, hp⟩ := hp
  refine loop_ 18014398509354976 (fun kq lq w665 => ∃ (X666 : List Nat) (out324 : (List S_patch_Hunk)) (from_329 : Int) (to_331 : Int) (s333 : Int) (a325 : Option Addr) (n326 : Nat) (c327 : Nat), (lq = [(5, (.slice a325 n326 c327)), (6, (.int .i64 from_329)), (7, (.int .i64 to_331)), (17, (.int .i64 s333))]) ∧ (kq = m662 out324 from_329 to_331 s333) ∧ (Evo [] w w665) ∧ (Old X666 w665) ∧ (Sub X X666) ∧ (Sl r_diff_Edit X666 w665 al1 cl2 l) ∧ (OS r_patch_Hunk ([]) w.heap.size X666 w665 50 a325 n326 c327 out324) ∧ (inR .i64 from_329) ∧ (inR .i64 to_331) ∧ (inR .i64 s333) ∧ (I661 out324 from_329 to_331 s333)) (m662 ([] : List S_patch_Hunk) (0 : Int) (-1 : Int) (0 : Int)) [(5, (.slice none 0 0)), (6, (.int .i64 (0 : Int))), (7, (.int .i64 (-1 : Int))), (17, (.int .i64 (0 : Int)))] (vs_cons (by kernel_rfl) (vs_cons (by kernel_rfl) (vs_cons (by kernel_rfl) (vs_cons (by kernel_rfl) vs_nil)))) ⟨X, ([] : List S_patch_Hunk), (0 : Int), (-1 : Int), (0 : Int), none, 0, 0, rfl, rfl, E0, hXo, hS, hl3, (OS.nil _ _ _ _), (by decide : inR .i64 (0 : Int)), (by decide : inR .i64 (-1 : Int)), (by decide : inR .i64 (0 : Int)), hI663⟩ ?_
  rintro _ _ w665 g668 ⟨X666, out324, from_329, to_331, s333, a325, n326, c327, rfl, rfl, E671, hXo672, hS673, hl674, O328, rfrom_330, rto_332, rs334, hI664⟩ Kl669 hA670
  replace hp := hp out324 from_329 to_331 s333 hI664 (OS.len O328) rfrom_330 rto_332 rs334
  refine seq_ (fun _ K675 => ?_)
  refine reg_ ?_
  refine sq (o_pv (.bool (decide (s333 < (l.length : Int)))) rfl (by kernel_rfl) ?_)
  refine nil_ ?_
  refine then_normal (K675 _ _ _ _ ?_)
  refine seq_ (fun _ K676 => ?_)
  refine cond_d (s333 < (l.length : Int)) (by kernel_rfl) (fun h677 => ?_) (fun h677 => ?_)
  ·
    replace hp := hp.1 h677
    refine wp_skip ?_
    refine then_normal (K676 _ _ _ _ ?_)
    refine seq_ (fun _ K678 => ?_)
    obtain ⟨k830, hk831, hp⟩ := hp
    refine ground_ ?_
    refine join_ 9007199254220768 (fun lq w832 => ∃ (X833 : List Nat) (out821 : (List S_patch_Hunk)) (from_826 : Int) (to_828 : Int) (a822 : Option Addr) (n823 : Nat) (c824 : Nat), (lq = [(5, (.slice a822 n823 c824)), (6, (.int .i64 from_826)), (7, (.int .i64 to_828))]) ∧ (Evo [] w w832) ∧ (Old X833 w832) ∧ (Sub X X833) ∧ (Sl r_diff_Edit X833 w832 al1 cl2 l) ∧ (OS r_patch_Hunk ([]) w.heap.size X833 w832 50 a822 n823 c824 out821) ∧ (inR .i64 from_826) ∧ (inR .i64 to_828) ∧ (k830 out821 from_826 to_828)) (fun Kj834 hJ835 => ?_) ?_
    ·
      refine wp_block ?_
      refine seq_ (fun _ K841 => ?_)
      refine reg_ ?_
      refine sq (o_pv (.int .i64 s333) rfl (by kernel_rfl) ?_)
      obtain ⟨h842, hp⟩ := hp
      obtain ⟨b843, o844, cs845, ha846, nx847, lt848, ok849, hc850⟩ := Sl.atI hl674 s333 h842
      obtain ⟨rfl, reOp851, zeLine852⟩ := r_diff_Edit_open ok849
      replace hp := hp reOp851
      replace hp := hp zeLine852
      refine sq (o_pv (.pointer (some ⟨b843, o844 + s333.toNat * 2, none⟩)) rfl (x_ixA (m := l.length) (c := cl2) (k := .i64) (i := s333) Tryd.underlying33 Tryd.sizeOf48 (by rw [← ha846]; kernel_rfl) (by kernel_rfl) h842) ?_)
      refine sq (o_pv (.agg #[(.int .i64 ((lget l s333).Op)), (.string ((lget l s333).Line))]) rfl (x_loadN [(.int .i64 ((lget l s333).Op)), (.string ((lget l s333).Line))] (by kernel_rfl) Tryd.isAgg48 Tryd.sizeOf48 hc850) ?_)
      refine sq (o_newX [(.int .i64 (0 : Int)), (.string (ByteArray.mk #[]))] 48 (X := X666) (B := w.heap.size) E671.size rfl (by kernel_rfl) ?_)
      intro b853 w854 X855 s856 k857 n858
      have p859 := n858 _ (OS.old O328)
      refine sq (o_pv (.int .i64 s333) rfl (by kernel_rfl) ?_)
      have O860 := (OS.step0 O328 s856)
      have E861 := (Evo.then0 E671 (Step.evo s856))
      refine sq (o_stB (o := 0) (v := (.agg #[(.int .i64 ((lget l s333).Op)), (.string ((lget l s333).Line))])) [(.int .i64 ((lget l s333).Op)), (.string ((lget l s333).Line))] rfl k857 (by kernel_rfl) (by kernel_rfl) Tryd.sizeOf48 rfl rfl rfl ?_)
      intro w862 s863 k864
      refine nil_ ?_
      refine then_normal (K841 _ _ _ _ ?_)
      refine seq_ (fun _ K865 => ?_)
      refine seq_ (fun _ K866 => ?_)
      refine reg_ ?_
      refine sq (o_pv (.pointer (some ⟨b853, 0, none⟩)) rfl (by kernel_rfl) ?_)
      refine sq (o_pv (.int .i64 ((lget l s333).Op)) rfl (x_load1 (by kernel_rfl) Tryd.isAgg3 (k864.2.1.cell' 0 rfl)) ?_)
      refine sq (o_pv (.bool (decide (((lget l s333).Op) = (1 : Int)))) rfl (by kernel_rfl) ?_)
      refine nil_ ?_
      refine then_normal (K866 _ _ _ _ ?_)
      refine cond_d (((lget l s333).Op) = (1 : Int)) (by kernel_rfl) (fun h867 => ?_) (fun h867 => ?_)
      ·
        replace hp := hp.1 h867
        refine wp_exit ?_
        refine then_exit ?_
        refine blk_exit ?_
        have E868 := (Evo.thenW E861 (Step.evo s863) k857.2.2)
        have hXo869 := (Old.step (Old.step hXo672 s856) s863)
        have hS870 := (Sub.trans (Sub.trans hS673 (Step.up s856)) (Step.up s863))
        have hl871 := (Sl.step (Sl.step hl674 s856) s863)
        have O872 := (OS.step O860 s863 p859)
        refine then_normal (hJ835 _ _ _ ⟨[(5, (.slice a325 n326 c327)), (6, (.int .i64 from_329)), (7, (.int .i64 to_331))], fit_mk (fun _ _ => rfl) (by kernel_rfl) (vs_cons (by kernel_rfl) (vs_cons (by kernel_rfl) (vs_cons (by kernel_rfl) vs_nil))), ?_⟩)
        exact ⟨X855, out324, from_329, to_331, a325, n326, c327, rfl, E868, hXo869, hS870, hl871, O872, rfrom_330, rto_332, hp⟩
      ·
        replace hp := hp.2 h867
        refine wp_skip ?_
        refine then_normal (K865 _ _ _ _ ?_)
        refine seq_ (fun _ K873 => ?_)
        refine reg_ ?_
        refine sq (o_pv (.int .i64 s333) rfl (by kernel_rfl) ?_)
        refine sq (o_pv (.int .i64 (min (max around (0 : Int)) (16 : Int))) rfl (by kernel_rfl) ?_)
        obtain ⟨h874, hp⟩ := hp
        refine sq (o_pv (.int .i64 (s333 - (min (max around (0 : Int)) (16 : Int)))) rfl (x_sub2 (k := .i64) (a := s333) (b := min (max around (0 : Int)) (16 : Int)) (s333 - (min (max around (0 : Int)) (16 : Int))) (by kernel_rfl) (by kernel_rfl) (wrap_inR h874)) ?_)
        refine sq (o_pv (.int .i64 (max (s333 - (min (max around (0 : Int)) (16 : Int))) (0 : Int))) rfl (x_max (k := .i64) (a := s333 - (min (max around (0 : Int)) (16 : Int))) (b := (0 : Int)) (max (s333 - (min (max around (0 : Int)) (16 : Int))) (0 : Int)) (by kernel_rfl) (by kernel_rfl) rfl) ?_)
        refine sq (o_pv (.int .i64 s333) rfl (by kernel_rfl) ?_)
        obtain ⟨h875, hp⟩ := hp
        refine sq (o_pv (.int .i64 (s333 + (1 : Int))) rfl (x_add2 (k := .i64) (a := s333) (b := (1 : Int)) (s333 + (1 : Int)) (by kernel_rfl) (by kernel_rfl) (wrap_inR h875)) ?_)
        refine sq (o_pv (.int .i64 (min (max around (0 : Int)) (16 : Int))) rfl (by kernel_rfl) ?_)
        obtain ⟨h876, hp⟩ := hp
        refine sq (o_pv (.int .i64 ((s333 + (1 : Int)) + (min (max around (0 : Int)) (16 : Int)))) rfl (x_add2 (k := .i64) (a := s333 + (1 : Int)) (b := min (max around (0 : Int)) (16 : Int)) ((s333 + (1 : Int)) + (min (max around (0 : Int)) (16 : Int))) (by kernel_rfl) (by kernel_rfl) (wrap_inR h876)) ?_)
        refine sq (o_pv (.slice al1 l.length cl2) rfl (by kernel_rfl) ?_)
        refine sq (o_pv (.int .i64 (l.length : Int)) rfl (by kernel_rfl) ?_)
        refine sq (o_pv (.int .i64 (min ((s333 + (1 : Int)) + (min (max around (0 : Int)) (16 : Int))) (l.length : Int))) rfl (x_min (k := .i64) (a := (s333 + (1 : Int)) + (min (max around (0 : Int)) (16 : Int))) (b := (l.length : Int)) (min ((s333 + (1 : Int)) + (min (max around (0 : Int)) (16 : Int))) (l.length : Int)) (by kernel_rfl) (by kernel_rfl) rfl) ?_)
        refine sq (o_pv (.int .i64 (max (s333 - (min (max around (0 : Int)) (16 : Int))) (0 : Int))) rfl (by kernel_rfl) ?_)
        refine sq (o_pv (.int .i64 (min ((s333 + (1 : Int)) + (min (max around (0 : Int)) (16 : Int))) (l.length : Int))) rfl (by kernel_rfl) ?_)
        refine nil_ ?_
        refine then_normal (K873 _ _ _ _ ?_)
        refine seq_ (fun _ K877 => ?_)
        have E934 := (Evo.thenW E861 (Step.evo s863) k857.2.2)
        have hXo935 := (Old.step (Old.step hXo672 s856) s863)
        have hS936 := (Sub.trans (Sub.trans hS673 (Step.up s856)) (Step.up s863))
        have hl937 := (Sl.step (Sl.step hl674 s856) s863)
        have O938 := (OS.step O860 s863 p859)
        obtain ⟨k927, hk928, hp⟩ := hp
        refine ground_ ?_
        refine join_ 4503530907893856 (fun lq w929 => ∃ (X930 : List Nat) (out920 : (List S_patch_Hunk)) (from_925 : Int) (a921 : Option Addr) (n922 : Nat) (c923 : Nat), (lq = [(5, (.slice a921 n922 c923)), (6, (.int .i64 from_925))]) ∧ (Evo [] w w929) ∧ (Old X930 w929) ∧ (Sub X X930) ∧ (Sl r_diff_Edit X930 w929 al1 cl2 l) ∧ (OS r_patch_Hunk ([]) w.heap.size X930 w929 50 a921 n922 c923 out920) ∧ (inR .i64 from_925) ∧ (k927 out920 from_925)) (fun Kj931 hJ932 => ?_) ?_
        ·
          refine wp_block ?_
          refine seq_ (fun _ K943 => ?_)
          refine reg_ ?_
          refine sq (o_pv (.int .i64 to_331) rfl (by kernel_rfl) ?_)
          refine sq (o_pv (.bool (decide (to_331 < (0 : Int)))) rfl (by kernel_rfl) ?_)
          refine sq (o_pv (.bool (decide (to_331 < (0 : Int)))) rfl (by kernel_rfl) ?_)
          refine nil_ ?_
          refine then_normal (K943 _ _ _ _ ?_)
          refine cond_d (to_331 < (0 : Int)) (by kernel_rfl) (fun h944 => ?_) (fun h944 => ?_)
          ·
            replace hp := hp.1 h944
            refine reg_ ?_
            refine sq (o_pv (.int .i64 (max (s333 - (min (max around (0 : Int)) (16 : Int))) (0 : Int))) rfl (by kernel_rfl) ?_)
            refine sq (o_pv (.int .i64 (max (s333 - (min (max around (0 : Int)) (16 : Int))) (0 : Int))) rfl (by kernel_rfl) ?_)
            refine nil_ ?_
            refine blk_normal ?_
            refine then_normal (hJ932 _ _ _ ⟨[(5, (.slice a325 n326 c327)), (6, (.int .i64 (max (s333 - (min (max around (0 : Int)) (16 : Int))) (0 : Int))))], fit_mk (fun _ _ => rfl) (by kernel_rfl) (vs_cons (by kernel_rfl) (vs_cons (by kernel_rfl) vs_nil)), ?_⟩)
            exact ⟨X855, out324, (max (s333 - (min (max around (0 : Int)) (16 : Int))) (0 : Int)), a325, n326, c327, rfl, E934, hXo935, hS936, hl937, O938, (inR_max h874 (by decide : inR .i64 (0 : Int))), hp⟩
          ·
            replace hp := hp.2 h944
            refine seq_ (fun _ K945 => ?_)
            refine reg_ ?_
            refine sq (o_pv (.int .i64 (max (s333 - (min (max around (0 : Int)) (16 : Int))) (0 : Int))) rfl (by kernel_rfl) ?_)
            refine sq (o_pv (.int .i64 to_331) rfl (by kernel_rfl) ?_)
            refine sq (o_pv (.bool (decide ((max (s333 - (min (max around (0 : Int)) (16 : Int))) (0 : Int)) > to_331))) rfl (by kernel_rfl) ?_)
            refine sq (o_pv (.bool (decide ((max (s333 - (min (max around (0 : Int)) (16 : Int))) (0 : Int)) > to_331))) rfl (by kernel_rfl) ?_)
            refine nil_ ?_
            refine then_normal (K945 _ _ _ _ ?_)
            refine cond_d ((max (s333 - (min (max around (0 : Int)) (16 : Int))) (0 : Int)) > to_331) (by kernel_rfl) (fun h946 => ?_) (fun h946 => ?_)
            ·
              replace hp := hp.1 h946
              refine seq_ (fun _ K947 => ?_)
              refine reg_ ?_
              refine sq (o_pv (.slice a325 n326 c327) rfl (by kernel_rfl) ?_)
              refine sq (o_pv (.slice al1 l.length cl2) rfl (by kernel_rfl) ?_)
              refine sq (o_pv (.int .i64 from_329) rfl (by kernel_rfl) ?_)
              refine sq (o_pv (.int .i64 to_331) rfl (by kernel_rfl) ?_)
              refine sq (o_call 20 #[(.slice al1 l.length cl2), (.int .i64 from_329), (.int .i64 to_331)] rfl (x_call Tryd.call20 (by kernel_rfl)) (patch_hunk_w (X := X855) (l := l) (from_ := from_329) (to_ := to_331) hXo935 hl937 rfrom_330 rto_332 hp) ?_)
              rintro _ w949 ⟨r948, hp, e950, arLines956, crLines957, rfl, rrAt952, rrDel953, rrTo954, rrAdd955, hrLines958⟩
              have s951 := Step.of0 X855 e950
              replace hp := hp rrAt952
              replace hp := hp rrDel953
              replace hp := hp rrTo954
              replace hp := hp rrAdd955
              replace hp := hp (Sl.len hrLines958)
              have O959 := (OS.step0 O938 s951)
              have k960 := (OB.step0 k864 s951)
              have E967 := (Evo.then0 E934 e950)
              refine sq (o_rowX (R := r_patch_Hunk) [(.int .i64 r948.At), (.int .i64 r948.Del), (.int .i64 r948.To), (.int .i64 r948.Add), (.slice arLines956 r948.Lines.length crLines957)] [r948] 50 1 (X := X855) (B := w.heap.size) E967.size rfl (by kernel_rfl) (Flat.cons (cs := [(.int .i64 r948.At), (.int .i64 r948.Del), (.int .i64 r948.To), (.int .i64 r948.Add), (.slice arLines956 r948.Lines.length crLines957)]) (r_patch_Hunk_mk rrAt952 rrDel953 rrTo954 rrAdd955 hrLines958 rfl) Flat.nil) rfl (by decide) ?_)
              intro b961 w962 X963 s964 O965 n966
              have p968 := n966 _ (OS.old O959)
              have p969 := n966 _ (OB.old k960)
              obtain ⟨h970, hp⟩ := hp
              have O971 := (OS.step0 O959 s964)
              have k972 := (OB.step0 k960 s964)
              have E973 := (Evo.then0 E967 (Step.evo s964))
              refine sq (o_appX (R := r_patch_Hunk) (X := X963) (B := w.heap.size) (L := out324) (M := [r948]) rfl elT31 rfl E973.size O971 (OS.src O965) O965.1 (by kernel_rfl) (by kernel_rfl) h970 ?_)
              intro a974 n975 c976 w977 X978 s979 O980 gr981
              have p982 := gr981 _ (Ap.symm p859) (OB.old k972)
              refine sq (o_pv (.slice a974 n975 c976) rfl (by kernel_rfl) ?_)
              refine nil_ ?_
              refine then_normal (K947 _ _ _ _ ?_)
              refine reg_ ?_
              refine sq (o_pv (.int .i64 (max (s333 - (min (max around (0 : Int)) (16 : Int))) (0 : Int))) rfl (by kernel_rfl) ?_)
              refine sq (o_pv (.int .i64 (max (s333 - (min (max around (0 : Int)) (16 : Int))) (0 : Int))) rfl (by kernel_rfl) ?_)
              refine nil_ ?_
              refine blk_normal ?_
              have E983 := (Evo.thenW E973 (Step.evo s979) O971.2.2)
              have hXo984 := (Old.step (Old.step (Old.step hXo935 s951) s964) s979)
              have hS985 := (Sub.trans (Sub.trans (Sub.trans hS936 (Step.up s951)) (Step.up s964)) (Step.up s979))
              have hl986 := (Sl.step (Sl.step (Sl.step hl937 s951) s964) s979)
              refine then_normal (hJ932 _ _ _ ⟨[(5, (.slice a974 n975 c976)), (6, (.int .i64 (max (s333 - (min (max around (0 : Int)) (16 : Int))) (0 : Int))))], fit_mk (fun _ _ => rfl) (by kernel_rfl) (vs_cons (by kernel_rfl) (vs_cons (by kernel_rfl) vs_nil)), ?_⟩)
              exact ⟨X978, (out324 ++ ([r948])), (max (s333 - (min (max around (0 : Int)) (16 : Int))) (0 : Int)), a974, n975, c976, rfl, E983, hXo984, hS985, hl986, O980, (inR_max h874 (by decide : inR .i64 (0 : Int))), hp⟩
            ·
              replace hp := hp.2 h946
              refine wp_skip ?_
              refine blk_normal ?_
              refine then_normal (hJ932 _ _ _ ⟨[(5, (.slice a325 n326 c327)), (6, (.int .i64 from_329))], fit_mk (fun _ _ => rfl) (by kernel_rfl) (vs_cons (by kernel_rfl) (vs_cons (by kernel_rfl) vs_nil)), ?_⟩)
              exact ⟨X855, out324, from_329, a325, n326, c327, rfl, E934, hXo935, hS936, hl937, O938, rfrom_330, hp⟩
        ·
          rintro _ w929 g987 ⟨X930, out920, from_925, a921, n922, c923, rfl, E939, hXo940, hS941, hl942, O924, rfrom_926, hv933⟩
          replace hp := hk928 out920 from_925 hv933 (OS.len O924) rfrom_926
          refine then_normal (K877 _ _ _ _ ?_)
          refine reg_ ?_
          refine sq (o_pv (.int .i64 (min ((s333 + (1 : Int)) + (min (max around (0 : Int)) (16 : Int))) (l.length : Int))) rfl (by kernel_rfl) ?_)
          refine sq (o_pv (.int .i64 (min ((s333 + (1 : Int)) + (min (max around (0 : Int)) (16 : Int))) (l.length : Int))) rfl (by kernel_rfl) ?_)
          refine nil_ ?_
          refine blk_normal ?_
          refine then_normal (hJ835 _ _ _ ⟨[(5, (.slice a921 n922 c923)), (6, (.int .i64 from_925)), (7, (.int .i64 (min ((s333 + (1 : Int)) + (min (max around (0 : Int)) (16 : Int))) (l.length : Int))))], fit_mk (AgB.nest (AgB.look (fun _ _ => rfl) (by kernel_rfl)) (by kernel_rfl) (by kernel_rfl)) (by kernel_rfl) (vs_cons (by kernel_rfl) (vs_cons (by kernel_rfl) (vs_cons (by kernel_rfl) vs_nil))), ?_⟩)
          exact ⟨X930, out920, from_925, (min ((s333 + (1 : Int)) + (min (max around (0 : Int)) (16 : Int))) (l.length : Int)), a921, n922, c923, rfl, E939, hXo940, hS941, hl942, O924, rfrom_926, (inR_min h876 (inR_len (Sl.len hl674))), hp⟩
    ·
      rintro _ w832 g988 ⟨X833, out821, from_826, to_828, a822, n823, c824, rfl, E837, hXo838, hS839, hl840, O825, rfrom_827, rto_829, hv836⟩
      replace hp := hk831 out821 from_826 to_828 hv836 (OS.len O825) rfrom_827 rto_829
      refine then_normal (K678 _ _ _ _ ?_)
      refine reg_ ?_
      obtain ⟨h989, hp⟩ := hp
      refine sq (o_pv (.int .i64 (s333 + (1 : Int))) rfl (x_add2 (k := .i64) (a := s333) (b := (1 : Int)) (s333 + (1 : Int)) (by kernel_rfl) (by kernel_rfl) (wrap_inR h989)) ?_)
      refine sq (o_pv (.int .i64 (s333 + (1 : Int))) rfl (by kernel_rfl) ?_)
      refine nil_ ?_
      refine then_normal (hA670 _ _ _ ⟨_, [(5, (.slice a822 n823 c824)), (6, (.int .i64 from_826)), (7, (.int .i64 to_828)), (17, (.int .i64 (s333 + (1 : Int))))], hp.2, fit_mk (AgB.nest (AgB.look (AgB.mix _ _ _) (by kernel_rfl)) (by kernel_rfl) (by kernel_rfl)) (by kernel_rfl) (vs_cons (by kernel_rfl) (vs_cons (by kernel_rfl) (vs_cons (by kernel_rfl) (vs_cons (by kernel_rfl) vs_nil)))), ?_⟩)
      exact ⟨X833, out821, from_826, to_828, (s333 + (1 : Int)), a822, n823, c824, rfl, rfl, E837, hXo838, hS839, hl840, O825, rfrom_827, rto_829, h989, hp.1⟩
  ·
    replace hp := hp.2 h677
    refine wp_exit ?_
    refine then_exit ?_
    refine then_exit ?_
    refine blk_exit ?_
    refine then_normal (K9 _ _ _ _ ?_)
    refine seq_ (fun _ K990 => ?_)
    refine seq_ (fun _ K991 => ?_)
    refine reg_ ?_
    refine sq (o_pv (.int .i64 to_331) rfl (by kernel_rfl) ?_)
    refine sq (o_pv (.bool (decide (to_331 ≥ (0 : Int)))) rfl (by kernel_rfl) ?_)
    refine nil_ ?_
    refine then_normal (K991 _ _ _ _ ?_)
    obtain ⟨k1029, hk1030, hp⟩ := hp
    refine ground_ ?_
    refine join_ 9151314442816847904 (fun lq w1031 => ∃ (X1032 : List Nat) (out1024 : (List S_patch_Hunk)) (a1025 : Option Addr) (n1026 : Nat) (c1027 : Nat), (lq = [(5, (.slice a1025 n1026 c1027))]) ∧ (Evo [] w w1031) ∧ (Old X1032 w1031) ∧ (Sub X X1032) ∧ (OS r_patch_Hunk ([]) w.heap.size X1032 w1031 50 a1025 n1026 c1027 out1024) ∧ (k1029 out1024)) (fun Kj1033 hJ1034 => ?_) ?_
    ·
      refine cond_d (to_331 ≥ (0 : Int)) (by kernel_rfl) (fun h1039 => ?_) (fun h1039 => ?_)
      ·
        replace hp := hp.1 h1039
        refine reg_ ?_
        refine sq (o_pv (.slice a325 n326 c327) rfl (by kernel_rfl) ?_)
        refine sq (o_pv (.slice al1 l.length cl2) rfl (by kernel_rfl) ?_)
        refine sq (o_pv (.int .i64 from_329) rfl (by kernel_rfl) ?_)
        refine sq (o_pv (.int .i64 to_331) rfl (by kernel_rfl) ?_)
        refine sq (o_call 20 #[(.slice al1 l.length cl2), (.int .i64 from_329), (.int .i64 to_331)] rfl (x_call Tryd.call20 (by kernel_rfl)) (patch_hunk_w (X := X666) (l := l) (from_ := from_329) (to_ := to_331) hXo672 hl674 rfrom_330 rto_332 hp) ?_)
        rintro _ w1041 ⟨r1040, hp, e1042, arLines1048, crLines1049, rfl, rrAt1044, rrDel1045, rrTo1046, rrAdd1047, hrLines1050⟩
        have s1043 := Step.of0 X666 e1042
        replace hp := hp rrAt1044
        replace hp := hp rrDel1045
        replace hp := hp rrTo1046
        replace hp := hp rrAdd1047
        replace hp := hp (Sl.len hrLines1050)
        have O1051 := (OS.step0 O328 s1043)
        have E1058 := (Evo.then0 E671 e1042)
        refine sq (o_rowX (R := r_patch_Hunk) [(.int .i64 r1040.At), (.int .i64 r1040.Del), (.int .i64 r1040.To), (.int .i64 r1040.Add), (.slice arLines1048 r1040.Lines.length crLines1049)] [r1040] 50 1 (X := X666) (B := w.heap.size) E1058.size rfl (by kernel_rfl) (Flat.cons (cs := [(.int .i64 r1040.At), (.int .i64 r1040.Del), (.int .i64 r1040.To), (.int .i64 r1040.Add), (.slice arLines1048 r1040.Lines.length crLines1049)]) (r_patch_Hunk_mk rrAt1044 rrDel1045 rrTo1046 rrAdd1047 hrLines1050 rfl) Flat.nil) rfl (by decide) ?_)
        intro b1052 w1053 X1054 s1055 O1056 n1057
        have p1059 := n1057 _ (OS.old O1051)
        obtain ⟨h1060, hp⟩ := hp
        have O1061 := (OS.step0 O1051 s1055)
        have E1062 := (Evo.then0 E1058 (Step.evo s1055))
        refine sq (o_appX (R := r_patch_Hunk) (X := X1054) (B := w.heap.size) (L := out324) (M := [r1040]) rfl elT31 rfl E1062.size O1061 (OS.src O1056) O1056.1 (by kernel_rfl) (by kernel_rfl) h1060 ?_)
        intro a1063 n1064 c1065 w1066 X1067 s1068 O1069 gr1070
        refine sq (o_pv (.slice a1063 n1064 c1065) rfl (by kernel_rfl) ?_)
        refine nil_ ?_
        have E1071 := (Evo.thenW E1062 (Step.evo s1068) O1061.2.2)
        have hXo1072 := (Old.step (Old.step (Old.step hXo672 s1043) s1055) s1068)
        have hS1073 := (Sub.trans (Sub.trans (Sub.trans hS673 (Step.up s1043)) (Step.up s1055)) (Step.up s1068))
        refine then_normal (hJ1034 _ _ _ ⟨[(5, (.slice a1063 n1064 c1065))], fit_mk (fun _ _ => rfl) (by kernel_rfl) (vs_cons (by kernel_rfl) vs_nil), ?_⟩)
        exact ⟨X1067, (out324 ++ ([r1040])), a1063, n1064, c1065, rfl, E1071, hXo1072, hS1073, O1069, hp⟩
      ·
        replace hp := hp.2 h1039
        refine wp_skip ?_
        refine then_normal (hJ1034 _ _ _ ⟨[(5, (.slice a325 n326 c327))], fit_mk (fun _ _ => rfl) (by kernel_rfl) (vs_cons (by kernel_rfl) vs_nil), ?_⟩)
        exact ⟨X666, out324, a325, n326, c327, rfl, E671, hXo672, hS673, O328, hp⟩
    ·
      rintro _ w1031 g1074 ⟨X1032, out1024, a1025, n1026, c1027, rfl, E1036, hXo1037, hS1038, O1028, hv1035⟩
      replace hp := hk1030 out1024 hv1035 (OS.len O1028)
      refine then_normal (K990 _ _ _ _ ?_)
      refine seq_ (fun _ K1075 => ?_)
      refine reg_ ?_
      refine sq (o_pv (.slice a1025 n1026 c1027) rfl (by kernel_rfl) ?_)
      have ax1080 := OS.apold O1028 hX0
      obtain ⟨X1076, u1077, r1078, hm1079⟩ := OS.release O1028
      obtain rfl : n1026 = out1024.length := O1028.1
      have hXo1081 := (Old.less hXo1037 u1077)
      refine sq (o_call 21 #[(.slice a1025 out1024.length c1027)] rfl (x_call Tryd.call21 (by kernel_rfl)) (slices_Clip_patch_Hunk_patch_Hunk_w (X := X1076) (s := out1024) hXo1081 r1078 hp) ?_)
      rintro _ w1083 ⟨r1082, hp, e1084, ar1086, rfl, hr1087⟩
      have s1085 := Step.of0 X1076 e1084
      replace hp := hp (Sl.len hr1087)
      refine sq (o_pv (.slice ar1086 r1082.length r1082.length) rfl (by kernel_rfl) ?_)
      refine nil_ ?_
      refine then_normal (K1075 _ _ _ _ ?_)
      refine wp_ret ?_
      have hS1088 := (Sub.trans (hm1079 _ ax1080 hS1038) (Step.up s1085))
      have E1089 := (Evo.then0 E1036 e1084)
      refine end_ret hQ (.slice ar1086 r1082.length r1082.length) (by kernel_rfl) ?_
      exact ⟨r1082, hp, E1089, ar1086, r1082.length, rfl, (Sl.less hr1087 hS1088)⟩

def patch_form_p (h : S_patch_Hunk) (end_ : Int) (shift : Int) (Q : Int → Prop) : Prop :=
  ((inR .i64 h.At) → ((inR .i64 h.Del) → ((inR .i64 h.To) → ((inR .i64 h.Add) → ((h.Lines.length ≤ 9223372036854775807) → ((inR .i64 end_) → ((inR .i64 shift) → (patch_counts_p h.Lines (fun (r19 : Int) (r20 : Int) (r21 : Bool) => ((inR .i64 r19) → ((inR .i64 r20) → ((((!r21) = true) → Q (2 : Int)) ∧ (((!r21) = false) → ((((r19 = h.Del) → (((r20 = h.Add) → (((h.At < (0 : Int)) → True) ∧ ((¬ (h.At < (0 : Int))) → (((h.To < (0 : Int)) → True) ∧ ((¬ (h.To < (0 : Int))) → (((h.At < end_) → True) ∧ ((¬ (h.At < end_)) → ((inR .i64 (h.To - shift)) ∧ True)))))))) ∧ ((¬ (r20 = h.Add)) → True))) ∧ ((¬ (r19 = h.Del)) → True)) ∧ ((((¬ (r19 = h.Del)) ∨ ((¬ (r20 = h.Add)) ∨ ((h.At < (0 : Int)) ∨ ((h.To < (0 : Int)) ∨ ((h.At < end_) ∨ (¬ ((h.To - shift) = h.At))))))) → Q (1 : Int)) ∧ ((¬ ((¬ (r19 = h.Del)) ∨ ((¬ (r20 = h.Add)) ∨ ((h.At < (0 : Int)) ∨ ((h.To < (0 : Int)) ∨ ((h.At < end_) ∨ (¬ ((h.To - shift) = h.At)))))))) → Q (0 : Int)))))))))))))))))
set_option maxRecDepth 20000 in
set_option maxHeartbeats 4000000 in
theorem patch_form_w {X : List Nat} {w : World} {h : S_patch_Hunk} {end_ : Int} {shift : Int} {ahLines5 : Option Addr} {chLines6 : Nat} {Q : Int → Prop} (hX0 : Old X w) (rhAt1 : inR .i64 h.At) (rhDel2 : inR .i64 h.Del) (rhTo3 : inR .i64 h.To) (rhAdd4 : inR .i64 h.Add) (hhLines7 : Sl r_diff_Edit X w ahLines5 chLines6 h.Lines) (rend_8 : inR .i64 end_) (rshift9 : inR .i64 shift) (hp : patch_form_p h end_ shift Q) :
    Calls Tryd.prog 31 #[(.agg #[(.int .i64 h.At), (.int .i64 h.Del), (.int .i64 h.To), (.int .i64 h.Add), (.slice ahLines5 h.Lines.length chLines6)]), (.int .i64 end_), (.int .i64 shift)] w (Ret fun v w' => ∃ (r0 : Int), Q r0 ∧ Evo [] w w' ∧ v = (.int .i64 r0) ∧ inR .i64 r0) := by
  have hXo := hX0
  have E0 : Evo [] w w := RB.refl _ _ _
  have hS : Sub X X := Sub.refl _
  unfold patch_form_p at hp
  refine enter_ Tryd.func31 rfl 56 [(0, (.agg #[(.int .i64 h.At), (.int .i64 h.Del), (.int .i64 h.To), (.int .i64 h.Add), (.slice ahLines5 h.Lines.length chLines6)])), (1, (.int .i64 end_)), (2, (.int .i64 shift))] (by kernel_rfl) (fun Qe hQ => ?_)
  replace hp := hp rhAt1
  replace hp := hp rhDel2
  replace hp := hp rhTo3
  replace hp := hp rhAdd4
  replace hp := hp (Sl.len hhLines7)
  replace hp := hp rend_8
  replace hp := hp rshift9
  refine seq_ (fun _ K10 => ?_)
  refine reg_ ?_
  refine sq (o_newX [(.int .i64 h.At), (.int .i64 h.Del), (.int .i64 h.To), (.int .i64 h.Add), (.slice ahLines5 h.Lines.length chLines6)] 50 (X := X) (B := w.heap.size) E0.size rfl (by kernel_rfl) ?_)
  intro b11 w12 X13 s14 k15 n16
  refine sq (o_pv (.int .i64 (0 : Int)) rfl (by kernel_rfl) ?_)
  refine nil_ ?_
  refine then_normal (K10 _ _ _ _ ?_)
  refine seq_ (fun _ K17 => ?_)
  refine reg_ ?_
  refine sq (o_pv (.pointer (some ⟨b11, 4, none⟩)) rfl (by kernel_rfl) ?_)
  refine sq (o_pv (.slice ahLines5 h.Lines.length chLines6) rfl (x_load1 (by kernel_rfl) Tryd.isAgg33 (k15.2.1.cell' 4 rfl)) ?_)
  have hhLines18 := (Sl.step hhLines7 s14)
  refine sq (o_call 35 #[(.slice ahLines5 h.Lines.length chLines6)] rfl (x_call Tryd.call35 (by kernel_rfl)) (patch_counts_w (X := []) (l := h.Lines) (Old.nil _) (Sl.less hhLines18 (Sub.nil _)) hp) ?_)
  rintro _ w22 ⟨r19, r20, r21, hp, e23, rfl, rr25, rr26⟩
  have s24 := Step.of0 X13 e23
  replace hp := hp rr25
  replace hp := hp rr26
  refine sq (o_pv (.tuple #[(.int .i64 r19), (.int .i64 r20), (.bool r21)]) rfl (by kernel_rfl) ?_)
  refine sq (o_pv (.int .i64 r19) rfl (by kernel_rfl) ?_)
  refine sq (o_pv (.int .i64 r20) rfl (by kernel_rfl) ?_)
  refine sq (o_pv (.bool r21) rfl (by kernel_rfl) ?_)
  refine sq (o_pv (.int .i64 r19) rfl (by kernel_rfl) ?_)
  refine sq (o_pv (.int .i64 r20) rfl (by kernel_rfl) ?_)
  refine sq (o_pv (.bool r21) rfl (by kernel_rfl) ?_)
  refine nil_ ?_
  refine then_normal (K17 _ _ _ _ ?_)
  refine seq_ (fun _ K27 => ?_)
  refine wp_block ?_
  refine seq_ (fun _ K28 => ?_)
  refine reg_ ?_
  refine sq (o_pv (.bool r21) rfl (by kernel_rfl) ?_)
  refine sq (o_pv (.bool (!r21)) rfl (by kernel_rfl) ?_)
  refine sq (o_pv (.bool (!r21)) rfl (by kernel_rfl) ?_)
  refine nil_ ?_
  refine then_normal (K28 _ _ _ _ ?_)
  refine cond_b (!r21) (by kernel_rfl) (fun h29 => ?_) (fun h29 => ?_)
  ·
    replace hp := hp.1 h29
    refine seq_ (fun _ K30 => ?_)
    refine reg_ ?_
    refine sq (o_pv (.int .i64 (2 : Int)) rfl (by kernel_rfl) ?_)
    refine nil_ ?_
    refine then_normal (K30 _ _ _ _ ?_)
    refine wp_ret ?_
    refine blk_ret ?_
    refine then_ret ?_
    have E31 := (Evo.then0 (Evo.then0 E0 (Step.evo s14)) e23)
    refine end_ret hQ (.int .i64 (2 : Int)) (by kernel_rfl) ?_
    exact ⟨(2 : Int), hp, E31, rfl, (by decide : inR .i64 (2 : Int))⟩
  ·
    replace hp := hp.2 h29
    refine seq_ (fun _ K32 => ?_)
    obtain ⟨hp, hq⟩ := hp
    refine ground_ ?_
    refine join_ 72057594036879360 (fun lq w42 => lq = [(20, (.bool (decide ((¬ (r19 = h.Del)) ∨ ((¬ (r20 = h.Add)) ∨ ((h.At < (0 : Int)) ∨ ((h.To < (0 : Int)) ∨ ((h.At < end_) ∨ (¬ ((h.To - shift) = h.At))))))))))] ∧ w22 = w42) (fun Kj40 hJ41 => ?_) ?_
    ·
      refine reg_ ?_
      refine sq (o_pv (.int .i64 r19) rfl (by kernel_rfl) ?_)
      refine sq (o_pv (.pointer (some ⟨b11, 1, none⟩)) rfl (by kernel_rfl) ?_)
      have k44 := (OB.step0 k15 s24)
      refine sq (o_pv (.int .i64 h.Del) rfl (x_load1 (by kernel_rfl) Tryd.isAgg3 (k44.2.1.cell' 1 rfl)) ?_)
      by_cases h45 : r19 = h.Del
      ·
        replace hp := hp.1 h45
        refine sq (o_pv (.bool false) rfl (x_ndf (p := r19 = h.Del) (by kernel_rfl) h45) ?_)
        refine sq (o_pv (.bool false) rfl (by kernel_rfl) ?_)
        refine sq (o_pv (.int .i64 r20) (by kernel_rfl) (by kernel_rfl) ?_)
        refine sq (o_pv (.pointer (some ⟨b11, 3, none⟩)) (by kernel_rfl) (by kernel_rfl) ?_)
        refine sq (o_pv (.int .i64 h.Add) (by kernel_rfl) (x_load1 (by kernel_rfl) Tryd.isAgg3 (k44.2.1.cell' 3 rfl)) ?_)
        by_cases h46 : r20 = h.Add
        ·
          replace hp := hp.1 h46
          refine sq (o_pv (.bool false) (by kernel_rfl) (x_ndf (p := r20 = h.Add) (by kernel_rfl) h46) ?_)
          refine sq (o_pv (.bool false) rfl (by kernel_rfl) ?_)
          refine sq (o_pv (.bool false) rfl (by kernel_rfl) ?_)
          refine sq (o_pv (.pointer (some ⟨b11, 0, none⟩)) (by kernel_rfl) (by kernel_rfl) ?_)
          refine sq (o_pv (.int .i64 h.At) (by kernel_rfl) (x_load1 (by kernel_rfl) Tryd.isAgg3 (k44.2.1.cell' 0 rfl)) ?_)
          by_cases h47 : h.At < (0 : Int)
          ·
            replace hp := hp.1 h47
            refine sq (o_pv (.bool true) (by kernel_rfl) (x_dt (p := h.At < (0 : Int)) (by kernel_rfl) h47) ?_)
            refine sq (o_pv (.bool true) rfl (by kernel_rfl) ?_)
            refine sq (o_pv (.bool true) rfl (by kernel_rfl) ?_)
            refine sq (o_not (by kernel_rfl) ?_)
            refine sq (o_not (by kernel_rfl) ?_)
            refine sq (o_not (by kernel_rfl) ?_)
            refine sq (o_pv (.bool true) rfl (by kernel_rfl) ?_)
            refine sq (o_pv (.bool true) rfl (by kernel_rfl) ?_)
            refine sq (o_not (by kernel_rfl) ?_)
            refine sq (o_not (by kernel_rfl) ?_)
            refine sq (o_not (by kernel_rfl) ?_)
            refine sq (o_not (by kernel_rfl) ?_)
            refine sq (o_pv (.bool true) rfl (by kernel_rfl) ?_)
            refine sq (o_pv (.bool true) rfl (by kernel_rfl) ?_)
            refine sq (o_not (by kernel_rfl) ?_)
            refine sq (o_not (by kernel_rfl) ?_)
            refine sq (o_not (by kernel_rfl) ?_)
            refine sq (o_not (by kernel_rfl) ?_)
            refine sq (o_not (by kernel_rfl) ?_)
            refine sq (o_not (by kernel_rfl) ?_)
            refine sq (o_not (by kernel_rfl) ?_)
            refine sq (o_pv (.bool true) rfl (by kernel_rfl) ?_)
            refine sq (o_pv (.bool true) rfl (by kernel_rfl) ?_)
            refine nil_ ?_
            refine then_normal (hJ41 _ _ _ ⟨[(20, (.bool (decide ((¬ (r19 = h.Del)) ∨ ((¬ (r20 = h.Add)) ∨ ((h.At < (0 : Int)) ∨ ((h.To < (0 : Int)) ∨ ((h.At < end_) ∨ (¬ ((h.To - shift) = h.At))))))))))], fit_mk (fun _ _ => rfl) (by kernel_rfl) (vs_cons (Eq.trans (b := (.bool true)) (by kernel_rfl) (dec_t ((or_iff_right (fun h1 => h1 h45)).trans ((or_iff_right (fun h1 => h1 h46)).trans (iff_true_intro (Or.inl h47))))).symm) vs_nil), rfl, rfl⟩)
          ·
            replace hp := hp.2 h47
            refine sq (o_pv (.bool false) (by kernel_rfl) (x_df (p := h.At < (0 : Int)) (by kernel_rfl) h47) ?_)
            refine sq (o_pv (.bool false) rfl (by kernel_rfl) ?_)
            refine sq (o_pv (.bool false) rfl (by kernel_rfl) ?_)
            refine sq (o_pv (.pointer (some ⟨b11, 2, none⟩)) (by kernel_rfl) (by kernel_rfl) ?_)
            refine sq (o_pv (.int .i64 h.To) (by kernel_rfl) (x_load1 (by kernel_rfl) Tryd.isAgg3 (k44.2.1.cell' 2 rfl)) ?_)
            by_cases h48 : h.To < (0 : Int)
            ·
              replace hp := hp.1 h48
              refine sq (o_pv (.bool true) (by kernel_rfl) (x_dt (p := h.To < (0 : Int)) (by kernel_rfl) h48) ?_)
              refine sq (o_pv (.bool true) rfl (by kernel_rfl) ?_)
              refine sq (o_pv (.bool true) rfl (by kernel_rfl) ?_)
              refine sq (o_not (by kernel_rfl) ?_)
              refine sq (o_not (by kernel_rfl) ?_)
              refine sq (o_not (by kernel_rfl) ?_)
              refine sq (o_not (by kernel_rfl) ?_)
              refine sq (o_pv (.bool true) rfl (by kernel_rfl) ?_)
              refine sq (o_pv (.bool true) rfl (by kernel_rfl) ?_)
              refine sq (o_not (by kernel_rfl) ?_)
              refine sq (o_not (by kernel_rfl) ?_)
              refine sq (o_not (by kernel_rfl) ?_)
              refine sq (o_not (by kernel_rfl) ?_)
              refine sq (o_not (by kernel_rfl) ?_)
              refine sq (o_not (by kernel_rfl) ?_)
              refine sq (o_not (by kernel_rfl) ?_)
              refine sq (o_pv (.bool true) rfl (by kernel_rfl) ?_)
              refine sq (o_pv (.bool true) rfl (by kernel_rfl) ?_)
              refine nil_ ?_
              refine then_normal (hJ41 _ _ _ ⟨[(20, (.bool (decide ((¬ (r19 = h.Del)) ∨ ((¬ (r20 = h.Add)) ∨ ((h.At < (0 : Int)) ∨ ((h.To < (0 : Int)) ∨ ((h.At < end_) ∨ (¬ ((h.To - shift) = h.At))))))))))], fit_mk (fun _ _ => rfl) (by kernel_rfl) (vs_cons (Eq.trans (b := (.bool true)) (by kernel_rfl) (dec_t ((or_iff_right (fun h1 => h1 h45)).trans ((or_iff_right (fun h1 => h1 h46)).trans ((or_iff_right h47).trans (iff_true_intro (Or.inl h48)))))).symm) vs_nil), rfl, rfl⟩)
            ·
              replace hp := hp.2 h48
              refine sq (o_pv (.bool false) (by kernel_rfl) (x_df (p := h.To < (0 : Int)) (by kernel_rfl) h48) ?_)
              refine sq (o_pv (.bool false) rfl (by kernel_rfl) ?_)
              refine sq (o_pv (.bool false) rfl (by kernel_rfl) ?_)
              refine sq (o_pv (.pointer (some ⟨b11, 0, none⟩)) (by kernel_rfl) (by kernel_rfl) ?_)
              refine sq (o_pv (.int .i64 h.At) (by kernel_rfl) (x_load1 (by kernel_rfl) Tryd.isAgg3 (k44.2.1.cell' 0 rfl)) ?_)
              refine sq (o_pv (.int .i64 end_) (by kernel_rfl) (by kernel_rfl) ?_)
              by_cases h49 : h.At < end_
              ·
                replace hp := hp.1 h49
                refine sq (o_pv (.bool true) (by kernel_rfl) (x_dt (p := h.At < end_) (by kernel_rfl) h49) ?_)
                refine sq (o_pv (.bool true) rfl (by kernel_rfl) ?_)
                refine sq (o_pv (.bool true) rfl (by kernel_rfl) ?_)
                refine sq (o_not (by kernel_rfl) ?_)
                refine sq (o_not (by kernel_rfl) ?_)
                refine sq (o_not (by kernel_rfl) ?_)
                refine sq (o_not (by kernel_rfl) ?_)
                refine sq (o_not (by kernel_rfl) ?_)
                refine sq (o_not (by kernel_rfl) ?_)
                refine sq (o_not (by kernel_rfl) ?_)
                refine sq (o_pv (.bool true) rfl (by kernel_rfl) ?_)
                refine sq (o_pv (.bool true) rfl (by kernel_rfl) ?_)
                refine nil_ ?_
                refine then_normal (hJ41 _ _ _ ⟨[(20, (.bool (decide ((¬ (r19 = h.Del)) ∨ ((¬ (r20 = h.Add)) ∨ ((h.At < (0 : Int)) ∨ ((h.To < (0 : Int)) ∨ ((h.At < end_) ∨ (¬ ((h.To - shift) = h.At))))))))))], fit_mk (fun _ _ => rfl) (by kernel_rfl) (vs_cons (Eq.trans (b := (.bool true)) (by kernel_rfl) (dec_t ((or_iff_right (fun h1 => h1 h45)).trans ((or_iff_right (fun h1 => h1 h46)).trans ((or_iff_right h47).trans ((or_iff_right h48).trans (iff_true_intro (Or.inl h49))))))).symm) vs_nil), rfl, rfl⟩)
              ·
                replace hp := hp.2 h49
                refine sq (o_pv (.bool false) (by kernel_rfl) (x_df (p := h.At < end_) (by kernel_rfl) h49) ?_)
                refine sq (o_pv (.bool false) rfl (by kernel_rfl) ?_)
                refine sq (o_pv (.bool false) rfl (by kernel_rfl) ?_)
                refine sq (o_pv (.pointer (some ⟨b11, 2, none⟩)) (by kernel_rfl) (by kernel_rfl) ?_)
                refine sq (o_pv (.int .i64 h.To) (by kernel_rfl) (x_load1 (by kernel_rfl) Tryd.isAgg3 (k44.2.1.cell' 2 rfl)) ?_)
                refine sq (o_pv (.int .i64 shift) (by kernel_rfl) (by kernel_rfl) ?_)
                obtain ⟨h50, hp⟩ := hp
                refine sq (o_pv (.int .i64 (h.To - shift)) (by kernel_rfl) (x_sub2 (k := .i64) (a := h.To) (b := shift) (h.To - shift) (by kernel_rfl) (by kernel_rfl) (wrap_inR h50)) ?_)
                refine sq (o_pv (.pointer (some ⟨b11, 0, none⟩)) (by kernel_rfl) (by kernel_rfl) ?_)
                refine sq (o_pv (.int .i64 h.At) (by kernel_rfl) (x_load1 (by kernel_rfl) Tryd.isAgg3 (k44.2.1.cell' 0 rfl)) ?_)
                refine sq (o_pv (.bool (!decide ((h.To - shift) = h.At))) (by kernel_rfl) (by kernel_rfl) ?_)
                refine sq (o_pv (.bool (!decide ((h.To - shift) = h.At))) rfl (by kernel_rfl) ?_)
                refine sq (o_pv (.bool (!decide ((h.To - shift) = h.At))) rfl (by kernel_rfl) ?_)
                refine nil_ ?_
                refine then_normal (hJ41 _ _ _ ⟨[(20, (.bool (decide ((¬ (r19 = h.Del)) ∨ ((¬ (r20 = h.Add)) ∨ ((h.At < (0 : Int)) ∨ ((h.To < (0 : Int)) ∨ ((h.At < end_) ∨ (¬ ((h.To - shift) = h.At))))))))))], fit_mk (fun _ _ => rfl) (by kernel_rfl) (vs_cons (Eq.trans (b := (.bool (!decide ((h.To - shift) = h.At)))) (by kernel_rfl) (dec_n ((or_iff_right (fun h1 => h1 h45)).trans ((or_iff_right (fun h1 => h1 h46)).trans ((or_iff_right h47).trans ((or_iff_right h48).trans ((or_iff_right h49).trans Iff.rfl)))))).symm) vs_nil), rfl, rfl⟩)
        ·
          replace hp := hp.2 h46
          refine sq (o_pv (.bool true) (by kernel_rfl) (x_ndt (p := r20 = h.Add) (by kernel_rfl) h46) ?_)
          refine sq (o_pv (.bool true) rfl (by kernel_rfl) ?_)
          refine sq (o_pv (.bool true) rfl (by kernel_rfl) ?_)
          refine sq (o_not (by kernel_rfl) ?_)
          refine sq (o_not (by kernel_rfl) ?_)
          refine sq (o_not (by kernel_rfl) ?_)
          refine sq (o_pv (.bool true) rfl (by kernel_rfl) ?_)
          refine sq (o_pv (.bool true) rfl (by kernel_rfl) ?_)
          refine sq (o_not (by kernel_rfl) ?_)
          refine sq (o_not (by kernel_rfl) ?_)
          refine sq (o_not (by kernel_rfl) ?_)
          refine sq (o_pv (.bool true) rfl (by kernel_rfl) ?_)
          refine sq (o_pv (.bool true) rfl (by kernel_rfl) ?_)
          refine sq (o_not (by kernel_rfl) ?_)
          refine sq (o_not (by kernel_rfl) ?_)
          refine sq (o_not (by kernel_rfl) ?_)
          refine sq (o_not (by kernel_rfl) ?_)
          refine sq (o_pv (.bool true) rfl (by kernel_rfl) ?_)
          refine sq (o_pv (.bool true) rfl (by kernel_rfl) ?_)
          refine sq (o_not (by kernel_rfl) ?_)
          refine sq (o_not (by kernel_rfl) ?_)
          refine sq (o_not (by kernel_rfl) ?_)
          refine sq (o_not (by kernel_rfl) ?_)
          refine sq (o_not (by kernel_rfl) ?_)
          refine sq (o_not (by kernel_rfl) ?_)
          refine sq (o_not (by kernel_rfl) ?_)
          refine sq (o_pv (.bool true) rfl (by kernel_rfl) ?_)
          refine sq (o_pv (.bool true) rfl (by kernel_rfl) ?_)
          refine nil_ ?_
          refine then_normal (hJ41 _ _ _ ⟨[(20, (.bool (decide ((¬ (r19 = h.Del)) ∨ ((¬ (r20 = h.Add)) ∨ ((h.At < (0 : Int)) ∨ ((h.To < (0 : Int)) ∨ ((h.At < end_) ∨ (¬ ((h.To - shift) = h.At))))))))))], fit_mk (fun _ _ => rfl) (by kernel_rfl) (vs_cons (Eq.trans (b := (.bool true)) (by kernel_rfl) (dec_t ((or_iff_right (fun h1 => h1 h45)).trans (iff_true_intro (Or.inl h46)))).symm) vs_nil), rfl, rfl⟩)
      ·
        replace hp := hp.2 h45
        refine sq (o_pv (.bool true) rfl (x_ndt (p := r19 = h.Del) (by kernel_rfl) h45) ?_)
        refine sq (o_pv (.bool true) rfl (by kernel_rfl) ?_)
        refine sq (o_not (by kernel_rfl) ?_)
        refine sq (o_not (by kernel_rfl) ?_)
        refine sq (o_not (by kernel_rfl) ?_)
        refine sq (o_not (by kernel_rfl) ?_)
        refine sq (o_pv (.bool true) rfl (by kernel_rfl) ?_)
        refine sq (o_pv (.bool true) rfl (by kernel_rfl) ?_)
        refine sq (o_not (by kernel_rfl) ?_)
        refine sq (o_not (by kernel_rfl) ?_)
        refine sq (o_not (by kernel_rfl) ?_)
        refine sq (o_pv (.bool true) rfl (by kernel_rfl) ?_)
        refine sq (o_pv (.bool true) rfl (by kernel_rfl) ?_)
        refine sq (o_not (by kernel_rfl) ?_)
        refine sq (o_not (by kernel_rfl) ?_)
        refine sq (o_not (by kernel_rfl) ?_)
        refine sq (o_pv (.bool true) rfl (by kernel_rfl) ?_)
        refine sq (o_pv (.bool true) rfl (by kernel_rfl) ?_)
        refine sq (o_not (by kernel_rfl) ?_)
        refine sq (o_not (by kernel_rfl) ?_)
        refine sq (o_not (by kernel_rfl) ?_)
        refine sq (o_not (by kernel_rfl) ?_)
        refine sq (o_pv (.bool true) rfl (by kernel_rfl) ?_)
        refine sq (o_pv (.bool true) rfl (by kernel_rfl) ?_)
        refine sq (o_not (by kernel_rfl) ?_)
        refine sq (o_not (by kernel_rfl) ?_)
        refine sq (o_not (by kernel_rfl) ?_)
        refine sq (o_not (by kernel_rfl) ?_)
        refine sq (o_not (by kernel_rfl) ?_)
        refine sq (o_not (by kernel_rfl) ?_)
        refine sq (o_not (by kernel_rfl) ?_)
        refine sq (o_pv (.bool true) rfl (by kernel_rfl) ?_)
        refine sq (o_pv (.bool true) rfl (by kernel_rfl) ?_)
        refine nil_ ?_
        refine then_normal (hJ41 _ _ _ ⟨[(20, (.bool (decide ((¬ (r19 = h.Del)) ∨ ((¬ (r20 = h.Add)) ∨ ((h.At < (0 : Int)) ∨ ((h.To < (0 : Int)) ∨ ((h.At < end_) ∨ (¬ ((h.To - shift) = h.At))))))))))], fit_mk (fun _ _ => rfl) (by kernel_rfl) (vs_cons (Eq.trans (b := (.bool true)) (by kernel_rfl) (dec_t (iff_true_intro (Or.inl h45))).symm) vs_nil), rfl, rfl⟩)
    ·
      rintro _ w42 g43 ⟨rfl, hw⟩
      subst hw
      have hp := hq
      refine then_normal (K32 _ _ _ _ ?_)
      refine cond_d ((¬ (r19 = h.Del)) ∨ ((¬ (r20 = h.Add)) ∨ ((h.At < (0 : Int)) ∨ ((h.To < (0 : Int)) ∨ ((h.At < end_) ∨ (¬ ((h.To - shift) = h.At))))))) (by kernel_rfl) (fun h51 => ?_) (fun h51 => ?_)
      ·
        replace hp := hp.1 h51
        refine seq_ (fun _ K52 => ?_)
        refine reg_ ?_
        refine sq (o_pv (.int .i64 (1 : Int)) rfl (by kernel_rfl) ?_)
        refine nil_ ?_
        refine then_normal (K52 _ _ _ _ ?_)
        refine wp_ret ?_
        refine blk_ret ?_
        refine then_ret ?_
        have E53 := (Evo.then0 (Evo.then0 E0 (Step.evo s14)) e23)
        refine end_ret hQ (.int .i64 (1 : Int)) (by kernel_rfl) ?_
        exact ⟨(1 : Int), hp, E53, rfl, (by decide : inR .i64 (1 : Int))⟩
      ·
        replace hp := hp.2 h51
        refine wp_skip ?_
        refine blk_normal ?_
        refine then_normal (K27 _ _ _ _ ?_)
        refine seq_ (fun _ K54 => ?_)
        refine reg_ ?_
        refine sq (o_pv (.int .i64 (0 : Int)) rfl (by kernel_rfl) ?_)
        refine nil_ ?_
        refine then_normal (K54 _ _ _ _ ?_)
        refine wp_ret ?_
        have E55 := (Evo.then0 (Evo.then0 E0 (Step.evo s14)) e23)
        refine end_ret hQ (.int .i64 (0 : Int)) (by kernel_rfl) ?_
        exact ⟨(0 : Int), hp, E55, rfl, (by decide : inR .i64 (0 : Int))⟩

def patch_fits_p (a : (List ByteArray)) (h : S_patch_Hunk) (Q : Int → Prop) : Prop :=
  ((a.length ≤ 9223372036854775807) → ((inR .i64 h.At) → ((inR .i64 h.Del) → ((inR .i64 h.To) → ((inR .i64 h.Add) → ((h.Lines.length ≤ 9223372036854775807) → ((((h.At > (a.length : Int)) → True) ∧ ((¬ (h.At > (a.length : Int))) → ((inR .i64 ((a.length : Int) - h.At)) ∧ True))) ∧ ((((h.At > (a.length : Int)) ∨ (h.Del > ((a.length : Int) - h.At))) → Q (4 : Int)) ∧ ((¬ ((h.At > (a.length : Int)) ∨ (h.Del > ((a.length : Int) - h.At)))) → (∃ (I181 : Int → Int → Prop) (m182 : Int → Int → Nat), (I181 h.At (0 : Int)) ∧ (∀ (i34 : Int) (s36 : Int), (I181 i34 s36) → (inR .i64 i34) → (inR .i64 s36) → (((s36 < (h.Lines.length : Int)) → (∃ k264 : Int → Prop, (∀ (i262 : Int), k264 i262 → (inR .i64 i262) → ((inR .i64 (s36 + (1 : Int))) ∧ ((I181 i262 (s36 + (1 : Int))) ∧ m182 i262 (s36 + (1 : Int)) < m182 i34 s36))) ∧ ((inL h.Lines s36) ∧ ((inR .i64 ((lget h.Lines s36).Op)) → ((((lget h.Lines s36).Line).size ≤ maxLen) → (((((lget h.Lines s36).Op) = (3 : Int)) → (k264 i34)) ∧ ((¬ (((lget h.Lines s36).Op) = (3 : Int))) → ((inL a i34) ∧ (((lget a i34).size ≤ maxLen) → (((¬ ((lget a i34 : ByteArray) = (lget h.Lines s36).Line)) → Q (9 : Int)) ∧ (((lget a i34 : ByteArray) = (lget h.Lines s36).Line) → ((inR .i64 (i34 + (1 : Int))) ∧ (k264 (i34 + (1 : Int))))))))))))))) ∧ ((¬ (s36 < (h.Lines.length : Int))) → Q (0 : Int))))))))))))))
set_option maxRecDepth 20000 in
set_option maxHeartbeats 4000000 in
theorem patch_fits_w {X : List Nat} {w : World} {a : (List ByteArray)} {h : S_patch_Hunk} {aa1 : Option Addr} {ca2 : Nat} {ahLines8 : Option Addr} {chLines9 : Nat} {Q : Int → Prop} (hX0 : Old X w) (ha3 : Sl rStr X w aa1 ca2 a) (rhAt4 : inR .i64 h.At) (rhDel5 : inR .i64 h.Del) (rhTo6 : inR .i64 h.To) (rhAdd7 : inR .i64 h.Add) (hhLines10 : Sl r_diff_Edit X w ahLines8 chLines9 h.Lines) (hp : patch_fits_p a h Q) :
    Calls Tryd.prog 32 #[(.slice aa1 a.length ca2), (.agg #[(.int .i64 h.At), (.int .i64 h.Del), (.int .i64 h.To), (.int .i64 h.Add), (.slice ahLines8 h.Lines.length chLines9)])] w (Ret fun v w' => ∃ (r0 : Int), Q r0 ∧ Evo [] w w' ∧ v = (.int .i64 r0) ∧ inR .i64 r0) := by
  have hXo := hX0
  have E0 : Evo [] w w := RB.refl _ _ _
  have hS : Sub X X := Sub.refl _
  unfold patch_fits_p at hp
  refine enter_ Tryd.func32 rfl 45 [(0, (.slice aa1 a.length ca2)), (1, (.agg #[(.int .i64 h.At), (.int .i64 h.Del), (.int .i64 h.To), (.int .i64 h.Add), (.slice ahLines8 h.Lines.length chLines9)]))] (by kernel_rfl) (fun Qe hQ => ?_)
  replace hp := hp (Sl.len ha3)
  replace hp := hp rhAt4
  replace hp := hp rhDel5
  replace hp := hp rhTo6
  replace hp := hp rhAdd7
  replace hp := hp (Sl.len hhLines10)
  refine seq_ (fun _ K11 => ?_)
  refine reg_ ?_
  refine sq (o_newX [(.int .i64 h.At), (.int .i64 h.Del), (.int .i64 h.To), (.int .i64 h.Add), (.slice ahLines8 h.Lines.length chLines9)] 50 (X := X) (B := w.heap.size) E0.size rfl (by kernel_rfl) ?_)
  intro b12 w13 X14 s15 k16 n17
  refine sq (o_pv (.int .i64 (0 : Int)) rfl (by kernel_rfl) ?_)
  refine nil_ ?_
  refine then_normal (K11 _ _ _ _ ?_)
  refine seq_ (fun _ K18 => ?_)
  refine seq_ (fun _ K19 => ?_)
  obtain ⟨hp, hq⟩ := hp
  refine ground_ ?_
  refine join_ 8388352 (fun lq w24 => lq = [(22, (.bool (decide ((h.At > (a.length : Int)) ∨ (h.Del > ((a.length : Int) - h.At))))))] ∧ w13 = w24) (fun Kj22 hJ23 => ?_) ?_
  ·
    refine reg_ ?_
    refine sq (o_pv (.pointer (some ⟨b12, 0, none⟩)) rfl (by kernel_rfl) ?_)
    refine sq (o_pv (.int .i64 h.At) rfl (x_load1 (by kernel_rfl) Tryd.isAgg3 (k16.2.1.cell' 0 rfl)) ?_)
    refine sq (o_pv (.slice aa1 a.length ca2) rfl (by kernel_rfl) ?_)
    refine sq (o_pv (.int .i64 (a.length : Int)) rfl (by kernel_rfl) ?_)
    by_cases h26 : h.At > (a.length : Int)
    ·
      replace hp := hp.1 h26
      refine sq (o_pv (.bool true) rfl (x_dt (p := h.At > (a.length : Int)) (by kernel_rfl) h26) ?_)
      refine sq (o_pv (.bool true) rfl (by kernel_rfl) ?_)
      refine sq (o_not (by kernel_rfl) ?_)
      refine sq (o_not (by kernel_rfl) ?_)
      refine sq (o_not (by kernel_rfl) ?_)
      refine sq (o_not (by kernel_rfl) ?_)
      refine sq (o_not (by kernel_rfl) ?_)
      refine sq (o_not (by kernel_rfl) ?_)
      refine sq (o_not (by kernel_rfl) ?_)
      refine sq (o_not (by kernel_rfl) ?_)
      refine sq (o_pv (.bool true) rfl (by kernel_rfl) ?_)
      refine nil_ ?_
      refine then_normal (hJ23 _ _ _ ⟨[(22, (.bool (decide ((h.At > (a.length : Int)) ∨ (h.Del > ((a.length : Int) - h.At))))))], fit_mk (fun _ _ => rfl) (by kernel_rfl) (vs_cons (Eq.trans (b := (.bool true)) (by kernel_rfl) (dec_t (iff_true_intro (Or.inl h26))).symm) vs_nil), rfl, rfl⟩)
    ·
      replace hp := hp.2 h26
      refine sq (o_pv (.bool false) rfl (x_df (p := h.At > (a.length : Int)) (by kernel_rfl) h26) ?_)
      refine sq (o_pv (.bool false) rfl (by kernel_rfl) ?_)
      refine sq (o_pv (.pointer (some ⟨b12, 1, none⟩)) (by kernel_rfl) (by kernel_rfl) ?_)
      refine sq (o_pv (.int .i64 h.Del) (by kernel_rfl) (x_load1 (by kernel_rfl) Tryd.isAgg3 (k16.2.1.cell' 1 rfl)) ?_)
      refine sq (o_pv (.slice aa1 a.length ca2) (by kernel_rfl) (by kernel_rfl) ?_)
      refine sq (o_pv (.int .i64 (a.length : Int)) (by kernel_rfl) (by kernel_rfl) ?_)
      refine sq (o_pv (.pointer (some ⟨b12, 0, none⟩)) (by kernel_rfl) (by kernel_rfl) ?_)
      refine sq (o_pv (.int .i64 h.At) (by kernel_rfl) (x_load1 (by kernel_rfl) Tryd.isAgg3 (k16.2.1.cell' 0 rfl)) ?_)
      obtain ⟨h27, hp⟩ := hp
      refine sq (o_pv (.int .i64 ((a.length : Int) - h.At)) (by kernel_rfl) (x_sub2 (k := .i64) (a := (a.length : Int)) (b := h.At) ((a.length : Int) - h.At) (by kernel_rfl) (by kernel_rfl) (wrap_inR h27)) ?_)
      refine sq (o_pv (.bool (decide (h.Del > ((a.length : Int) - h.At)))) (by kernel_rfl) (by kernel_rfl) ?_)
      refine sq (o_pv (.bool (decide (h.Del > ((a.length : Int) - h.At)))) rfl (by kernel_rfl) ?_)
      refine nil_ ?_
      refine then_normal (hJ23 _ _ _ ⟨[(22, (.bool (decide ((h.At > (a.length : Int)) ∨ (h.Del > ((a.length : Int) - h.At))))))], fit_mk (fun _ _ => rfl) (by kernel_rfl) (vs_cons (Eq.trans (b := (.bool (decide (h.Del > ((a.length : Int) - h.At))))) (by kernel_rfl) (dec_d ((or_iff_right h26).trans Iff.rfl)).symm) vs_nil), rfl, rfl⟩)
  ·
    rintro _ w24 g25 ⟨rfl, hw⟩
    subst hw
    have hp := hq
    refine then_normal (K19 _ _ _ _ ?_)
    refine cond_d ((h.At > (a.length : Int)) ∨ (h.Del > ((a.length : Int) - h.At))) (by kernel_rfl) (fun h28 => ?_) (fun h28 => ?_)
    ·
      replace hp := hp.1 h28
      refine seq_ (fun _ K29 => ?_)
      refine reg_ ?_
      refine sq (o_pv (.int .i64 (4 : Int)) rfl (by kernel_rfl) ?_)
      refine nil_ ?_
      refine then_normal (K29 _ _ _ _ ?_)
      refine wp_ret ?_
      refine then_ret ?_
      have E30 := (Evo.then0 E0 (Step.evo s15))
      refine end_ret hQ (.int .i64 (4 : Int)) (by kernel_rfl) ?_
      exact ⟨(4 : Int), hp, E30, rfl, (by decide : inR .i64 (4 : Int))⟩
    ·
      replace hp := hp.2 h28
      refine wp_skip ?_
      refine then_normal (K18 _ _ _ _ ?_)
      refine seq_ (fun _ K31 => ?_)
      refine reg_ ?_
      refine sq (o_pv (.pointer (some ⟨b12, 0, none⟩)) rfl (by kernel_rfl) ?_)
      refine sq (o_pv (.int .i64 h.At) rfl (x_load1 (by kernel_rfl) Tryd.isAgg3 (k16.2.1.cell' 0 rfl)) ?_)
      refine sq (o_pv (.int .i64 h.At) rfl (by kernel_rfl) ?_)
      refine nil_ ?_
      refine then_normal (K31 _ _ _ _ ?_)
      refine seq_ (fun _ K32 => ?_)
      refine seq_ (fun _ K33 => ?_)
      refine reg_ ?_
      refine sq (o_pv (.pointer (some ⟨b12, 4, none⟩)) rfl (by kernel_rfl) ?_)
      refine sq (o_pv (.slice ahLines8 h.Lines.length chLines9) rfl (x_load1 (by kernel_rfl) Tryd.isAgg33 (k16.2.1.cell' 4 rfl)) ?_)
      refine sq (o_pv (.int .i64 (h.Lines.length : Int)) rfl (by kernel_rfl) ?_)
      refine sq (o_pv (.int .i64 (0 : Int)) rfl (by kernel_rfl) ?_)
      refine nil_ ?_
      refine then_normal (K33 _ _ _ _ ?_)
      refine wp_block ?_
      have ha191 := (Sl.step ha3 s15)
      have hhLines192 := (Sl.step hhLines10 s15)
      have hXo193 := (Old.step hXo s15)
      have E194 := (Evo.then0 E0 (Step.evo s15))
      have hS195 := (Sub.trans hS (Step.up s15))
      obtain ⟨I181, m182, hI183, hp⟩ := hp
      refine loop_ 35184103653552 (fun kq lq w185 => ∃ (X186 : List Nat) (i34 : Int) (s36 : Int), (lq = [(5, (.int .i64 i34)), (28, (.int .i64 s36))]) ∧ (kq = m182 i34 s36) ∧ (Evo [] w w185) ∧ (Old X186 w185) ∧ (Sub X X186) ∧ (Sl rStr X186 w185 aa1 ca2 a) ∧ (Sl r_diff_Edit X186 w185 ahLines8 chLines9 h.Lines) ∧ (inR .i64 i34) ∧ (inR .i64 s36) ∧ (I181 i34 s36)) (m182 h.At (0 : Int)) [(5, (.int .i64 h.At)), (28, (.int .i64 (0 : Int)))] (vs_cons (by kernel_rfl) (vs_cons (by kernel_rfl) vs_nil)) ⟨X14, h.At, (0 : Int), rfl, rfl, E194, hXo193, hS195, ha191, hhLines192, rhAt4, (by decide : inR .i64 (0 : Int)), hI183⟩ ?_
      rintro _ _ w185 g188 ⟨X186, i34, s36, rfl, rfl, E196, hXo197, hS198, ha199, hhLines200, ri35, rs37, hI184⟩ Kl189 hA190
      replace hp := hp i34 s36 hI184 ri35 rs37
      refine seq_ (fun _ K201 => ?_)
      refine reg_ ?_
      refine sq (o_pv (.bool (decide (s36 < (h.Lines.length : Int)))) rfl (by kernel_rfl) ?_)
      refine nil_ ?_
      refine then_normal (K201 _ _ _ _ ?_)
      refine seq_ (fun _ K202 => ?_)
      refine cond_d (s36 < (h.Lines.length : Int)) (by kernel_rfl) (fun h203 => ?_) (fun h203 => ?_)
      ·
        replace hp := hp.1 h203
        refine wp_skip ?_
        refine then_normal (K202 _ _ _ _ ?_)
        refine seq_ (fun _ K204 => ?_)
        obtain ⟨k264, hk265, hp⟩ := hp
        refine ground_ ?_
        refine join_ 17591112302768 (fun lq w266 => ∃ (X267 : List Nat) (i262 : Int), (lq = [(5, (.int .i64 i262))]) ∧ (Evo [] w w266) ∧ (Old X267 w266) ∧ (Sub X X267) ∧ (Sl rStr X267 w266 aa1 ca2 a) ∧ (Sl r_diff_Edit X267 w266 ahLines8 chLines9 h.Lines) ∧ (inR .i64 i262) ∧ (k264 i262)) (fun Kj268 hJ269 => ?_) ?_
        ·
          refine wp_block ?_
          refine seq_ (fun _ K276 => ?_)
          refine reg_ ?_
          obtain ⟨h277, hp⟩ := hp
          obtain ⟨b278, o279, cs280, ha281, nx282, lt283, ok284, hc285⟩ := Sl.atI hhLines200 s36 h277
          obtain ⟨rfl, reOp286, zeLine287⟩ := r_diff_Edit_open ok284
          replace hp := hp reOp286
          replace hp := hp zeLine287
          refine sq (o_pv (.pointer (some ⟨b278, o279 + s36.toNat * 2, none⟩)) rfl (x_ixA (m := h.Lines.length) (c := chLines9) (k := .i64) (i := s36) Tryd.underlying33 Tryd.sizeOf48 (by rw [← ha281]; kernel_rfl) (by kernel_rfl) h277) ?_)
          refine sq (o_pv (.agg #[(.int .i64 ((lget h.Lines s36).Op)), (.string ((lget h.Lines s36).Line))]) rfl (x_loadN [(.int .i64 ((lget h.Lines s36).Op)), (.string ((lget h.Lines s36).Line))] (by kernel_rfl) Tryd.isAgg48 Tryd.sizeOf48 hc285) ?_)
          refine sq (o_newX [(.int .i64 (0 : Int)), (.string (ByteArray.mk #[]))] 48 (X := X186) (B := w.heap.size) E196.size rfl (by kernel_rfl) ?_)
          intro b288 w289 X290 s291 k292 n293
          have E294 := (Evo.then0 E196 (Step.evo s291))
          refine sq (o_stB (o := 0) (v := (.agg #[(.int .i64 ((lget h.Lines s36).Op)), (.string ((lget h.Lines s36).Line))])) [(.int .i64 ((lget h.Lines s36).Op)), (.string ((lget h.Lines s36).Line))] rfl k292 (by kernel_rfl) (by kernel_rfl) Tryd.sizeOf48 rfl rfl rfl ?_)
          intro w295 s296 k297
          refine nil_ ?_
          refine then_normal (K276 _ _ _ _ ?_)
          refine seq_ (fun _ K298 => ?_)
          refine seq_ (fun _ K299 => ?_)
          refine reg_ ?_
          refine sq (o_pv (.pointer (some ⟨b288, 0, none⟩)) rfl (by kernel_rfl) ?_)
          refine sq (o_pv (.int .i64 ((lget h.Lines s36).Op)) rfl (x_load1 (by kernel_rfl) Tryd.isAgg3 (k297.2.1.cell' 0 rfl)) ?_)
          refine sq (o_pv (.bool (decide (((lget h.Lines s36).Op) = (3 : Int)))) rfl (by kernel_rfl) ?_)
          refine nil_ ?_
          refine then_normal (K299 _ _ _ _ ?_)
          refine cond_d (((lget h.Lines s36).Op) = (3 : Int)) (by kernel_rfl) (fun h300 => ?_) (fun h300 => ?_)
          ·
            replace hp := hp.1 h300
            refine wp_exit ?_
            refine then_exit ?_
            refine blk_exit ?_
            have E301 := (Evo.thenW E294 (Step.evo s296) k292.2.2)
            have hXo302 := (Old.step (Old.step hXo197 s291) s296)
            have hS303 := (Sub.trans (Sub.trans hS198 (Step.up s291)) (Step.up s296))
            have ha304 := (Sl.step (Sl.step ha199 s291) s296)
            have hhLines305 := (Sl.step (Sl.step hhLines200 s291) s296)
            refine then_normal (hJ269 _ _ _ ⟨[(5, (.int .i64 i34))], fit_mk (fun _ _ => rfl) (by kernel_rfl) (vs_cons (by kernel_rfl) vs_nil), ?_⟩)
            exact ⟨X290, i34, rfl, E301, hXo302, hS303, ha304, hhLines305, ri35, hp⟩
          ·
            replace hp := hp.2 h300
            refine wp_skip ?_
            refine then_normal (K298 _ _ _ _ ?_)
            refine seq_ (fun _ K306 => ?_)
            refine seq_ (fun _ K307 => ?_)
            have E308 := (Evo.thenW E294 (Step.evo s296) k292.2.2)
            have hXo309 := (Old.step (Old.step hXo197 s291) s296)
            have hS310 := (Sub.trans (Sub.trans hS198 (Step.up s291)) (Step.up s296))
            have ha311 := (Sl.step (Sl.step ha199 s291) s296)
            have hhLines312 := (Sl.step (Sl.step hhLines200 s291) s296)
            refine reg_drawn (RB w295.heap.size []) 7 (by kernel_rfl) (fun w313 hd314 => ?_)
            have e315 := Evo.of_drew hd314
            have z316 : w313.heap.size = w295.heap.size := by rw [hd314]
            clear hd314
            have s318 := Step.of0 X290 e315
            have er317 := RB.refl w295.heap.size [] w313
            have E319 := (Evo.then0 E308 (Step.evo s318))
            have hXo320 := (Old.step hXo309 s318)
            have hS321 := (Sub.trans hS310 (Step.up s318))
            have ha322 := (Sl.step ha311 s318)
            have hhLines323 := (Sl.step hhLines312 s318)
            have k324 := (OB.step0 k297 s318)
            refine r_take 0 (.slice aa1 a.length ca2) (RB.pre _ _) rfl (by kernel_rfl) (fun _ _ _ h => hQ.panic _ _ _ _ _ h) (.inl ⟨rfl, fun wq hq => (by kernel_rfl)⟩) ?_
            refine r_take 1 (.int .i64 i34) (RB.pre _ _) rfl (by kernel_rfl) (fun _ _ _ h => hQ.panic _ _ _ _ _ h) (.inl ⟨rfl, fun wq hq => (by kernel_rfl)⟩) ?_
            obtain ⟨h325, hp⟩ := hp
            obtain ⟨b326, o327, cs328, ha329, nx330, lt331, ok332, hc333⟩ := Sl.atI ha322 i34 h325
            obtain ⟨rfl, ze334⟩ := ok332
            replace hp := hp ze334
            refine r_take 2 (.pointer (some ⟨b326, o327 + i34.toNat * 1, none⟩)) (RB.pre _ _) rfl (by kernel_rfl) (fun _ _ _ h => hQ.panic _ _ _ _ _ h) (.inl ⟨rfl, fun wq hq => (x_ixA (m := a.length) (c := ca2) (k := .i64) (i := i34) Tryd.underlying22 Tryd.sizeOf9 (by rw [← ha329]; kernel_rfl) (by kernel_rfl) h325)⟩) ?_
            refine r_take 3 (.string (lget a i34)) (RB.pre _ _) rfl (by kernel_rfl) (fun _ _ _ h => hQ.panic _ _ _ _ _ h) (.inl ⟨rfl, fun wq hq => (x_load1 (by kernel_rfl) Tryd.isAgg9 ((CellsAt.rb hc333 (RB.trans er317 hq) (Nat.lt_of_lt_of_eq lt331 z316) (fun h => by cases h)) 0 _ rfl))⟩) ?_
            refine r_take 4 (.pointer (some ⟨b288, 1, none⟩)) (RB.pre _ _) rfl (by kernel_rfl) (fun _ _ _ h => hQ.panic _ _ _ _ _ h) (.inl ⟨rfl, fun wq hq => (by kernel_rfl)⟩) ?_
            refine r_take 5 (.string ((lget h.Lines s36).Line)) (RB.pre _ _) rfl (by kernel_rfl) (fun _ _ _ h => hQ.panic _ _ _ _ _ h) (.inl ⟨rfl, fun wq hq => (x_load1 (by kernel_rfl) Tryd.isAgg9 ((Blk.rb k324.2.1 (RB.trans er317 hq) (Nat.lt_of_lt_of_eq (Blk.lt k324.2.1) z316) (fun h => by cases h)).cell' 1 rfl))⟩) ?_
            refine r_take 6 (.bool (!decide ((lget a i34 : ByteArray) = (lget h.Lines s36).Line))) (RB.pre _ _) rfl (by kernel_rfl) (fun _ _ _ h => hQ.panic _ _ _ _ _ h) (.inl ⟨rfl, fun wq hq => (x_strne (by kernel_rfl) (by kernel_rfl))⟩) ?_
            refine r_done (by kernel_rfl) ?_
            refine then_normal (K307 _ _ _ _ ?_)
            refine cond_nd ((lget a i34 : ByteArray) = (lget h.Lines s36).Line) (by kernel_rfl) (fun h335 => ?_) (fun h335 => ?_)
            ·
              replace hp := hp.1 h335
              refine seq_ (fun _ K336 => ?_)
              refine reg_ ?_
              refine sq (o_pv (.int .i64 (9 : Int)) rfl (by kernel_rfl) ?_)
              refine nil_ ?_
              refine then_normal (K336 _ _ _ _ ?_)
              refine wp_ret ?_
              refine then_ret ?_
              refine blk_ret ?_
              refine then_ret ?_
              refine then_ret ?_
              refine then_ret ?_
              refine blk_ret ?_
              refine then_ret ?_
              refine end_ret hQ (.int .i64 (9 : Int)) (by kernel_rfl) ?_
              exact ⟨(9 : Int), hp, E319, rfl, (by decide : inR .i64 (9 : Int))⟩
            ·
              replace hp := hp.2 h335
              refine wp_skip ?_
              refine then_normal (K306 _ _ _ _ ?_)
              refine reg_ ?_
              refine sq (o_pv (.int .i64 i34) rfl (by kernel_rfl) ?_)
              obtain ⟨h337, hp⟩ := hp
              refine sq (o_pv (.int .i64 (i34 + (1 : Int))) rfl (x_add2 (k := .i64) (a := i34) (b := (1 : Int)) (i34 + (1 : Int)) (by kernel_rfl) (by kernel_rfl) (wrap_inR h337)) ?_)
              refine sq (o_pv (.int .i64 (i34 + (1 : Int))) rfl (by kernel_rfl) ?_)
              refine nil_ ?_
              refine blk_normal ?_
              refine then_normal (hJ269 _ _ _ ⟨[(5, (.int .i64 (i34 + (1 : Int))))], fit_mk (fun _ _ => rfl) (by kernel_rfl) (vs_cons (by kernel_rfl) vs_nil), ?_⟩)
              exact ⟨X290, (i34 + (1 : Int)), rfl, E319, hXo320, hS321, ha322, hhLines323, h337, hp⟩
        ·
          rintro _ w266 g338 ⟨X267, i262, rfl, E271, hXo272, hS273, ha274, hhLines275, ri263, hv270⟩
          replace hp := hk265 i262 hv270 ri263
          refine then_normal (K204 _ _ _ _ ?_)
          refine reg_ ?_
          obtain ⟨h339, hp⟩ := hp
          refine sq (o_pv (.int .i64 (s36 + (1 : Int))) rfl (x_add2 (k := .i64) (a := s36) (b := (1 : Int)) (s36 + (1 : Int)) (by kernel_rfl) (by kernel_rfl) (wrap_inR h339)) ?_)
          refine sq (o_pv (.int .i64 (s36 + (1 : Int))) rfl (by kernel_rfl) ?_)
          refine nil_ ?_
          refine then_normal (hA190 _ _ _ ⟨_, [(5, (.int .i64 i262)), (28, (.int .i64 (s36 + (1 : Int))))], hp.2, fit_mk (AgB.nest (AgB.look (AgB.mix _ _ _) (by kernel_rfl)) (by kernel_rfl) (by kernel_rfl)) (by kernel_rfl) (vs_cons (by kernel_rfl) (vs_cons (by kernel_rfl) vs_nil)), ?_⟩)
          exact ⟨X267, i262, (s36 + (1 : Int)), rfl, rfl, E271, hXo272, hS273, ha274, hhLines275, ri263, h339, hp.1⟩
      ·
        replace hp := hp.2 h203
        refine wp_exit ?_
        refine then_exit ?_
        refine then_exit ?_
        refine blk_exit ?_
        refine then_normal (K32 _ _ _ _ ?_)
        refine seq_ (fun _ K340 => ?_)
        refine reg_ ?_
        refine sq (o_pv (.int .i64 (0 : Int)) rfl (by kernel_rfl) ?_)
        refine nil_ ?_
        refine then_normal (K340 _ _ _ _ ?_)
        refine wp_ret ?_
        refine end_ret hQ (.int .i64 (0 : Int)) (by kernel_rfl) ?_
        exact ⟨(0 : Int), hp, E196, rfl, (by decide : inR .i64 (0 : Int))⟩

def slices_Clip_string_string_p (s : (List ByteArray)) (Q : (List ByteArray) → Prop) : Prop :=
  ((s.length ≤ 9223372036854775807) → ((0 ≤ (s.length : Int) ∧ (s.length : Int) ≤ (s.length : Int)) ∧ Q s))
set_option maxRecDepth 20000 in
set_option maxHeartbeats 4000000 in
theorem slices_Clip_string_string_w {X : List Nat} {w : World} {s : (List ByteArray)} {as1 : Option Addr} {cs2 : Nat} {Q : (List ByteArray) → Prop} (hX0 : Old X w) (hs3 : Sl rStr X w as1 cs2 s) (hp : slices_Clip_string_string_p s Q) :
    Calls Tryd.prog 33 #[(.slice as1 s.length cs2)] w (Ret fun v w' => ∃ (r0 : (List ByteArray)), Q r0 ∧ Evo [] w w' ∧ ∃ (aq01 : Option Addr), v = (.slice aq01 r0.length r0.length) ∧ Sl rStr X w' aq01 r0.length r0) := by
  have hXo := hX0
  have E0 : Evo [] w w := RB.refl _ _ _
  have hS : Sub X X := Sub.refl _
  unfold slices_Clip_string_string_p at hp
  refine enter_ Tryd.func33 rfl 9 [(0, (.slice as1 s.length cs2))] (by kernel_rfl) (fun Qe hQ => ?_)
  replace hp := hp (Sl.len hs3)
  refine seq_ (fun _ K4 => ?_)
  refine reg_ ?_
  refine sq (o_pv (.slice none 0 0) rfl (by kernel_rfl) ?_)
  refine nil_ ?_
  refine then_normal (K4 _ _ _ _ ?_)
  refine seq_ (fun _ K5 => ?_)
  refine reg_ ?_
  refine sq (o_pv (.slice as1 s.length cs2) rfl (by kernel_rfl) ?_)
  refine sq (o_pv (.slice as1 s.length cs2) rfl (by kernel_rfl) ?_)
  refine sq (o_pv (.int .i64 (s.length : Int)) rfl (by kernel_rfl) ?_)
  refine sq (o_pv (.slice as1 s.length cs2) rfl (by kernel_rfl) ?_)
  refine sq (o_pv (.int .i64 (s.length : Int)) rfl (by kernel_rfl) ?_)
  obtain ⟨h9, hp⟩ := hp
  refine sq (o_slice3F (R := rStr) (k := .i64) (k' := .i64) (X := X) (L := s) (s.length : Int) Tryd.underlying22 Tryd.sizeOf9 hs3 (by kernel_rfl) rfl rfl (by kernel_rfl) (by kernel_rfl) h9 ?_)
  intro a6 h8
  rw [take_len] at h8
  rw [take_len]
  refine sq (o_pv (.slice a6 s.length s.length) rfl (by kernel_rfl) ?_)
  refine nil_ ?_
  refine then_normal (K5 _ _ _ _ ?_)
  refine wp_ret ?_
  refine end_ret hQ (.slice a6 s.length s.length) (by kernel_rfl) ?_
  exact ⟨s, hp, E0, a6, rfl, (Sl.less h8 hS)⟩
theorem slices_Clip_string_string_keep {w : World} {a : Option Addr} {m c : Nat} (hmc : m ≤ c) : Calls Tryd.prog 33 #[(.slice a m c)] w (Ret fun v w' => v = (.slice a m m) ∧ w = w') := by
  refine enter_ Tryd.func33 rfl 9 [(0, (.slice a m c))] (by kernel_rfl) (fun Qe hQ => ?_)
  refine seq_ (fun _ K4 => ?_)
  refine reg_ ?_
  refine sq (o_pv (.slice none 0 0) rfl (by kernel_rfl) ?_)
  refine nil_ ?_
  refine then_normal (K4 _ _ _ _ ?_)
  refine seq_ (fun _ K5 => ?_)
  refine reg_ ?_
  refine sq (o_pv (.slice a m c) rfl (by kernel_rfl) ?_)
  refine sq (o_pv (.slice a m c) rfl (by kernel_rfl) ?_)
  refine sq (o_pv (.int .i64 (m : Int)) rfl (by kernel_rfl) ?_)
  refine sq (o_pv (.slice a m c) rfl (by kernel_rfl) ?_)
  refine sq (o_pv (.int .i64 (m : Int)) rfl (by kernel_rfl) ?_)
  refine sq (o_slice3K (a := a) (m := m) (c := c) (k := .i64) (k' := .i64) Tryd.underlying22 Tryd.sizeOf9 (by kernel_rfl) hmc rfl (by kernel_rfl) (by kernel_rfl) ?_)
  refine sq (o_pv (.slice a m m) rfl (by kernel_rfl) ?_)
  refine nil_ ?_
  refine then_normal (K5 _ _ _ _ ?_)
  refine wp_ret ?_
  refine end_ret hQ (.slice a m m) (by kernel_rfl) ?_
  exact ⟨rfl, rfl⟩

end Go.Proofs.YtnnbnljofklieaaDoor
