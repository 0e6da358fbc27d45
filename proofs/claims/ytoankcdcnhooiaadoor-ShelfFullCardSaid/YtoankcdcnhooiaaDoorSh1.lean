/- Walks of functions: what each asks and computes, as a plain predicate, and the contract from it. -/
import Derived.Test.YtoankcdcnhooiaaDoorChecked
import Derived.Test.YtoankcdcnhooiaaDoorStEq
import Derived.Test.YtoankcdcnhooiaaDoorDel
import Derived.Test.YtoankcdcnhooiaaDoorLib
import Derived.Test.YtoankcdcnhooiaaDoorShelf
namespace Go.Proofs.YtoankcdcnhooiaaDoor
open Go
structure S_files_File where
  Path : ByteArray
  Mode : Int
  Data : ByteArray
instance : Inhabited S_files_File := ⟨⟨default, default, default⟩⟩
def r_files_File : Rep S_files_File := rMap (fun d => (d.Path, (d.Mode, d.Data))) (rPair rStr (rPair (rInt .i64) rStr))
theorem r_files_File_open {X : List Nat} {w : World} {cs : List Value} {d : S_files_File} (h : r_files_File.ok X w cs d) : cs = [.string d.Path, .int .i64 d.Mode, .string d.Data] ∧ d.Path.size ≤ maxLen ∧ inR .i64 d.Mode ∧ d.Data.size ≤ maxLen := by
  obtain ⟨c6, t7, rfl, ⟨rfl, h1⟩, ⟨c4, t5, rfl, ⟨rfl, h2⟩, ⟨rfl, h3⟩⟩⟩ := h
  exact ⟨rfl, h1, h2, h3⟩
theorem r_files_File_mk {X : List Nat} {w : World} {Pathq : ByteArray} {Modeq : Int} {Dataq : ByteArray} (h1 : Pathq.size ≤ maxLen) (h2 : inR .i64 Modeq) (h3 : Dataq.size ≤ maxLen) : r_files_File.ok X w [.string Pathq, .int .i64 Modeq, .string Dataq] ⟨Pathq, Modeq, Dataq⟩ :=
  (rMap_mk _ (rPair_mk (rStr_mk h1) (rPair_mk (rInt_mk h2) (rStr_mk h3))))
structure S_shelf_Shelf where
  Base : Int
  Index : (List S_files_File)
  Work : (List S_files_File)
  Text : ByteArray
instance : Inhabited S_shelf_Shelf := ⟨⟨default, default, default, default⟩⟩
def r_shelf_Shelf : Rep S_shelf_Shelf := rMap (fun d => (d.Base, (d.Index, (d.Work, d.Text)))) (rPair (rInt .i64) (rPair (rSl r_files_File) (rPair (rSl r_files_File) rStr)))
theorem r_shelf_Shelf_open {X : List Nat} {w : World} {cs : List Value} {d : S_shelf_Shelf} (h : r_shelf_Shelf.ok X w cs d) : ∃ (a2 : Option Addr) (c3 : Nat) (a5 : Option Addr) (c6 : Nat), cs = [.int .i64 d.Base, .slice a2 d.Index.length c3, .slice a5 d.Work.length c6, .string d.Text] ∧ inR .i64 d.Base ∧ Sl r_files_File X w a2 c3 d.Index ∧ Sl r_files_File X w a5 c6 d.Work ∧ d.Text.size ≤ maxLen := by
  obtain ⟨c13, t14, rfl, ⟨rfl, h1⟩, ⟨c11, t12, rfl, ⟨a2, c3, rfl, h4⟩, ⟨c9, t10, rfl, ⟨a5, c6, rfl, h7⟩, ⟨rfl, h8⟩⟩⟩⟩ := h
  exact ⟨a2, c3, a5, c6, rfl, h1, h4, h7, h8⟩
theorem r_shelf_Shelf_mk {X : List Nat} {w : World} {Baseq : Int} {Indexq : (List S_files_File)} {Workq : (List S_files_File)} {Textq : ByteArray} {a2 : Option Addr} {c3 : Nat} {m5 : Nat} {a6 : Option Addr} {c7 : Nat} {m9 : Nat} (h1 : inR .i64 Baseq) (h4 : Sl r_files_File X w a2 c3 Indexq) (h4n : m5 = Indexq.length) (h8 : Sl r_files_File X w a6 c7 Workq) (h8n : m9 = Workq.length) (h10 : Textq.size ≤ maxLen) : r_shelf_Shelf.ok X w [.int .i64 Baseq, .slice a2 m5 c3, .slice a6 m9 c7, .string Textq] ⟨Baseq, Indexq, Workq, Textq⟩ :=
  (rMap_mk _ (rPair_mk (rInt_mk h1) (rPair_mk (rSl_mk' h4 h4n) (rPair_mk (rSl_mk' h8 h8n) (rStr_mk h10)))))
structure S_strings_Builder where
  addr : Bool
  buf : (List Int)
instance : Inhabited S_strings_Builder := ⟨⟨default, default⟩⟩
def o_strings_Builder (b : Nat) : Obj S_strings_Builder := oMap (fun d => (d.addr, d.buf)) (oPair (oSelf b) (oOwn (rInt .u8) 5))
theorem o_strings_Builder_open {X F G : List Nat} {w : World} {B b : Nat} {d : S_strings_Builder} (h : MO (o_strings_Builder b) 49 G B X w F b d) : ∃ (a1 : Option Addr) (n2 : Nat) (c3 : Nat), OB G B X w b [cond d.addr (.pointer (some ⟨b, 0, none⟩)) (.pointer none), .slice a1 n2 c3] 49 ∧ OS (rInt .u8) G B X w 5 a1 n2 c3 d.buf ∧ Sub [b] F ∧ Sub (blkL a1) F ∧ Ap [b] (blkL a1) := by
  obtain ⟨⟨cs, F1, rfl, hb, hn, hk, hO⟩, hw⟩ := h
  obtain ⟨_, _, _, _, rfl, rfl, ap0, ⟨rfl, rfl⟩, ⟨a1, c3, rfl, rfl, h4⟩⟩ := hO
  exact ⟨a1, _, c3, ⟨hb, hk, hw.sub (Sub.hd _ _)⟩, ⟨rfl, h4, hw.sub (Sub.trans (Sub.inr _ _) (Sub.tl _ _))⟩, Sub.hd _ _, (Sub.trans (Sub.inr _ _) (Sub.tl _ _)), (of_notin hn).subr (Sub.inr _ _)⟩
theorem o_strings_Builder_mk {X G : List Nat} {w : World} {B b : Nat} {addrq : Bool} {bufq : (List Int)} {a1 : Option Addr} {m2 : Nat} {c3 : Nat} (hb : OB G B X w b [cond addrq (.pointer (some ⟨b, 0, none⟩)) (.pointer none), .slice a1 m2 c3] 49) (h4 : OS (rInt .u8) G B X w 5 a1 m2 c3 bufq) (pb1 : Ap [b] (blkL a1)) : MO (o_strings_Builder b) 49 G B X w (b :: ([] ++ (blkL a1))) b ⟨addrq, bufq⟩ :=
  MO.mk (O := (o_strings_Builder b)) hb (Ap.app (Ap.nil_r _) pb1) (show (o_strings_Builder b).ok _ X w _ _ from (oPair_mk (Ap.nil_l _) oSelf_mk (oOwn_mk h4))) (Wr.app (Wr.nil _ _) h4.wr)
theorem elT23 : ElemT Tryd.prog 23 31 4 72 := elemT_mk (i := Tryd.t31) (z := (.agg #[(.int .i64 0), (.slice none 0 0), (.slice none 0 0), (.string (ByteArray.mk #[]))])) (by kernel_rfl) (by kernel_rfl) (by kernel_rfl) (by kernel_rfl) Tryd.underlying23 Tryd.sizeOf31 (by decide) (by decide)
theorem elT24 : ElemT Tryd.prog 24 31 4 72 := elemT_mk (i := Tryd.t31) (z := (.agg #[(.int .i64 0), (.slice none 0 0), (.slice none 0 0), (.string (ByteArray.mk #[]))])) (by kernel_rfl) (by kernel_rfl) (by kernel_rfl) (by kernel_rfl) Tryd.underlying24 Tryd.sizeOf31 (by decide) (by decide)
theorem elT29 : ElemT Tryd.prog 29 37 3 40 := elemT_mk (i := Tryd.t37) (z := (.agg #[(.string (ByteArray.mk #[])), (.int .i64 0), (.string (ByteArray.mk #[]))])) (by kernel_rfl) (by kernel_rfl) (by kernel_rfl) (by kernel_rfl) Tryd.underlying29 Tryd.sizeOf37 (by decide) (by decide)
theorem elT47 : ElemT Tryd.prog 47 5 1 1 := elemT_mk (i := Tryd.t5) (z := (.int .u8 0)) (by kernel_rfl) (by kernel_rfl) (by kernel_rfl) (by kernel_rfl) Tryd.underlying47 Tryd.sizeOf5 (by decide) (by decide)
def slices_Clone_files_Row_files_File_p (s : (List S_files_File)) (Q : (List S_files_File) → Prop) : Prop :=
  ((s.length ≤ 9223372036854775807) → ((s.length * 40 ≤ 140737488355328) ∧ Q s))
set_option maxRecDepth 20000 in
set_option maxHeartbeats 4000000 in
theorem slices_Clone_files_Row_files_File_w {X : List Nat} {w : World} {s : (List S_files_File)} {as1 : Option Addr} {cs2 : Nat} {Q : (List S_files_File) → Prop} (hX0 : Old X w) (hs3 : Sq r_files_File X w as1 cs2 s) (hp : slices_Clone_files_Row_files_File_p s Q) :
    Calls Tryd.prog 25 #[(.slice as1 s.length cs2)] w (Ret fun v w' => ∃ (r0 : (List S_files_File)), Q r0 ∧ Evo [] w w' ∧ ∃ (a0 : Option Addr) (c0 : Nat), v = .slice a0 r0.length c0 ∧ OS r_files_File [] w.heap.size (blkL a0 ++ X) w' 37 a0 r0.length c0 r0) := by
  have hXo := hX0
  have E0 : Evo [] w w := RB.refl _ _ _
  have hS : Sub X X := Sub.refl _
  unfold slices_Clone_files_Row_files_File_p at hp
  refine enter_ Tryd.func25 rfl 8 [(0, (.slice as1 s.length cs2))] (by kernel_rfl) (fun Qe hQ => ?_)
  replace hp := hp (Sq.len hs3)
  refine seq_ (fun _ K4 => ?_)
  refine reg_ ?_
  refine sq (o_pv (.slice none 0 0) rfl (by kernel_rfl) ?_)
  refine nil_ ?_
  refine then_normal (K4 _ _ _ _ ?_)
  refine seq_ (fun _ K5 => ?_)
  refine seq_ (fun _ K6 => ?_)
  refine reg_ ?_
  refine sq (o_pv (.slice as1 s.length cs2) rfl (by kernel_rfl) ?_)
  rcases as1 with _ | ad
  ·
    obtain rfl : s = [] := hs3.2.elim (fun h => h.1) (fun ⟨b, o, xs, h, _⟩ => by cases h)
    replace hp := hp.2
    refine sq (o_pv (.bool true) rfl (by kernel_rfl) ?_)
    refine nil_ ?_
    refine then_normal (K6 _ _ _ _ ?_)
    refine cond_t (by kernel_rfl) ?_
    refine seq_ (fun _ K7 => ?_)
    refine reg_ ?_
    refine sq (o_pv (.slice none 0 0) rfl (by kernel_rfl) ?_)
    refine nil_ ?_
    refine then_normal (K7 _ _ _ _ ?_)
    refine wp_ret ?_
    refine then_ret ?_
    refine end_ret hQ (.slice none 0 0) (by kernel_rfl) ?_
    exact ⟨([] : List S_files_File), hp, E0, none, 0, rfl, (OS.nil _ _ _ _)⟩
  ·
    refine sq (o_pv (.bool false) rfl (by kernel_rfl) ?_)
    refine nil_ ?_
    refine then_normal (K6 _ _ _ _ ?_)
    refine cond_f (by kernel_rfl) ?_
    refine wp_skip ?_
    refine then_normal (K5 _ _ _ _ ?_)
    refine seq_ (fun _ K8 => ?_)
    refine reg_ ?_
    refine sq (o_rowX (R := r_files_File) [] ([] : List S_files_File) 37 0 (X := X) (B := w.heap.size) E0.size rfl (by kernel_rfl) Flat.nil rfl (by decide) ?_)
    intro b9 w10 X11 s12 O13 n14
    refine sq (o_pv (.slice (some ad) s.length cs2) rfl (by kernel_rfl) ?_)
    obtain ⟨h15, hp⟩ := hp
    have hs16 := (Sq.step hs3 s12)
    have E17 := (Evo.then0 E0 (Step.evo s12))
    refine sq (o_appX (R := r_files_File) (X := X11) (B := w.heap.size) (L := ([] : List S_files_File)) (M := s) rfl elT29 rfl E17.size O13 (Sq.src hs16) rfl (by kernel_rfl) (by kernel_rfl) (by simpa using h15) ?_)
    intro a18 n19 c20 w21 X22 s23 O24 gr25
    rw [List.nil_append] at O24
    refine sq (o_pv (.slice a18 n19 c20) rfl (by kernel_rfl) ?_)
    refine nil_ ?_
    refine then_normal (K8 _ _ _ _ ?_)
    refine wp_ret ?_
    have hS26 := (Sub.trans (Sub.trans hS (Step.up s12)) (Step.up s23))
    have E27 := (Evo.thenW E17 (Step.evo s23) O13.2.2)
    refine end_ret hQ (.slice a18 n19 c20) (by kernel_rfl) ?_
    exact ⟨s, hp, E27, a18, c20, (by (rw [show n19 = s.length from O24.1]); first | done | rfl), (OS.give O24 hS26)⟩

def slices_Clip_files_Row_files_File_p (s : (List S_files_File)) (Q : (List S_files_File) → Prop) : Prop :=
  ((s.length ≤ 9223372036854775807) → ((0 ≤ (s.length : Int) ∧ (s.length : Int) ≤ (s.length : Int)) ∧ Q s))
set_option maxRecDepth 20000 in
set_option maxHeartbeats 4000000 in
theorem slices_Clip_files_Row_files_File_w {X : List Nat} {w : World} {s : (List S_files_File)} {as1 : Option Addr} {cs2 : Nat} {Q : (List S_files_File) → Prop} (hX0 : Old X w) (hs3 : Sl r_files_File X w as1 cs2 s) (hp : slices_Clip_files_Row_files_File_p s Q) :
    Calls Tryd.prog 24 #[(.slice as1 s.length cs2)] w (Ret fun v w' => ∃ (r0 : (List S_files_File)), Q r0 ∧ Evo [] w w' ∧ ∃ (aq01 : Option Addr), v = (.slice aq01 r0.length r0.length) ∧ Sl r_files_File X w' aq01 r0.length r0) := by
  have hXo := hX0
  have E0 : Evo [] w w := RB.refl _ _ _
  have hS : Sub X X := Sub.refl _
  unfold slices_Clip_files_Row_files_File_p at hp
  refine enter_ Tryd.func24 rfl 9 [(0, (.slice as1 s.length cs2))] (by kernel_rfl) (fun Qe hQ => ?_)
  replace hp := hp (Sl.len hs3)
  refine seq_ (fun _ K4 => ?_)
  refine reg_ ?_
  refine sq (o_pv (.slice none 0 0) rfl (by kernel_rfl) ?_)
  refine nil_ ?_
  refine then_normal (K4 _ _ _ _ ?_)
  refine seq_ (fun _ K5 => ?_)
  refine reg_ ?_
  refine sq (o_pv (.slice as1 s.length cs2) rfl (by kernel_rfl) ?_)
  refine sq (o_pv (.slice as1 s.length cs2) rfl (by kernel_rfl) ?_)
  refine sq (o_pv (.int .i64 (s.length : Int)) rfl (by kernel_rfl) ?_)
  refine sq (o_pv (.slice as1 s.length cs2) rfl (by kernel_rfl) ?_)
  refine sq (o_pv (.int .i64 (s.length : Int)) rfl (by kernel_rfl) ?_)
  obtain ⟨h9, hp⟩ := hp
  refine sq (o_slice3F (R := r_files_File) (k := .i64) (k' := .i64) (X := X) (L := s) (s.length : Int) Tryd.underlying29 Tryd.sizeOf37 hs3 (by kernel_rfl) rfl rfl (by kernel_rfl) (by kernel_rfl) h9 ?_)
  intro a6 h8
  rw [take_len] at h8
  rw [take_len]
  refine sq (o_pv (.slice a6 s.length s.length) rfl (by kernel_rfl) ?_)
  refine nil_ ?_
  refine then_normal (K5 _ _ _ _ ?_)
  refine wp_ret ?_
  refine end_ret hQ (.slice a6 s.length s.length) (by kernel_rfl) ?_
  exact ⟨s, hp, E0, a6, rfl, (Sl.less h8 hS)⟩
theorem slices_Clip_files_Row_files_File_keep {w : World} {a : Option Addr} {m c : Nat} (hmc : m ≤ c) : Calls Tryd.prog 24 #[(.slice a m c)] w (Ret fun v w' => v = (.slice a m m) ∧ w = w') := by
  refine enter_ Tryd.func24 rfl 9 [(0, (.slice a m c))] (by kernel_rfl) (fun Qe hQ => ?_)
  refine seq_ (fun _ K4 => ?_)
  refine reg_ ?_
  refine sq (o_pv (.slice none 0 0) rfl (by kernel_rfl) ?_)
  refine nil_ ?_
  refine then_normal (K4 _ _ _ _ ?_)
  refine seq_ (fun _ K5 => ?_)
  refine reg_ ?_
  refine sq (o_pv (.slice a m c) rfl (by kernel_rfl) ?_)
  refine sq (o_pv (.slice a m c) rfl (by kernel_rfl) ?_)
  refine sq (o_pv (.int .i64 (m : Int)) rfl (by kernel_rfl) ?_)
  refine sq (o_pv (.slice a m c) rfl (by kernel_rfl) ?_)
  refine sq (o_pv (.int .i64 (m : Int)) rfl (by kernel_rfl) ?_)
  refine sq (o_slice3K (a := a) (m := m) (c := c) (k := .i64) (k' := .i64) Tryd.underlying29 Tryd.sizeOf37 (by kernel_rfl) hmc rfl (by kernel_rfl) (by kernel_rfl) ?_)
  refine sq (o_pv (.slice a m m) rfl (by kernel_rfl) ?_)
  refine nil_ ?_
  refine then_normal (K5 _ _ _ _ ?_)
  refine wp_ret ?_
  refine end_ret hQ (.slice a m m) (by kernel_rfl) ?_
  exact ⟨rfl, rfl⟩

def shelf_apart_p (x : S_shelf_Shelf) (Q : S_shelf_Shelf → Prop) : Prop :=
  ((inR .i64 x.Base) → ((x.Index.length ≤ 9223372036854775807) → ((x.Work.length ≤ 9223372036854775807) → ((x.Text.size ≤ maxLen) → (∀ k239 : (List S_files_File) → (List S_files_File) → Prop, (∀ (f228 : (List S_files_File)) (f233 : (List S_files_File)), ((f228.length ≤ 9223372036854775807) → (f233.length ≤ 9223372036854775807) → Q (S_shelf_Shelf.mk x.Base f228 f233 x.Text)) → k239 f228 f233) → (slices_Clone_files_Row_files_File_p x.Index (fun (r275 : (List S_files_File)) => ((r275.length ≤ 9223372036854775807) → (slices_Clone_files_Row_files_File_p x.Work (fun (r292 : (List S_files_File)) => ((r292.length ≤ 9223372036854775807) → (k239 r275 r292))))))))))))
set_option maxRecDepth 20000 in
set_option maxHeartbeats 4000000 in
theorem shelf_apart_w {X : List Nat} {w : World} {x : S_shelf_Shelf} {axIndex2 : Option Addr} {cxIndex3 : Nat} {axWork5 : Option Addr} {cxWork6 : Nat} {Q : S_shelf_Shelf → Prop} (hX0 : Old X w) (rxBase1 : inR .i64 x.Base) (hxIndex4 : Sl r_files_File X w axIndex2 cxIndex3 x.Index) (hxWork7 : Sl r_files_File X w axWork5 cxWork6 x.Work) (zxText8 : x.Text.size ≤ maxLen) (hp : shelf_apart_p x Q) :
    Calls Tryd.prog 13 #[(.agg #[(.int .i64 x.Base), (.slice axIndex2 x.Index.length cxIndex3), (.slice axWork5 x.Work.length cxWork6), (.string x.Text)])] w (Ret fun v w' => ∃ (r0 : S_shelf_Shelf), Q r0 ∧ Evo [] w w' ∧ ∃ (aq0Index2 : Option Addr) (cq0Index3 : Nat) (aq0Work5 : Option Addr) (cq0Work6 : Nat), v = (.agg #[(.int .i64 r0.Base), (.slice aq0Index2 r0.Index.length cq0Index3), (.slice aq0Work5 r0.Work.length cq0Work6), (.string r0.Text)]) ∧ inR .i64 r0.Base ∧ Sl r_files_File X w' aq0Index2 cq0Index3 r0.Index ∧ Sl r_files_File X w' aq0Work5 cq0Work6 r0.Work ∧ r0.Text.size ≤ maxLen) := by
  have hXo := hX0
  have E0 : Evo [] w w := RB.refl _ _ _
  have hS : Sub X X := Sub.refl _
  unfold shelf_apart_p at hp
  refine enter_ Tryd.func13 rfl 14 [(0, (.agg #[(.int .i64 x.Base), (.slice axIndex2 x.Index.length cxIndex3), (.slice axWork5 x.Work.length cxWork6), (.string x.Text)]))] (by kernel_rfl) (fun Qe hQ => ?_)
  replace hp := hp rxBase1
  replace hp := hp (Sl.len hxIndex4)
  replace hp := hp (Sl.len hxWork7)
  replace hp := hp zxText8
  refine seq_ (fun _ K9 => ?_)
  refine reg_ ?_
  refine sq (o_newX [(.int .i64 x.Base), (.slice axIndex2 x.Index.length cxIndex3), (.slice axWork5 x.Work.length cxWork6), (.string x.Text)] 31 (X := X) (B := w.heap.size) E0.size rfl (by kernel_rfl) ?_)
  intro b10 w11 X12 s13 k14 n15
  have E22 := (Evo.then0 E0 (Step.evo s13))
  refine sq (o_newX [(.int .i64 (0 : Int)), (.slice none 0 0), (.slice none 0 0), (.string (ByteArray.mk #[]))] 31 (X := X12) (B := w.heap.size) E22.size rfl (by kernel_rfl) ?_)
  intro b16 w17 X18 s19 k20 n21
  have p23 := n21 _ (OB.old k14)
  refine nil_ ?_
  refine then_normal (K9 _ _ _ _ ?_)
  refine seq_ (fun _ K24 => ?_)
  have hxIndex246 := (Sl.step (Sl.step hxIndex4 s13) s19)
  have hxWork247 := (Sl.step (Sl.step hxWork7 s13) s19)
  have hXo248 := (Old.step (Old.step hXo s13) s19)
  have E249 := (Evo.then0 E22 (Step.evo s19))
  have hS250 := (Sub.trans (Sub.trans hS (Step.up s13)) (Step.up s19))
  have k251 := (OB.step0 k14 s19)
  obtain ⟨k239, hk240, hp⟩ := yon2 hp
  refine ground_ ?_
  refine join_ 8184 (fun lq w241 => ∃ (X242 : List Nat) (f228 : (List S_files_File)) (f233 : (List S_files_File)) (a229 : Option Addr) (n230 : Nat) (c231 : Nat) (a234 : Option Addr) (n235 : Nat) (c236 : Nat), (lq = []) ∧ (Evo [] w w241) ∧ (Old X242 w241) ∧ (Sub X X242) ∧ (OB ([]) w.heap.size X242 w241 b16 [(.int .i64 (0 : Int)), (.slice none 0 0), (.slice none 0 0), (.string (ByteArray.mk #[]))] 31) ∧ (OS r_files_File ([]) w.heap.size X242 w241 37 a229 n230 c231 f228) ∧ (OS r_files_File ([]) w.heap.size X242 w241 37 a234 n235 c236 f233) ∧ (OB ([]) w.heap.size X242 w241 b10 [(.int .i64 x.Base), (.slice a229 n230 n230), (.slice a234 n235 n235), (.string x.Text)] 31) ∧ (Ap ([b16]) (blkL a229)) ∧ (Ap ([b16]) (blkL a234)) ∧ (Ap (blkL a229) (blkL a234)) ∧ (Ap (blkL a229) ([b10])) ∧ (Ap (blkL a234) ([b10])) ∧ (k239 f228 f233)) (fun Kj243 hJ244 => ?_) ?_
  ·
    have hFX267 : Sub [b10] X18 := (OB.mem k251)
    refine reg_drawn (RB w17.heap.size [b10]) 11 (by kernel_rfl) (fun w261 hd262 => ?_)
    have e263 := Evo.of_drew hd262
    have z264 : w261.heap.size = w17.heap.size := by rw [hd262]
    clear hd262
    have s266 := Step.of0 X18 e263
    have er265 := RB.refl w17.heap.size [b10] w261
    have hxIndex268 := (Sl.step hxIndex246 s266)
    have hxWork269 := (Sl.step hxWork247 s266)
    have hXo270 := (Old.step hXo248 s266)
    have E271 := (Evo.then0 E249 (Step.evo s266))
    have hS272 := (Sub.trans hS250 (Step.up s266))
    have k273 := (OB.step0 k251 s266)
    have k274 := (OB.step0 k20 s266)
    refine r_take 0 (.pointer (some ⟨b10, 1, none⟩)) (RB.pre _ _) rfl (by kernel_rfl) (fun _ _ _ h => hQ.panic _ _ _ _ _ h) (.inl ⟨rfl, fun wq hq => (by kernel_rfl)⟩) ?_
    refine r_take 4 (.pointer (some ⟨b10, 2, none⟩)) (RB.pre _ _) rfl (by kernel_rfl) (fun _ _ _ h => hQ.panic _ _ _ _ _ h) (.inl ⟨rfl, fun wq hq => (by kernel_rfl)⟩) ?_
    refine r_ready [1, 5] (by kernel_rfl) rfl (all_cons ⟨_, _, _, _, _, _, rfl, ?_⟩ (all_cons ⟨_, _, _, _, _, _, rfl, ?_⟩ all_nil))
    ·
      refine o_pv (.slice axIndex2 x.Index.length cxIndex3) rfl (x_load1 (by kernel_rfl) Tryd.isAgg29 (k273.2.1.cell' 1 rfl)) ?_
      refine ⟨fun _ => RB.refl _ _ _, ?_⟩
      refine r_ready [2, 5] (by kernel_rfl) rfl (all_cons ⟨_, _, _, _, _, _, rfl, ?_⟩ (all_cons ⟨_, _, _, _, _, _, rfl, ?_⟩ all_nil))
      ·
        refine o_call 25 #[(.slice axIndex2 x.Index.length cxIndex3)] rfl (x_call Tryd.call25 (by kernel_rfl)) (slices_Clone_files_Row_files_File_w (X := X18) (s := x.Index) hXo270 (Sl.sq hxIndex268) hp) ?_
        rintro _ w276 ⟨r275, hp, e277, a279, c280, rfl, O281⟩
        have rm := RB.mono (F' := [b10]) e277 (Nat.le_trans (Nat.le_of_eq z264.symm) (RB.size er265)) (fun _ h => by cases h)
        have er282 := RB.trans er265 rm
        refine ⟨fun _ => rm, ?_⟩
        obtain ⟨X283, s278, O284, n285⟩ := OS.own_in O281 e277 E271.size
        have p286 := n285 _ (OB.old k273)
        have p287 := n285 _ (OB.old k274)
        replace hp := hp (OS.len O284)
        refine r_ready [3, 5] (by kernel_rfl) rfl (all_cons ⟨_, _, _, _, _, _, rfl, ?_⟩ (all_cons ⟨_, _, _, _, _, _, rfl, ?_⟩ all_nil))
        ·
          refine o_call 24 #[(.slice a279 r275.length c280)] rfl (x_call Tryd.call24 (by kernel_rfl)) (slices_Clip_files_Row_files_File_keep (OS.nc O284)) ?_
          rintro _ _ ⟨rfl, rfl⟩
          have rm := RB.mono (F' := [b10]) (RB.refl w276.heap.size [] w276) (Nat.le_trans (Nat.le_of_eq z264.symm) (RB.size er282)) (fun _ h => by cases h)
          have er288 := RB.trans er282 rm
          refine ⟨fun _ => rm, ?_⟩
          refine r_ready [5] (by kernel_rfl) rfl (all_cons ⟨_, _, _, _, _, _, rfl, ?_⟩ all_nil)
          have k289 := (OB.step0 k273 s278)
          refine o_pv (.slice axWork5 x.Work.length cxWork6) rfl (x_load1 (by kernel_rfl) Tryd.isAgg29 (k289.2.1.cell' 2 rfl)) ?_
          refine ⟨fun _ => RB.refl _ _ _, ?_⟩
          refine r_take 8 (.pointer (some ⟨b10, 1, none⟩)) (RB.pre _ _) rfl (by kernel_rfl) (fun _ _ _ h => hQ.panic _ _ _ _ _ h) (.inl ⟨rfl, fun wq hq => (by kernel_rfl)⟩) ?_
          refine r_ready [6] (by kernel_rfl) rfl (all_cons ⟨_, _, _, _, _, _, rfl, ?_⟩ all_nil)
          have hxWork290 := (Sl.step hxWork269 s278)
          have hXo291 := (Old.step hXo270 s278)
          have k299 := (OB.step0 k274 s278)
          refine o_call 25 #[(.slice axWork5 x.Work.length cxWork6)] rfl (x_call Tryd.call25 (by kernel_rfl)) (slices_Clone_files_Row_files_File_w (X := X283) (s := x.Work) hXo291 (Sl.sq hxWork290) hp) ?_
          rintro _ w293 ⟨r292, hp, e294, a296, c297, rfl, O298⟩
          have rm := RB.mono (F' := [b10]) e294 (Nat.le_trans (Nat.le_of_eq z264.symm) (RB.size er288)) (fun _ h => by cases h)
          have er300 := RB.trans er288 rm
          refine ⟨fun _ => rm, ?_⟩
          have E304 := (Evo.then0 E271 (Step.evo s278))
          obtain ⟨X301, s295, O302, n303⟩ := OS.own_in O298 e294 E304.size
          have p305 := n303 _ (OB.old k289)
          have p306 := n303 _ (OB.old k299)
          have p307 := n303 _ (OS.old O284)
          replace hp := hp (OS.len O302)
          refine r_ready [7] (by kernel_rfl) rfl (all_cons ⟨_, _, _, _, _, _, rfl, ?_⟩ all_nil)
          refine o_call 24 #[(.slice a296 r292.length c297)] rfl (x_call Tryd.call24 (by kernel_rfl)) (slices_Clip_files_Row_files_File_keep (OS.nc O302)) ?_
          rintro _ _ ⟨rfl, rfl⟩
          have rm := RB.mono (F' := [b10]) (RB.refl w293.heap.size [] w293) (Nat.le_trans (Nat.le_of_eq z264.symm) (RB.size er300)) (fun _ h => by cases h)
          have er308 := RB.trans er300 rm
          refine ⟨fun _ => rm, ?_⟩
          refine r_ready [9] (by kernel_rfl) rfl (all_cons ⟨_, _, _, _, _, _, rfl, ?_⟩ all_nil)
          have k309 := (OB.step0 k289 s295)
          have k310 := (OB.step0 k299 s295)
          have O311 := (OS.step0 O284 s295)
          have E312 := (Evo.then0 E304 (Step.evo s295))
          refine o_stB (o := 1) (v := (.slice a279 r275.length r275.length)) [(.int .i64 x.Base), (.slice a279 r275.length r275.length), (.slice axWork5 x.Work.length cxWork6), (.string x.Text)] rfl k309 (by kernel_rfl) (by kernel_rfl) Tryd.sizeOf29 rfl rfl rfl ?_
          intro w313 s314 k315
          have rm := RB.mono (F' := [b10]) (Step.evo s314) (Nat.le_trans (Nat.le_of_eq z264.symm) (RB.size er308)) (Wr.self _ _ (Sub.refl _))
          have er316 := RB.trans er308 rm
          refine ⟨fun _ => rm, ?_⟩
          refine r_take 10 (.pointer (some ⟨b10, 2, none⟩)) (RB.pre _ _) rfl (by kernel_rfl) (fun _ _ _ h => hQ.panic _ _ _ _ _ h) (.inl ⟨rfl, fun wq hq => (by kernel_rfl)⟩) ?_
          refine r_ready [11] (by kernel_rfl) rfl (all_cons ⟨_, _, _, _, _, _, rfl, ?_⟩ all_nil)
          have k317 := (OB.step k310 s314 (Ap.symm p23))
          have O318 := (OS.step O311 s314 (Ap.symm p286))
          have O319 := (OS.step O302 s314 (Ap.symm p305))
          have E320 := (Evo.thenW E312 (Step.evo s314) k309.2.2)
          refine o_stB (o := 2) (v := (.slice a296 r292.length r292.length)) [(.int .i64 x.Base), (.slice a279 r275.length r275.length), (.slice a296 r292.length r292.length), (.string x.Text)] rfl k315 (by kernel_rfl) (by kernel_rfl) Tryd.sizeOf29 rfl rfl rfl ?_
          intro w321 s322 k323
          refine ⟨fun h => absurd h (by decide), ?_⟩
          refine r_done (by kernel_rfl) ?_
          have E324 := (Evo.thenW E320 (Step.evo s322) k315.2.2)
          have hXo325 := (Old.step (Old.step (Old.step hXo291 s295) s314) s322)
          have hS326 := (Sub.trans (Sub.trans (Sub.trans (Sub.trans hS272 (Step.up s278)) (Step.up s295)) (Step.up s314)) (Step.up s322))
          have k327 := (OB.step k317 s322 (Ap.symm p23))
          have O328 := (OS.step O318 s322 (Ap.symm p286))
          have O329 := (OS.step O319 s322 (Ap.symm p305))
          refine then_normal (hJ244 _ _ _ ⟨[], fit_mk (fun _ _ => rfl) (by kernel_rfl) vs_nil, ?_⟩)
          exact ⟨X301, r275, r292, a279, r275.length, c280, a296, r292.length, c297, rfl, E324, hXo325, hS326, k327, O328, O329, k323, p287, p306, p307, (Ap.symm p286), (Ap.symm p305), hp⟩
        ·
          have k330 := (OB.step0 k273 s278)
          refine o_pv (.slice axWork5 x.Work.length cxWork6) rfl (x_load1 (by kernel_rfl) Tryd.isAgg29 (k330.2.1.cell' 2 rfl)) ?_
          refine ⟨fun _ => RB.refl _ _ _, ?_⟩
          refine r_ready [3] (by kernel_rfl) rfl (all_cons ⟨_, _, _, _, _, _, rfl, ?_⟩ all_nil)
          refine o_call 24 #[(.slice a279 r275.length c280)] rfl (x_call Tryd.call24 (by kernel_rfl)) (slices_Clip_files_Row_files_File_keep (OS.nc O284)) ?_
          rintro _ _ ⟨rfl, rfl⟩
          have rm := RB.mono (F' := [b10]) (RB.refl w276.heap.size [] w276) (Nat.le_trans (Nat.le_of_eq z264.symm) (RB.size er282)) (fun _ h => by cases h)
          have er331 := RB.trans er282 rm
          refine ⟨fun _ => rm, ?_⟩
          refine r_take 8 (.pointer (some ⟨b10, 1, none⟩)) (RB.pre _ _) rfl (by kernel_rfl) (fun _ _ _ h => hQ.panic _ _ _ _ _ h) (.inl ⟨rfl, fun wq hq => (by kernel_rfl)⟩) ?_
          refine r_ready [6] (by kernel_rfl) rfl (all_cons ⟨_, _, _, _, _, _, rfl, ?_⟩ all_nil)
          have hxWork332 := (Sl.step hxWork269 s278)
          have hXo333 := (Old.step hXo270 s278)
          have k341 := (OB.step0 k274 s278)
          refine o_call 25 #[(.slice axWork5 x.Work.length cxWork6)] rfl (x_call Tryd.call25 (by kernel_rfl)) (slices_Clone_files_Row_files_File_w (X := X283) (s := x.Work) hXo333 (Sl.sq hxWork332) hp) ?_
          rintro _ w335 ⟨r334, hp, e336, a338, c339, rfl, O340⟩
          have rm := RB.mono (F' := [b10]) e336 (Nat.le_trans (Nat.le_of_eq z264.symm) (RB.size er331)) (fun _ h => by cases h)
          have er342 := RB.trans er331 rm
          refine ⟨fun _ => rm, ?_⟩
          have E346 := (Evo.then0 E271 (Step.evo s278))
          obtain ⟨X343, s337, O344, n345⟩ := OS.own_in O340 e336 E346.size
          have p347 := n345 _ (OB.old k330)
          have p348 := n345 _ (OB.old k341)
          have p349 := n345 _ (OS.old O284)
          replace hp := hp (OS.len O344)
          refine r_ready [7] (by kernel_rfl) rfl (all_cons ⟨_, _, _, _, _, _, rfl, ?_⟩ all_nil)
          refine o_call 24 #[(.slice a338 r334.length c339)] rfl (x_call Tryd.call24 (by kernel_rfl)) (slices_Clip_files_Row_files_File_keep (OS.nc O344)) ?_
          rintro _ _ ⟨rfl, rfl⟩
          have rm := RB.mono (F' := [b10]) (RB.refl w335.heap.size [] w335) (Nat.le_trans (Nat.le_of_eq z264.symm) (RB.size er342)) (fun _ h => by cases h)
          have er350 := RB.trans er342 rm
          refine ⟨fun _ => rm, ?_⟩
          refine r_ready [9] (by kernel_rfl) rfl (all_cons ⟨_, _, _, _, _, _, rfl, ?_⟩ all_nil)
          have k351 := (OB.step0 k330 s337)
          have k352 := (OB.step0 k341 s337)
          have O353 := (OS.step0 O284 s337)
          have E354 := (Evo.then0 E346 (Step.evo s337))
          refine o_stB (o := 1) (v := (.slice a279 r275.length r275.length)) [(.int .i64 x.Base), (.slice a279 r275.length r275.length), (.slice axWork5 x.Work.length cxWork6), (.string x.Text)] rfl k351 (by kernel_rfl) (by kernel_rfl) Tryd.sizeOf29 rfl rfl rfl ?_
          intro w355 s356 k357
          have rm := RB.mono (F' := [b10]) (Step.evo s356) (Nat.le_trans (Nat.le_of_eq z264.symm) (RB.size er350)) (Wr.self _ _ (Sub.refl _))
          have er358 := RB.trans er350 rm
          refine ⟨fun _ => rm, ?_⟩
          refine r_take 10 (.pointer (some ⟨b10, 2, none⟩)) (RB.pre _ _) rfl (by kernel_rfl) (fun _ _ _ h => hQ.panic _ _ _ _ _ h) (.inl ⟨rfl, fun wq hq => (by kernel_rfl)⟩) ?_
          refine r_ready [11] (by kernel_rfl) rfl (all_cons ⟨_, _, _, _, _, _, rfl, ?_⟩ all_nil)
          have k359 := (OB.step k352 s356 (Ap.symm p23))
          have O360 := (OS.step O353 s356 (Ap.symm p286))
          have O361 := (OS.step O344 s356 (Ap.symm p347))
          have E362 := (Evo.thenW E354 (Step.evo s356) k351.2.2)
          refine o_stB (o := 2) (v := (.slice a338 r334.length r334.length)) [(.int .i64 x.Base), (.slice a279 r275.length r275.length), (.slice a338 r334.length r334.length), (.string x.Text)] rfl k357 (by kernel_rfl) (by kernel_rfl) Tryd.sizeOf29 rfl rfl rfl ?_
          intro w363 s364 k365
          refine ⟨fun h => absurd h (by decide), ?_⟩
          refine r_done (by kernel_rfl) ?_
          have E366 := (Evo.thenW E362 (Step.evo s364) k357.2.2)
          have hXo367 := (Old.step (Old.step (Old.step hXo333 s337) s356) s364)
          have hS368 := (Sub.trans (Sub.trans (Sub.trans (Sub.trans hS272 (Step.up s278)) (Step.up s337)) (Step.up s356)) (Step.up s364))
          have k369 := (OB.step k359 s364 (Ap.symm p23))
          have O370 := (OS.step O360 s364 (Ap.symm p286))
          have O371 := (OS.step O361 s364 (Ap.symm p347))
          refine then_normal (hJ244 _ _ _ ⟨[], fit_mk (fun _ _ => rfl) (by kernel_rfl) vs_nil, ?_⟩)
          exact ⟨X343, r275, r334, a279, r275.length, c280, a338, r334.length, c339, rfl, E366, hXo367, hS368, k369, O370, O371, k365, p287, p348, p349, (Ap.symm p286), (Ap.symm p347), hp⟩
      ·
        refine o_pv (.slice axWork5 x.Work.length cxWork6) rfl (x_load1 (by kernel_rfl) Tryd.isAgg29 (k273.2.1.cell' 2 rfl)) ?_
        refine ⟨fun _ => RB.refl _ _ _, ?_⟩
        refine r_ready [2] (by kernel_rfl) rfl (all_cons ⟨_, _, _, _, _, _, rfl, ?_⟩ all_nil)
        refine o_call 25 #[(.slice axIndex2 x.Index.length cxIndex3)] rfl (x_call Tryd.call25 (by kernel_rfl)) (slices_Clone_files_Row_files_File_w (X := X18) (s := x.Index) hXo270 (Sl.sq hxIndex268) hp) ?_
        rintro _ w373 ⟨r372, hp, e374, a376, c377, rfl, O378⟩
        have rm := RB.mono (F' := [b10]) e374 (Nat.le_trans (Nat.le_of_eq z264.symm) (RB.size er265)) (fun _ h => by cases h)
        have er379 := RB.trans er265 rm
        refine ⟨fun _ => rm, ?_⟩
        obtain ⟨X380, s375, O381, n382⟩ := OS.own_in O378 e374 E271.size
        have p383 := n382 _ (OB.old k273)
        have p384 := n382 _ (OB.old k274)
        replace hp := hp (OS.len O381)
        refine r_ready [3] (by kernel_rfl) rfl (all_cons ⟨_, _, _, _, _, _, rfl, ?_⟩ all_nil)
        refine o_call 24 #[(.slice a376 r372.length c377)] rfl (x_call Tryd.call24 (by kernel_rfl)) (slices_Clip_files_Row_files_File_keep (OS.nc O381)) ?_
        rintro _ _ ⟨rfl, rfl⟩
        have rm := RB.mono (F' := [b10]) (RB.refl w373.heap.size [] w373) (Nat.le_trans (Nat.le_of_eq z264.symm) (RB.size er379)) (fun _ h => by cases h)
        have er385 := RB.trans er379 rm
        refine ⟨fun _ => rm, ?_⟩
        refine r_take 8 (.pointer (some ⟨b10, 1, none⟩)) (RB.pre _ _) rfl (by kernel_rfl) (fun _ _ _ h => hQ.panic _ _ _ _ _ h) (.inl ⟨rfl, fun wq hq => (by kernel_rfl)⟩) ?_
        refine r_ready [6] (by kernel_rfl) rfl (all_cons ⟨_, _, _, _, _, _, rfl, ?_⟩ all_nil)
        have hxWork386 := (Sl.step hxWork269 s375)
        have hXo387 := (Old.step hXo270 s375)
        have k395 := (OB.step0 k273 s375)
        have k396 := (OB.step0 k274 s375)
        refine o_call 25 #[(.slice axWork5 x.Work.length cxWork6)] rfl (x_call Tryd.call25 (by kernel_rfl)) (slices_Clone_files_Row_files_File_w (X := X380) (s := x.Work) hXo387 (Sl.sq hxWork386) hp) ?_
        rintro _ w389 ⟨r388, hp, e390, a392, c393, rfl, O394⟩
        have rm := RB.mono (F' := [b10]) e390 (Nat.le_trans (Nat.le_of_eq z264.symm) (RB.size er385)) (fun _ h => by cases h)
        have er397 := RB.trans er385 rm
        refine ⟨fun _ => rm, ?_⟩
        have E401 := (Evo.then0 E271 (Step.evo s375))
        obtain ⟨X398, s391, O399, n400⟩ := OS.own_in O394 e390 E401.size
        have p402 := n400 _ (OB.old k395)
        have p403 := n400 _ (OB.old k396)
        have p404 := n400 _ (OS.old O381)
        replace hp := hp (OS.len O399)
        refine r_ready [7] (by kernel_rfl) rfl (all_cons ⟨_, _, _, _, _, _, rfl, ?_⟩ all_nil)
        refine o_call 24 #[(.slice a392 r388.length c393)] rfl (x_call Tryd.call24 (by kernel_rfl)) (slices_Clip_files_Row_files_File_keep (OS.nc O399)) ?_
        rintro _ _ ⟨rfl, rfl⟩
        have rm := RB.mono (F' := [b10]) (RB.refl w389.heap.size [] w389) (Nat.le_trans (Nat.le_of_eq z264.symm) (RB.size er397)) (fun _ h => by cases h)
        have er405 := RB.trans er397 rm
        refine ⟨fun _ => rm, ?_⟩
        refine r_ready [9] (by kernel_rfl) rfl (all_cons ⟨_, _, _, _, _, _, rfl, ?_⟩ all_nil)
        have k406 := (OB.step0 k395 s391)
        have k407 := (OB.step0 k396 s391)
        have O408 := (OS.step0 O381 s391)
        have E409 := (Evo.then0 E401 (Step.evo s391))
        refine o_stB (o := 1) (v := (.slice a376 r372.length r372.length)) [(.int .i64 x.Base), (.slice a376 r372.length r372.length), (.slice axWork5 x.Work.length cxWork6), (.string x.Text)] rfl k406 (by kernel_rfl) (by kernel_rfl) Tryd.sizeOf29 rfl rfl rfl ?_
        intro w410 s411 k412
        have rm := RB.mono (F' := [b10]) (Step.evo s411) (Nat.le_trans (Nat.le_of_eq z264.symm) (RB.size er405)) (Wr.self _ _ (Sub.refl _))
        have er413 := RB.trans er405 rm
        refine ⟨fun _ => rm, ?_⟩
        refine r_take 10 (.pointer (some ⟨b10, 2, none⟩)) (RB.pre _ _) rfl (by kernel_rfl) (fun _ _ _ h => hQ.panic _ _ _ _ _ h) (.inl ⟨rfl, fun wq hq => (by kernel_rfl)⟩) ?_
        refine r_ready [11] (by kernel_rfl) rfl (all_cons ⟨_, _, _, _, _, _, rfl, ?_⟩ all_nil)
        have k414 := (OB.step k407 s411 (Ap.symm p23))
        have O415 := (OS.step O408 s411 (Ap.symm p383))
        have O416 := (OS.step O399 s411 (Ap.symm p402))
        have E417 := (Evo.thenW E409 (Step.evo s411) k406.2.2)
        refine o_stB (o := 2) (v := (.slice a392 r388.length r388.length)) [(.int .i64 x.Base), (.slice a376 r372.length r372.length), (.slice a392 r388.length r388.length), (.string x.Text)] rfl k412 (by kernel_rfl) (by kernel_rfl) Tryd.sizeOf29 rfl rfl rfl ?_
        intro w418 s419 k420
        refine ⟨fun h => absurd h (by decide), ?_⟩
        refine r_done (by kernel_rfl) ?_
        have E421 := (Evo.thenW E417 (Step.evo s419) k412.2.2)
        have hXo422 := (Old.step (Old.step (Old.step hXo387 s391) s411) s419)
        have hS423 := (Sub.trans (Sub.trans (Sub.trans (Sub.trans hS272 (Step.up s375)) (Step.up s391)) (Step.up s411)) (Step.up s419))
        have k424 := (OB.step k414 s419 (Ap.symm p23))
        have O425 := (OS.step O415 s419 (Ap.symm p383))
        have O426 := (OS.step O416 s419 (Ap.symm p402))
        refine then_normal (hJ244 _ _ _ ⟨[], fit_mk (fun _ _ => rfl) (by kernel_rfl) vs_nil, ?_⟩)
        exact ⟨X398, r372, r388, a376, r372.length, c377, a392, r388.length, c393, rfl, E421, hXo422, hS423, k424, O425, O426, k420, p384, p403, p404, (Ap.symm p383), (Ap.symm p402), hp⟩
    ·
      refine o_pv (.slice axWork5 x.Work.length cxWork6) rfl (x_load1 (by kernel_rfl) Tryd.isAgg29 (k273.2.1.cell' 2 rfl)) ?_
      refine ⟨fun _ => RB.refl _ _ _, ?_⟩
      refine r_ready [1] (by kernel_rfl) rfl (all_cons ⟨_, _, _, _, _, _, rfl, ?_⟩ all_nil)
      refine o_pv (.slice axIndex2 x.Index.length cxIndex3) rfl (x_load1 (by kernel_rfl) Tryd.isAgg29 (k273.2.1.cell' 1 rfl)) ?_
      refine ⟨fun _ => RB.refl _ _ _, ?_⟩
      refine r_ready [2] (by kernel_rfl) rfl (all_cons ⟨_, _, _, _, _, _, rfl, ?_⟩ all_nil)
      refine o_call 25 #[(.slice axIndex2 x.Index.length cxIndex3)] rfl (x_call Tryd.call25 (by kernel_rfl)) (slices_Clone_files_Row_files_File_w (X := X18) (s := x.Index) hXo270 (Sl.sq hxIndex268) hp) ?_
      rintro _ w428 ⟨r427, hp, e429, a431, c432, rfl, O433⟩
      have rm := RB.mono (F' := [b10]) e429 (Nat.le_trans (Nat.le_of_eq z264.symm) (RB.size er265)) (fun _ h => by cases h)
      have er434 := RB.trans er265 rm
      refine ⟨fun _ => rm, ?_⟩
      obtain ⟨X435, s430, O436, n437⟩ := OS.own_in O433 e429 E271.size
      have p438 := n437 _ (OB.old k273)
      have p439 := n437 _ (OB.old k274)
      replace hp := hp (OS.len O436)
      refine r_ready [3] (by kernel_rfl) rfl (all_cons ⟨_, _, _, _, _, _, rfl, ?_⟩ all_nil)
      refine o_call 24 #[(.slice a431 r427.length c432)] rfl (x_call Tryd.call24 (by kernel_rfl)) (slices_Clip_files_Row_files_File_keep (OS.nc O436)) ?_
      rintro _ _ ⟨rfl, rfl⟩
      have rm := RB.mono (F' := [b10]) (RB.refl w428.heap.size [] w428) (Nat.le_trans (Nat.le_of_eq z264.symm) (RB.size er434)) (fun _ h => by cases h)
      have er440 := RB.trans er434 rm
      refine ⟨fun _ => rm, ?_⟩
      refine r_take 8 (.pointer (some ⟨b10, 1, none⟩)) (RB.pre _ _) rfl (by kernel_rfl) (fun _ _ _ h => hQ.panic _ _ _ _ _ h) (.inl ⟨rfl, fun wq hq => (by kernel_rfl)⟩) ?_
      refine r_ready [6] (by kernel_rfl) rfl (all_cons ⟨_, _, _, _, _, _, rfl, ?_⟩ all_nil)
      have hxWork441 := (Sl.step hxWork269 s430)
      have hXo442 := (Old.step hXo270 s430)
      have k450 := (OB.step0 k273 s430)
      have k451 := (OB.step0 k274 s430)
      refine o_call 25 #[(.slice axWork5 x.Work.length cxWork6)] rfl (x_call Tryd.call25 (by kernel_rfl)) (slices_Clone_files_Row_files_File_w (X := X435) (s := x.Work) hXo442 (Sl.sq hxWork441) hp) ?_
      rintro _ w444 ⟨r443, hp, e445, a447, c448, rfl, O449⟩
      have rm := RB.mono (F' := [b10]) e445 (Nat.le_trans (Nat.le_of_eq z264.symm) (RB.size er440)) (fun _ h => by cases h)
      have er452 := RB.trans er440 rm
      refine ⟨fun _ => rm, ?_⟩
      have E456 := (Evo.then0 E271 (Step.evo s430))
      obtain ⟨X453, s446, O454, n455⟩ := OS.own_in O449 e445 E456.size
      have p457 := n455 _ (OB.old k450)
      have p458 := n455 _ (OB.old k451)
      have p459 := n455 _ (OS.old O436)
      replace hp := hp (OS.len O454)
      refine r_ready [7] (by kernel_rfl) rfl (all_cons ⟨_, _, _, _, _, _, rfl, ?_⟩ all_nil)
      refine o_call 24 #[(.slice a447 r443.length c448)] rfl (x_call Tryd.call24 (by kernel_rfl)) (slices_Clip_files_Row_files_File_keep (OS.nc O454)) ?_
      rintro _ _ ⟨rfl, rfl⟩
      have rm := RB.mono (F' := [b10]) (RB.refl w444.heap.size [] w444) (Nat.le_trans (Nat.le_of_eq z264.symm) (RB.size er452)) (fun _ h => by cases h)
      have er460 := RB.trans er452 rm
      refine ⟨fun _ => rm, ?_⟩
      refine r_ready [9] (by kernel_rfl) rfl (all_cons ⟨_, _, _, _, _, _, rfl, ?_⟩ all_nil)
      have k461 := (OB.step0 k450 s446)
      have k462 := (OB.step0 k451 s446)
      have O463 := (OS.step0 O436 s446)
      have E464 := (Evo.then0 E456 (Step.evo s446))
      refine o_stB (o := 1) (v := (.slice a431 r427.length r427.length)) [(.int .i64 x.Base), (.slice a431 r427.length r427.length), (.slice axWork5 x.Work.length cxWork6), (.string x.Text)] rfl k461 (by kernel_rfl) (by kernel_rfl) Tryd.sizeOf29 rfl rfl rfl ?_
      intro w465 s466 k467
      have rm := RB.mono (F' := [b10]) (Step.evo s466) (Nat.le_trans (Nat.le_of_eq z264.symm) (RB.size er460)) (Wr.self _ _ (Sub.refl _))
      have er468 := RB.trans er460 rm
      refine ⟨fun _ => rm, ?_⟩
      refine r_take 10 (.pointer (some ⟨b10, 2, none⟩)) (RB.pre _ _) rfl (by kernel_rfl) (fun _ _ _ h => hQ.panic _ _ _ _ _ h) (.inl ⟨rfl, fun wq hq => (by kernel_rfl)⟩) ?_
      refine r_ready [11] (by kernel_rfl) rfl (all_cons ⟨_, _, _, _, _, _, rfl, ?_⟩ all_nil)
      have k469 := (OB.step k462 s466 (Ap.symm p23))
      have O470 := (OS.step O463 s466 (Ap.symm p438))
      have O471 := (OS.step O454 s466 (Ap.symm p457))
      have E472 := (Evo.thenW E464 (Step.evo s466) k461.2.2)
      refine o_stB (o := 2) (v := (.slice a447 r443.length r443.length)) [(.int .i64 x.Base), (.slice a431 r427.length r427.length), (.slice a447 r443.length r443.length), (.string x.Text)] rfl k467 (by kernel_rfl) (by kernel_rfl) Tryd.sizeOf29 rfl rfl rfl ?_
      intro w473 s474 k475
      refine ⟨fun h => absurd h (by decide), ?_⟩
      refine r_done (by kernel_rfl) ?_
      have E476 := (Evo.thenW E472 (Step.evo s474) k467.2.2)
      have hXo477 := (Old.step (Old.step (Old.step hXo442 s446) s466) s474)
      have hS478 := (Sub.trans (Sub.trans (Sub.trans (Sub.trans hS272 (Step.up s430)) (Step.up s446)) (Step.up s466)) (Step.up s474))
      have k479 := (OB.step k469 s474 (Ap.symm p23))
      have O480 := (OS.step O470 s474 (Ap.symm p438))
      have O481 := (OS.step O471 s474 (Ap.symm p457))
      refine then_normal (hJ244 _ _ _ ⟨[], fit_mk (fun _ _ => rfl) (by kernel_rfl) vs_nil, ?_⟩)
      exact ⟨X453, r427, r443, a431, r427.length, c432, a447, r443.length, c448, rfl, E476, hXo477, hS478, k479, O480, O481, k475, p439, p458, p459, (Ap.symm p438), (Ap.symm p457), hp⟩
  ·
    rintro _ w241 g482 ⟨X242, f228, f233, a229, n230, c231, a234, n235, c236, rfl, E252, hXo253, hS254, k255, O232, O237, k238, p256, p257, p258, p259, p260, hv245⟩
    replace hp := hk240 f228 f233 hv245 (OS.len O232) (OS.len O237)
    refine then_normal (K24 _ _ _ _ ?_)
    refine seq_ (fun _ K483 => ?_)
    refine reg_ ?_
    refine sq (o_pv (.agg #[(.int .i64 x.Base), (.slice a229 n230 n230), (.slice a234 n235 n235), (.string x.Text)]) rfl (x_loadN [(.int .i64 x.Base), (.slice a229 n230 n230), (.slice a234 n235 n235), (.string x.Text)] (by kernel_rfl) Tryd.isAgg31 Tryd.sizeOf31 (k238.2.1.cells' 0 rfl)) ?_)
    refine sq (o_stB (o := 0) (v := (.agg #[(.int .i64 x.Base), (.slice a229 n230 n230), (.slice a234 n235 n235), (.string x.Text)])) [(.int .i64 x.Base), (.slice a229 n230 n230), (.slice a234 n235 n235), (.string x.Text)] rfl k255 (by kernel_rfl) (by kernel_rfl) Tryd.sizeOf31 rfl rfl rfl ?_)
    intro w484 s485 k486
    refine nil_ ?_
    refine then_normal (K483 _ _ _ _ ?_)
    refine wp_ret ?_
    have O487 := (OS.step O232 s485 (Ap.symm p256))
    have hS488 := (Sub.trans hS254 (Step.up s485))
    have O489 := (OS.step O237 s485 (Ap.symm p257))
    have E490 := (Evo.thenW E252 (Step.evo s485) k255.2.2)
    refine end_ret hQ (.agg #[(.int .i64 x.Base), (.slice a229 n230 n230), (.slice a234 n235 n235), (.string x.Text)]) (rs_single Tryd.results13 (rs_agg [(.int .i64 x.Base), (.slice a229 n230 n230), (.slice a234 n235 n235), (.string x.Text)] (by kernel_rfl) Tryd.isAgg31 Tryd.sizeOf31 (k486.2.1.cells' 0 rfl))) ?_
    exact ⟨(S_shelf_Shelf.mk x.Base f228 f233 x.Text), hp, E490, a229, n230, a234, n235, (by (rw [show n230 = f228.length from O487.1, show n235 = f233.length from O489.1]); first | done | rfl), rxBase1, (Sl.clipN (OS.out O487 hS488 hX0) O487.1), (Sl.clipN (OS.out O489 hS488 hX0) O489.1), zxText8⟩

def slices_Clip_shelf_Stack_shelf_Shelf_p (s : (List S_shelf_Shelf)) (Q : (List S_shelf_Shelf) → Prop) : Prop :=
  ((s.length ≤ 9223372036854775807) → ((0 ≤ (s.length : Int) ∧ (s.length : Int) ≤ (s.length : Int)) ∧ Q s))
set_option maxRecDepth 20000 in
set_option maxHeartbeats 4000000 in
theorem slices_Clip_shelf_Stack_shelf_Shelf_w {X : List Nat} {w : World} {s : (List S_shelf_Shelf)} {as1 : Option Addr} {cs2 : Nat} {Q : (List S_shelf_Shelf) → Prop} (hX0 : Old X w) (hs3 : Sl r_shelf_Shelf X w as1 cs2 s) (hp : slices_Clip_shelf_Stack_shelf_Shelf_p s Q) :
    Calls Tryd.prog 10 #[(.slice as1 s.length cs2)] w (Ret fun v w' => ∃ (r0 : (List S_shelf_Shelf)), Q r0 ∧ Evo [] w w' ∧ ∃ (aq01 : Option Addr), v = (.slice aq01 r0.length r0.length) ∧ Sl r_shelf_Shelf X w' aq01 r0.length r0) := by
  have hXo := hX0
  have E0 : Evo [] w w := RB.refl _ _ _
  have hS : Sub X X := Sub.refl _
  unfold slices_Clip_shelf_Stack_shelf_Shelf_p at hp
  refine enter_ Tryd.func10 rfl 9 [(0, (.slice as1 s.length cs2))] (by kernel_rfl) (fun Qe hQ => ?_)
  replace hp := hp (Sl.len hs3)
  refine seq_ (fun _ K4 => ?_)
  refine reg_ ?_
  refine sq (o_pv (.slice none 0 0) rfl (by kernel_rfl) ?_)
  refine nil_ ?_
  refine then_normal (K4 _ _ _ _ ?_)
  refine seq_ (fun _ K5 => ?_)
  refine reg_ ?_
  refine sq (o_pv (.slice as1 s.length cs2) rfl (by kernel_rfl) ?_)
  refine sq (o_pv (.slice as1 s.length cs2) rfl (by kernel_rfl) ?_)
  refine sq (o_pv (.int .i64 (s.length : Int)) rfl (by kernel_rfl) ?_)
  refine sq (o_pv (.slice as1 s.length cs2) rfl (by kernel_rfl) ?_)
  refine sq (o_pv (.int .i64 (s.length : Int)) rfl (by kernel_rfl) ?_)
  obtain ⟨h9, hp⟩ := hp
  refine sq (o_slice3F (R := r_shelf_Shelf) (k := .i64) (k' := .i64) (X := X) (L := s) (s.length : Int) Tryd.underlying24 Tryd.sizeOf31 hs3 (by kernel_rfl) rfl rfl (by kernel_rfl) (by kernel_rfl) h9 ?_)
  intro a6 h8
  rw [take_len] at h8
  rw [take_len]
  refine sq (o_pv (.slice a6 s.length s.length) rfl (by kernel_rfl) ?_)
  refine nil_ ?_
  refine then_normal (K5 _ _ _ _ ?_)
  refine wp_ret ?_
  refine end_ret hQ (.slice a6 s.length s.length) (by kernel_rfl) ?_
  exact ⟨s, hp, E0, a6, rfl, (Sl.less h8 hS)⟩
theorem slices_Clip_shelf_Stack_shelf_Shelf_keep {w : World} {a : Option Addr} {m c : Nat} (hmc : m ≤ c) : Calls Tryd.prog 10 #[(.slice a m c)] w (Ret fun v w' => v = (.slice a m m) ∧ w = w') := by
  refine enter_ Tryd.func10 rfl 9 [(0, (.slice a m c))] (by kernel_rfl) (fun Qe hQ => ?_)
  refine seq_ (fun _ K4 => ?_)
  refine reg_ ?_
  refine sq (o_pv (.slice none 0 0) rfl (by kernel_rfl) ?_)
  refine nil_ ?_
  refine then_normal (K4 _ _ _ _ ?_)
  refine seq_ (fun _ K5 => ?_)
  refine reg_ ?_
  refine sq (o_pv (.slice a m c) rfl (by kernel_rfl) ?_)
  refine sq (o_pv (.slice a m c) rfl (by kernel_rfl) ?_)
  refine sq (o_pv (.int .i64 (m : Int)) rfl (by kernel_rfl) ?_)
  refine sq (o_pv (.slice a m c) rfl (by kernel_rfl) ?_)
  refine sq (o_pv (.int .i64 (m : Int)) rfl (by kernel_rfl) ?_)
  refine sq (o_slice3K (a := a) (m := m) (c := c) (k := .i64) (k' := .i64) Tryd.underlying24 Tryd.sizeOf31 (by kernel_rfl) hmc rfl (by kernel_rfl) (by kernel_rfl) ?_)
  refine sq (o_pv (.slice a m m) rfl (by kernel_rfl) ?_)
  refine nil_ ?_
  refine then_normal (K5 _ _ _ _ ?_)
  refine wp_ret ?_
  refine end_ret hQ (.slice a m m) (by kernel_rfl) ?_
  exact ⟨rfl, rfl⟩

def shelf_Stack_all_p (s : (List S_shelf_Shelf)) (Q : (List S_shelf_Shelf) → Prop) : Prop :=
  ((s.length ≤ 9223372036854775807) → (∃ (I174 : (List S_shelf_Shelf) → Int → Prop) (m175 : (List S_shelf_Shelf) → Int → Nat), (I174 ([] : List S_shelf_Shelf) (0 : Int)) ∧ (∀ (out86 : (List S_shelf_Shelf)) (s91 : Int), (I174 out86 s91) → (out86.length ≤ 9223372036854775807) → (inR .i64 s91) → (((s91 < (s.length : Int)) → ((inL s s91) ∧ ((inR .i64 ((lget s s91).Base)) → ((((lget s s91).Index).length ≤ 9223372036854775807) → ((((lget s s91).Work).length ≤ 9223372036854775807) → ((((lget s s91).Text).size ≤ maxLen) → (shelf_apart_p (lget s s91) (fun (r225 : S_shelf_Shelf) => ((inR .i64 r225.Base) → ((r225.Index.length ≤ 9223372036854775807) → ((r225.Work.length ≤ 9223372036854775807) → ((r225.Text.size ≤ maxLen) → (((out86.length + ([r225]).length) * 72 ≤ 140737488355328) ∧ ((inR .i64 (s91 + (1 : Int))) ∧ ((I174 (out86 ++ ([r225])) (s91 + (1 : Int))) ∧ m175 (out86 ++ ([r225])) (s91 + (1 : Int)) < m175 out86 s91))))))))))))))) ∧ ((¬ (s91 < (s.length : Int))) → Q out86)))))
set_option maxRecDepth 20000 in
set_option maxHeartbeats 4000000 in
theorem shelf_Stack_all_w {X : List Nat} {w : World} {s : (List S_shelf_Shelf)} {as1 : Option Addr} {cs2 : Nat} {Q : (List S_shelf_Shelf) → Prop} (hX0 : Old X w) (hs3 : Sl r_shelf_Shelf X w as1 cs2 s) (hp : shelf_Stack_all_p s Q) :
    Calls Tryd.prog 12 #[(.slice as1 s.length cs2)] w (Ret fun v w' => ∃ (r0 : (List S_shelf_Shelf)), Q r0 ∧ Evo [] w w' ∧ ∃ (a0 : Option Addr) (c0 : Nat), v = .slice a0 r0.length r0.length ∧ OS r_shelf_Shelf [] w.heap.size (blkL a0 ++ X) w' 31 a0 r0.length c0 r0) := by
  have hXo := hX0
  have E0 : Evo [] w w := RB.refl _ _ _
  have hS : Sub X X := Sub.refl _
  unfold shelf_Stack_all_p at hp
  refine enter_ Tryd.func12 rfl 20 [(0, (.slice as1 s.length cs2))] (by kernel_rfl) (fun Qe hQ => ?_)
  replace hp := hp (Sl.len hs3)
  refine seq_ (fun _ K4 => ?_)
  refine reg_ ?_
  refine sq (o_pv (.slice none 0 0) rfl (by kernel_rfl) ?_)
  refine nil_ ?_
  refine then_normal (K4 _ _ _ _ ?_)
  refine seq_ (fun _ K5 => ?_)
  refine reg_ ?_
  refine sq (o_pv (.slice none 0 0) rfl (by kernel_rfl) ?_)
  refine nil_ ?_
  refine then_normal (K5 _ _ _ _ ?_)
  refine seq_ (fun _ K6 => ?_)
  refine seq_ (fun _ K7 => ?_)
  refine reg_ ?_
  refine sq (o_pv (.slice as1 s.length cs2) rfl (by kernel_rfl) ?_)
  refine sq (o_pv (.int .i64 (s.length : Int)) rfl (by kernel_rfl) ?_)
  refine sq (o_pv (.int .i64 (0 : Int)) rfl (by kernel_rfl) ?_)
  refine nil_ ?_
  refine then_normal (K7 _ _ _ _ ?_)
  refine wp_block ?_
  obtain ⟨I174, m175, hI176, hp⟩ := hp
  refine loop_ 261928 (fun kq lq w178 => ∃ (X179 : List Nat) (out86 : (List S_shelf_Shelf)) (s91 : Int) (a87 : Option Addr) (n88 : Nat) (c89 : Nat), (lq = [(3, (.slice a87 n88 c89)), (8, (.int .i64 s91))]) ∧ (kq = m175 out86 s91) ∧ (Evo [] w w178) ∧ (Old X179 w178) ∧ (Sub X X179) ∧ (Sl r_shelf_Shelf X179 w178 as1 cs2 s) ∧ (OS r_shelf_Shelf ([]) w.heap.size X179 w178 31 a87 n88 c89 out86) ∧ (inR .i64 s91) ∧ (I174 out86 s91)) (m175 ([] : List S_shelf_Shelf) (0 : Int)) [(3, (.slice none 0 0)), (8, (.int .i64 (0 : Int)))] (vs_cons (by kernel_rfl) (vs_cons (by kernel_rfl) vs_nil)) ⟨X, ([] : List S_shelf_Shelf), (0 : Int), none, 0, 0, rfl, rfl, E0, hXo, hS, hs3, (OS.nil _ _ _ _), (by decide : inR .i64 (0 : Int)), hI176⟩ ?_
  rintro _ _ w178 g181 ⟨X179, out86, s91, a87, n88, c89, rfl, rfl, E184, hXo185, hS186, hs187, O90, rs92, hI177⟩ Kl182 hA183
  replace hp := hp out86 s91 hI177 (OS.len O90) rs92
  refine seq_ (fun _ K188 => ?_)
  refine reg_ ?_
  refine sq (o_pv (.bool (decide (s91 < (s.length : Int)))) rfl (by kernel_rfl) ?_)
  refine nil_ ?_
  refine then_normal (K188 _ _ _ _ ?_)
  refine seq_ (fun _ K189 => ?_)
  refine cond_d (s91 < (s.length : Int)) (by kernel_rfl) (fun h190 => ?_) (fun h190 => ?_)
  ·
    replace hp := hp.1 h190
    refine wp_skip ?_
    refine then_normal (K189 _ _ _ _ ?_)
    refine seq_ (fun _ K191 => ?_)
    refine wp_block ?_
    refine seq_ (fun _ K192 => ?_)
    refine reg_ ?_
    obtain ⟨h193, hp⟩ := hp
    obtain ⟨b194, o195, cs196, ha197, nx198, lt199, ok200, hc201⟩ := Sl.atI hs187 s91 h193
    obtain ⟨aeIndex203, ceIndex204, aeWork206, ceWork207, rfl, reBase202, heIndex205, heWork208, zeText209⟩ := r_shelf_Shelf_open ok200
    replace hp := hp reBase202
    replace hp := hp (Sl.len heIndex205)
    replace hp := hp (Sl.len heWork208)
    replace hp := hp zeText209
    refine sq (o_pv (.pointer (some ⟨b194, o195 + s91.toNat * 4, none⟩)) rfl (x_ixA (m := s.length) (c := cs2) (k := .i64) (i := s91) Tryd.underlying24 Tryd.sizeOf31 (by rw [← ha197]; kernel_rfl) (by kernel_rfl) h193) ?_)
    refine sq (o_pv (.agg #[(.int .i64 ((lget s s91).Base)), (.slice aeIndex203 (((lget s s91).Index).length) ceIndex204), (.slice aeWork206 (((lget s s91).Work).length) ceWork207), (.string ((lget s s91).Text))]) rfl (x_loadN [(.int .i64 ((lget s s91).Base)), (.slice aeIndex203 (((lget s s91).Index).length) ceIndex204), (.slice aeWork206 (((lget s s91).Work).length) ceWork207), (.string ((lget s s91).Text))] (by kernel_rfl) Tryd.isAgg31 Tryd.sizeOf31 hc201) ?_)
    refine sq (o_newX [(.int .i64 (0 : Int)), (.slice none 0 0), (.slice none 0 0), (.string (ByteArray.mk #[]))] 31 (X := X179) (B := w.heap.size) E184.size rfl (by kernel_rfl) ?_)
    intro b210 w211 X212 s213 k214 n215
    have p216 := n215 _ (OS.old O90)
    have O217 := (OS.step0 O90 s213)
    have E218 := (Evo.then0 E184 (Step.evo s213))
    refine sq (o_stB (o := 0) (v := (.agg #[(.int .i64 ((lget s s91).Base)), (.slice aeIndex203 (((lget s s91).Index).length) ceIndex204), (.slice aeWork206 (((lget s s91).Work).length) ceWork207), (.string ((lget s s91).Text))])) [(.int .i64 ((lget s s91).Base)), (.slice aeIndex203 (((lget s s91).Index).length) ceIndex204), (.slice aeWork206 (((lget s s91).Work).length) ceWork207), (.string ((lget s s91).Text))] rfl k214 (by kernel_rfl) (by kernel_rfl) Tryd.sizeOf31 rfl rfl rfl ?_)
    intro w219 s220 k221
    refine nil_ ?_
    refine then_normal (K192 _ _ _ _ ?_)
    refine reg_ ?_
    refine sq (o_pv (.slice a87 n88 c89) rfl (by kernel_rfl) ?_)
    refine sq (o_pv (.agg #[(.int .i64 ((lget s s91).Base)), (.slice aeIndex203 (((lget s s91).Index).length) ceIndex204), (.slice aeWork206 (((lget s s91).Work).length) ceWork207), (.string ((lget s s91).Text))]) rfl (x_loadN [(.int .i64 ((lget s s91).Base)), (.slice aeIndex203 (((lget s s91).Index).length) ceIndex204), (.slice aeWork206 (((lget s s91).Work).length) ceWork207), (.string ((lget s s91).Text))] (by kernel_rfl) Tryd.isAgg31 Tryd.sizeOf31 (k221.2.1.cells' 0 rfl)) ?_)
    have heIndex222 := (Sl.step (Sl.step heIndex205 s213) s220)
    have heWork223 := (Sl.step (Sl.step heWork208 s213) s220)
    have hXo224 := (Old.step (Old.step hXo185 s213) s220)
    refine sq (o_call 13 #[(.agg #[(.int .i64 ((lget s s91).Base)), (.slice aeIndex203 ((lget s s91).Index).length ceIndex204), (.slice aeWork206 ((lget s s91).Work).length ceWork207), (.string ((lget s s91).Text))])] rfl (x_call Tryd.call13 (by rw []; kernel_rfl)) (shelf_apart_w (X := X212) (x := (lget s s91)) hXo224 reBase202 heIndex222 heWork223 zeText209 hp) ?_)
    rintro _ w226 ⟨r225, hp, e227, arIndex230, crIndex231, arWork233, crWork234, rfl, rrBase229, hrIndex232, hrWork235, zrText236⟩
    have s228 := Step.of0 X212 e227
    replace hp := hp rrBase229
    replace hp := hp (Sl.len hrIndex232)
    replace hp := hp (Sl.len hrWork235)
    replace hp := hp zrText236
    have O237 := (OS.step0 (OS.step O217 s220 p216) s228)
    have k238 := (OB.step0 k221 s228)
    have E245 := (Evo.then0 (Evo.thenW E218 (Step.evo s220) k214.2.2) e227)
    refine sq (o_rowX (R := r_shelf_Shelf) [(.int .i64 r225.Base), (.slice arIndex230 r225.Index.length crIndex231), (.slice arWork233 r225.Work.length crWork234), (.string r225.Text)] [r225] 31 1 (X := X212) (B := w.heap.size) E245.size rfl (by kernel_rfl) (Flat.cons (cs := [(.int .i64 r225.Base), (.slice arIndex230 r225.Index.length crIndex231), (.slice arWork233 r225.Work.length crWork234), (.string r225.Text)]) (r_shelf_Shelf_mk rrBase229 hrIndex232 rfl hrWork235 rfl zrText236) Flat.nil) rfl (by decide) ?_)
    intro b239 w240 X241 s242 O243 n244
    have p246 := n244 _ (OS.old O237)
    have p247 := n244 _ (OB.old k238)
    obtain ⟨h248, hp⟩ := hp
    have O249 := (OS.step0 O237 s242)
    have k250 := (OB.step0 k238 s242)
    have E251 := (Evo.then0 E245 (Step.evo s242))
    refine sq (o_appX (R := r_shelf_Shelf) (X := X241) (B := w.heap.size) (L := out86) (M := [r225]) rfl elT24 rfl E251.size O249 (OS.src O243) O243.1 (by kernel_rfl) (by kernel_rfl) h248 ?_)
    intro a252 n253 c254 w255 X256 s257 O258 gr259
    have p260 := gr259 _ (Ap.symm p216) (OB.old k250)
    refine sq (o_pv (.slice a252 n253 c254) rfl (by kernel_rfl) ?_)
    refine nil_ ?_
    refine blk_normal ?_
    refine then_normal (K191 _ _ _ _ ?_)
    refine reg_ ?_
    obtain ⟨h261, hp⟩ := hp
    refine sq (o_pv (.int .i64 (s91 + (1 : Int))) rfl (x_add2 (k := .i64) (a := s91) (b := (1 : Int)) (s91 + (1 : Int)) (by kernel_rfl) (by kernel_rfl) (wrap_inR h261)) ?_)
    refine sq (o_pv (.int .i64 (s91 + (1 : Int))) rfl (by kernel_rfl) ?_)
    refine nil_ ?_
    have E262 := (Evo.thenW E251 (Step.evo s257) O249.2.2)
    have hXo263 := (Old.step (Old.step (Old.step hXo224 s228) s242) s257)
    have hS264 := (Sub.trans (Sub.trans (Sub.trans (Sub.trans (Sub.trans hS186 (Step.up s213)) (Step.up s220)) (Step.up s228)) (Step.up s242)) (Step.up s257))
    have hs265 := (Sl.step (Sl.step (Sl.step (Sl.step (Sl.step hs187 s213) s220) s228) s242) s257)
    refine then_normal (hA183 _ _ _ ⟨_, [(3, (.slice a252 n253 c254)), (8, (.int .i64 (s91 + (1 : Int))))], hp.2, fit_mk (AgB.mix _ _ _) (by kernel_rfl) (vs_cons (by kernel_rfl) (vs_cons (by kernel_rfl) vs_nil)), ?_⟩)
    exact ⟨X256, (out86 ++ ([r225])), (s91 + (1 : Int)), a252, n253, c254, rfl, rfl, E262, hXo263, hS264, hs265, O258, h261, hp.1⟩
  ·
    replace hp := hp.2 h190
    refine wp_exit ?_
    refine then_exit ?_
    refine then_exit ?_
    refine blk_exit ?_
    refine then_normal (K6 _ _ _ _ ?_)
    refine seq_ (fun _ K266 => ?_)
    refine reg_ ?_
    refine sq (o_pv (.slice a87 n88 c89) rfl (by kernel_rfl) ?_)
    refine sq (o_call 10 #[(.slice a87 n88 c89)] rfl (x_call Tryd.call10 (by kernel_rfl)) (slices_Clip_shelf_Stack_shelf_Shelf_keep (OS.nc O90)) ?_)
    rintro _ _ ⟨rfl, rfl⟩
    refine sq (o_pv (.slice a87 n88 n88) rfl (by kernel_rfl) ?_)
    refine nil_ ?_
    refine then_normal (K266 _ _ _ _ ?_)
    refine wp_ret ?_
    refine end_ret hQ (.slice a87 n88 n88) (by kernel_rfl) ?_
    exact ⟨out86, hp, E184, a87, c89, (by (rw [show n88 = out86.length from O90.1]); first | done | rfl), (OS.give O90 hS186)⟩

/-- slices.Insert at the front of what is full. -/
def slices_Insert_shelf_Stack_shelf_Shelf_p (s : List S_shelf_Shelf) (i : Int) (v_ : List S_shelf_Shelf) (Q : List S_shelf_Shelf → Prop) : Prop := i = 0 ∧ v_ ≠ [] ∧ (v_.length + s.length) * 72 ≤ 140737488355328 ∧ Q (v_ ++ s)
set_option maxRecDepth 20000 in
set_option maxHeartbeats 4000000 in
theorem slices_Insert_shelf_Stack_shelf_Shelf_w {X : List Nat} {w : World} {s : List S_shelf_Shelf} {i : Int} {v_ : List S_shelf_Shelf} {as1 av2 : Option Addr} {cv3 : Nat} {Q : List S_shelf_Shelf → Prop} (hX0 : Old X w) (hs : Sl r_shelf_Shelf X w as1 s.length s) (_hi : inR .i64 i) (hv : Sl r_shelf_Shelf X w av2 cv3 v_) (hp : slices_Insert_shelf_Stack_shelf_Shelf_p s i v_ Q) :
    Calls Tryd.prog 11 #[(.slice as1 s.length s.length), (.int .i64 i), (.slice av2 v_.length cv3)] w (Ret fun v w' => ∃ r0 : List S_shelf_Shelf, Q r0 ∧ Evo [] w w' ∧ ∃ (aq01 : Option Addr) (cq02 : Nat), v = (.slice aq01 r0.length cq02) ∧ Sl r_shelf_Shelf X w' aq01 cq02 r0) := by
  obtain ⟨rfl, hv0, hb, hq⟩ := hp
  have hvp : 0 < v_.length := List.length_pos_iff.2 hv0
  have hkl : v_.length + s.length ≤ 140737488355328 := by omega
  obtain ⟨gv, ov, xv, rfl, hcv, hfv⟩ := hv.row hv0
  have elT := elT24
  obtain ⟨⟨ti, z, hti, hz, hsz, hby, hzs⟩, hu, _, hpos, hbp⟩ := elT
  have hnv : xv.length = v_.length * ti.size := by rw [hsz]; exact hfv.length
  have hR : ti.size = 4 := hsz
  refine enter_ Tryd.func11 rfl 95 [(0, (.slice as1 s.length s.length)), (1, (.int .i64 (0 : Int))), (2, (.slice (some ⟨gv, ov, none⟩) v_.length cv3))] (by kernel_rfl) (fun Qe hQ => ?_)
  refine seq_ (fun _ K0 => ?_)
  refine reg_ ?_
  refine sq (o_pv (.slice none 0 0) rfl (by kernel_rfl) ?_)
  refine nil_ ?_
  refine then_normal (K0 _ _ _ _ ?_)
  refine seq_ (fun _ K1 => ?_)
  refine reg_ ?_
  refine sq (o_pv (.slice as1 s.length s.length) rfl (by kernel_rfl) ?_)
  refine sq (o_pv (.int .i64 (0 : Int)) rfl (by kernel_rfl) ?_)
  refine sq (o_pv (.slice (if s.length = 0 then as1 else as1.map (·.add (0 * 4))) (s.length - 0) (s.length - 0)) rfl (x_slice (lo := 0) (hi := s.length) (mx := s.length) Tryd.underlying24 Tryd.sizeOf31 (by kernel_rfl) (.inr ⟨.i64, by kernel_rfl⟩) (.inl ⟨rfl, rfl, rfl⟩) (.inl ⟨rfl, rfl⟩) (Nat.le_refl _) (Nat.zero_le _) (Nat.le_refl _) (Nat.le_refl _)) ?_)
  refine nil_ ?_
  refine then_normal (K1 _ _ _ _ ?_)
  refine seq_ (fun _ K2 => ?_)
  refine reg_ ?_
  refine sq (o_pv (.slice (some ⟨gv, ov, none⟩) v_.length cv3) rfl (by kernel_rfl) ?_)
  refine sq (o_pv (.int .i64 (v_.length : Int)) rfl (by kernel_rfl) ?_)
  refine sq (o_pv (.int .i64 (v_.length : Int)) rfl (by kernel_rfl) ?_)
  refine nil_ ?_
  refine then_normal (K2 _ _ _ _ ?_)
  refine seq_ (fun _ K3 => ?_)
  refine seq_ (fun _ K4 => ?_)
  refine reg_ ?_
  refine sq (o_pv (.int .i64 (v_.length : Int)) rfl (by kernel_rfl) ?_)
  refine sq (o_pv (.bool (decide ((v_.length : Int) = 0))) rfl (by kernel_rfl) ?_)
  refine nil_ ?_
  refine then_normal (K4 _ _ _ _ ?_)
  refine cond_df ((v_.length : Int) = 0) (by kernel_rfl) (by omega) ?_
  refine wp_skip ?_
  refine then_normal (K3 _ _ _ _ ?_)
  refine seq_ (fun _ K5 => ?_)
  refine reg_ ?_
  refine sq (o_pv (.slice as1 s.length s.length) rfl (by kernel_rfl) ?_)
  refine sq (o_pv (.int .i64 (s.length : Int)) rfl (by kernel_rfl) ?_)
  refine sq (o_pv (.int .i64 (s.length : Int)) rfl (by kernel_rfl) ?_)
  refine nil_ ?_
  refine then_normal (K5 _ _ _ _ ?_)
  refine seq_ (fun _ K6 => ?_)
  refine seq_ (fun _ K7 => ?_)
  refine reg_ ?_
  refine sq (o_pv (.int .i64 (0 : Int)) rfl (by kernel_rfl) ?_)
  refine sq (o_pv (.int .i64 (s.length : Int)) rfl (by kernel_rfl) ?_)
  refine sq (o_pv (.bool (decide ((0 : Int) = (s.length : Int)))) rfl (by kernel_rfl) ?_)
  refine nil_ ?_
  refine then_normal (K7 _ _ _ _ ?_)
  refine cond_d ((0 : Int) = (s.length : Int)) (by kernel_rfl) (fun h0 => ?_) (fun h0 => ?_)
  · have hs0 : s = [] := List.eq_nil_of_length_eq_zero (by omega)
    refine seq_ (fun _ K8 => ?_)
    refine reg_ ?_
    refine sq (o_pv (.slice as1 s.length s.length) rfl (by kernel_rfl) ?_)
    refine sq (o_pv (.slice (some ⟨gv, ov, none⟩) v_.length cv3) rfl (by kernel_rfl) ?_)
    refine sq (o_appF2 (R := r_shelf_Shelf) (X := X) (L := s) (M := v_) rfl elT24 Tryd.underlying24 Tryd.underlying23 hX0 hs (Sl.src hv) (by kernel_rfl) (by kernel_rfl) (by omega) ?_)
    intro a1 c1 w1 s1 S1
    refine sq (o_pv (.slice a1 (s ++ v_).length c1) rfl (by kernel_rfl) ?_)
    refine nil_ ?_
    refine then_normal (K8 _ _ _ _ ?_)
    refine wp_ret ?_
    refine then_ret ?_
    refine end_ret hQ (.slice a1 (s ++ v_).length c1) (by kernel_rfl) ?_
    have e : v_ ++ s = s ++ v_ := by rw [hs0]; simp
    exact ⟨v_ ++ s, hq, s1.evo, a1, c1, by rw [e], by rw [e]; exact S1⟩
  have hs0 : s ≠ [] := fun e => h0 (by rw [e]; rfl)
  have hsp : 0 < s.length := List.length_pos_iff.2 hs0
  obtain ⟨gs, os, xs, rfl, hcs, hfs⟩ := hs.row hs0
  have hns : xs.length = s.length * ti.size := by rw [hsz]; exact hfs.length
  refine wp_skip ?_
  refine then_normal (K6 _ _ _ _ ?_)
  refine seq_ (fun _ K8 => ?_)
  refine seq_ (fun _ K9 => ?_)
  refine reg_ ?_
  have hadd : IntKind.i64.wrap ((s.length : Int) + (v_.length : Int)) = ((v_.length + s.length : Nat) : Int) := by
    rw [show (s.length : Int) + (v_.length : Int) = ((v_.length + s.length : Nat) : Int) from by omega]
    exact wrap_inR (inR_i64.2 (by omega))
  have hadd0 : IntKind.i64.wrap ((0 : Int) + (v_.length : Int)) = (v_.length : Int) := by
    rw [Int.zero_add]
    exact wrap_inR (inR_i64.2 (by omega))
  refine sq (o_pv (.int .i64 (s.length : Int)) rfl (by kernel_rfl) ?_)
  refine sq (o_pv (.int .i64 (v_.length : Int)) rfl (by kernel_rfl) ?_)
  refine sq (o_pv (.int .i64 ((v_.length + s.length : Nat) : Int)) rfl (x_add2 (k := .i64) (a := (s.length : Int)) (b := (v_.length : Int)) _ (by kernel_rfl) (by kernel_rfl) hadd) ?_)
  refine sq (o_pv (.slice (some ⟨gs, os, none⟩) s.length s.length) rfl (by kernel_rfl) ?_)
  refine sq (o_pv (.int .i64 (s.length : Int)) rfl (by kernel_rfl) ?_)
  refine sq (o_pv (.bool (decide ((s.length : Int) < ((v_.length + s.length : Nat) : Int)))) rfl (by kernel_rfl) ?_)
  refine nil_ ?_
  refine then_normal (K9 _ _ _ _ ?_)
  refine cond_dt ((s.length : Int) < ((v_.length + s.length : Nat) : Int)) (by kernel_rfl) (by omega) ?_
  refine seq_ (fun _ K10 => ?_)
  refine reg_ ?_
  refine sq (o_pv (.slice (some ⟨gs, os, none⟩) s.length s.length) rfl (by kernel_rfl) ?_)
  refine sq (o_pv (.int .i64 (0 : Int)) rfl (by kernel_rfl) ?_)
  refine sq (o_pv (.slice (some ⟨gs, os + 0 * 4, none⟩) (0 - 0) (s.length - 0)) rfl (x_sliceA (b := gs) (o := os) (m := s.length) (c := s.length) 0 0 Tryd.underlying24 Tryd.sizeOf31 (by kernel_rfl) (.inl ⟨rfl, rfl⟩) (.inr ⟨.i64, by kernel_rfl⟩) (Nat.le_refl _) (Nat.le_refl _) (Nat.zero_le _) (Nat.ne_of_lt hsp)) ?_)
  refine sq (o_pv (.int .i64 (s.length : Int)) rfl (by kernel_rfl) ?_)
  refine sq (o_pv (.int .i64 (v_.length : Int)) rfl (by kernel_rfl) ?_)
  refine sq (o_pv (.int .i64 ((v_.length + s.length : Nat) : Int)) rfl (x_add2 (k := .i64) (a := (s.length : Int)) (b := (v_.length : Int)) _ (by kernel_rfl) (by kernel_rfl) hadd) ?_)
  refine sq (o_pv (.int .i64 (0 : Int)) rfl (by kernel_rfl) ?_)
  refine sq (o_pv (.int .i64 ((v_.length + s.length : Nat) : Int)) rfl (x_sub2 (k := .i64) (a := ((v_.length + s.length : Nat) : Int)) (b := (0 : Int)) _ (by kernel_rfl) (by kernel_rfl) (by rw [Int.sub_zero]; exact wrap_inR (inR_i64.2 (by omega)))) ?_)
  refine sq (o_appZ (X := X) (B := w.heap.size) (a := some ⟨gs, os + 0 * 4, none⟩) (c := s.length) (k := v_.length + s.length) (kq := .i64) (Nat.le_refl _) rfl elT24 Tryd.underlying3 (by kernel_rfl) (by kernel_rfl) (by omega) hb ?_)
  intro b1 cap w1 cs X1 s1 O1 hcl hkc hcm _
  refine sq (o_pv (.slice (some ⟨b1, 0, none⟩) (v_.length + s.length) cap) rfl (by kernel_rfl) ?_)
  refine nil_ ?_
  refine then_normal (K10 _ _ _ _ ?_)
  refine seq_ (fun _ K11 => ?_)
  refine reg_ ?_
  refine sq (o_pv (.slice (some ⟨b1, 0, none⟩) (v_.length + s.length) cap) rfl (by kernel_rfl) ?_)
  refine sq (o_pv (.int .i64 (0 : Int)) rfl (by kernel_rfl) ?_)
  refine sq (o_pv (.slice (some ⟨b1, 0 + 0 * 4, none⟩) (v_.length + s.length - 0) (cap - 0)) rfl (x_sliceA (m := v_.length + s.length) (c := cap) 0 (v_.length + s.length) Tryd.underlying24 Tryd.sizeOf31 (by kernel_rfl) (.inr ⟨.i64, by kernel_rfl⟩) (.inl ⟨rfl, rfl, rfl⟩) hkc (Nat.zero_le _) hkc (by omega)) ?_)
  refine sq (o_pv (.slice (some ⟨gv, ov, none⟩) v_.length cv3) rfl (by kernel_rfl) ?_)
  have hcs' : cs.length = cap * ti.size := by rw [hR]; exact hcl
  have hle : v_.length * ti.size + s.length * ti.size ≤ cap * ti.size := by rw [← Nat.add_mul]; exact Nat.mul_le_mul_right _ hkc
  refine sq (o_copyB (X := X1) (g := b1) (o := 0 + 0 * 4) (dLen := v_.length + s.length) (dCap := cap) (sLen := v_.length) (sCap := cv3) (a := ⟨gv, ov, none⟩) xv v_.length rfl O1 Tryd.underlying24 hti (by kernel_rfl) (by kernel_rfl) (Nat.min_eq_left (by omega)) hnv (fun j v hj => (Evo.cell s1.evo (by rw [Addr_add]; exact hcv j v hj) (by simp))) hfv.one (by omega) ?_)
  intro w2 s2 O2
  refine nil_ ?_
  refine then_normal (K11 _ _ _ _ ?_)
  refine seq_ (fun _ K12 => ?_)
  refine reg_drawn (RB w2.heap.size [b1]) 8 (by kernel_rfl) (fun w3 hd3 => ?_)
  have e3 := Evo.of_drew hd3
  have s3 := Step.of0 X1 e3
  have O3 := OB.step0 O2 s3
  refine r_take 0 (.slice (some ⟨b1, 0, none⟩) (v_.length + s.length) cap) (RB.pre _ _) rfl (by kernel_rfl) (fun _ _ _ h => hQ.panic _ _ _ _ _ h) (.inl ⟨rfl, fun wq hq => (by kernel_rfl)⟩) ?_
  refine r_take 1 (.int .i64 (0 : Int)) (RB.pre _ _) rfl (by kernel_rfl) (fun _ _ _ h => hQ.panic _ _ _ _ _ h) (.inl ⟨rfl, fun wq hq => (by kernel_rfl)⟩) ?_
  refine r_take 2 (.int .i64 (v_.length : Int)) (RB.pre _ _) rfl (by kernel_rfl) (fun _ _ _ h => hQ.panic _ _ _ _ _ h) (.inl ⟨rfl, fun wq hq => (by kernel_rfl)⟩) ?_
  refine r_take 3 (.int .i64 (v_.length : Int)) (RB.pre _ _) rfl (by kernel_rfl) (fun _ _ _ h => hQ.panic _ _ _ _ _ h) (.inl ⟨rfl, fun wq hq => (x_add2 (k := .i64) (a := (0 : Int)) (b := (v_.length : Int)) _ (by kernel_rfl) (by kernel_rfl) hadd0)⟩) ?_
  refine r_take 4 (.slice (some ⟨b1, 0 + v_.length * 4, none⟩) (v_.length + s.length - v_.length) (cap - v_.length)) (RB.pre _ _) rfl (by kernel_rfl) (fun _ _ _ h => hQ.panic _ _ _ _ _ h) (.inl ⟨rfl, fun wq hq => (x_sliceA (m := v_.length + s.length) (c := cap) v_.length (v_.length + s.length) Tryd.underlying24 Tryd.sizeOf31 (by kernel_rfl) (.inr ⟨.i64, by kernel_rfl⟩) (.inl ⟨rfl, rfl, rfl⟩) hkc (by omega) hkc (by omega))⟩) ?_
  refine r_take 5 (.slice (some ⟨gs, os, none⟩) s.length s.length) (RB.pre _ _) rfl (by kernel_rfl) (fun _ _ _ h => hQ.panic _ _ _ _ _ h) (.inl ⟨rfl, fun wq hq => (by kernel_rfl)⟩) ?_
  refine r_take 6 (.int .i64 (0 : Int)) (RB.pre _ _) rfl (by kernel_rfl) (fun _ _ _ h => hQ.panic _ _ _ _ _ h) (.inl ⟨rfl, fun wq hq => (by kernel_rfl)⟩) ?_
  refine r_take 7 (.slice (some ⟨gs, os + 0 * 4, none⟩) (s.length - 0) (s.length - 0)) (RB.pre _ _) rfl (by kernel_rfl) (fun _ _ _ h => hQ.panic _ _ _ _ _ h) (.inl ⟨rfl, fun wq hq => (x_sliceA (m := s.length) (c := s.length) 0 s.length Tryd.underlying24 Tryd.sizeOf31 (by kernel_rfl) (.inr ⟨.i64, by kernel_rfl⟩) (.inl ⟨rfl, rfl, rfl⟩) (Nat.le_refl _) (Nat.zero_le _) (Nat.le_refl _) (by omega))⟩) ?_
  refine r_ready [8] (by kernel_rfl) rfl (all_cons ⟨_, _, _, _, _, _, rfl, ?_⟩ all_nil)
  have hgs : b1 ≠ gs := fun e => by
    have := Old.nil w
    exact absurd e (fun _ => by
      subst e
      have h1 := World.block_lt_of_cell? _ _ (hcs 0 (xs[0]'(by rw [hns]; exact Nat.mul_pos hsp (by rw [hR]; decide))) (by simp))
      have h2 := O1.2.2
      have h3 := h2 b1 (by simp)
      simp at h3
      simp at h1
      omega)
  have hgm : gs ∉ [b1] := by simpa using fun e => hgs e.symm
  have hnv4 := hnv
  have hns4 := hns
  have hle4 := hle
  rw [hR] at hnv4 hns4 hle4
  refine o_copyB (X := X1) (g := b1) (o := 0 + v_.length * 4) (dLen := v_.length + s.length - v_.length) (dCap := cap - v_.length) (sLen := s.length) (sCap := s.length) (a := ⟨gs, os + 0 * 4, none⟩) xs s.length rfl O3 Tryd.underlying24 hti (by kernel_rfl) (by kernel_rfl) (Nat.min_eq_left (by omega)) hns (fun j v hj => by rw [Addr_add]; simpa using Evo.cell e3 (Evo.cell s2.evo (Evo.cell s1.evo (hcs j v hj) (by simp)) hgm) (by simp)) hfs.one (by simp only [List.length_append, List.length_take, List.length_drop]; omega) ?_
  intro w4 s4 O4
  refine ⟨fun h => absurd h (by decide), ?_⟩
  refine r_done (by kernel_rfl) ?_
  refine then_normal (K12 _ _ _ _ ?_)
  refine seq_ (fun _ K13 => ?_)
  refine reg_ ?_
  refine sq (o_pv (.slice (some ⟨b1, 0, none⟩) (v_.length + s.length) cap) rfl (by kernel_rfl) ?_)
  refine sq (o_pv (.slice (some ⟨b1, 0, none⟩) (v_.length + s.length) cap) rfl (by kernel_rfl) ?_)
  refine nil_ ?_
  refine then_normal (K13 _ _ _ _ ?_)
  refine wp_ret ?_
  refine then_ret ?_
  refine end_ret hQ (.slice (some ⟨b1, 0, none⟩) (v_.length + s.length) cap) (by kernel_rfl) ?_
  have hbX : ∀ x ∈ X, x < w.heap.size := hX0
  have hbn : b1 ∉ X := OB.notin O1 hbX
  have hE : Evo [] w w4 := (Evo.then0 (s1.evo.thenW s2.evo O1.2.2) e3).thenW s4.evo O1.2.2
  have hf : Flat r_shelf_Shelf X w4 (xv ++ xs) (v_ ++ s) := (hfv.append hfs).evo hE (Sub.nil _)
  refine ⟨v_ ++ s, hq, hE, some ⟨b1, 0, none⟩, cap, by rw [List.length_append], O4.slX hbX (xv ++ xs) (ins_at (m := 0 + v_.length * 4) (by rw [hnv, hR]; omega) _ rfl) hf (by rw [List.length_append]; exact hkc) hcm⟩

def shelf_Stack_Push_p (s : (List S_shelf_Shelf)) (x : S_shelf_Shelf) (Q : (List S_shelf_Shelf) → Int → Prop) : Prop :=
  ((s.length ≤ 9223372036854775807) → ((inR .i64 x.Base) → ((x.Index.length ≤ 9223372036854775807) → ((x.Work.length ≤ 9223372036854775807) → ((x.Text.size ≤ maxLen) → ((((s.length : Int) ≥ (16 : Int)) → Q ([] : List S_shelf_Shelf) (4 : Int)) ∧ ((¬ ((s.length : Int) ≥ (16 : Int))) → (shelf_Stack_all_p s (fun (r44 : (List S_shelf_Shelf)) => ((r44.length ≤ 9223372036854775807) → (shelf_apart_p x (fun (r59 : S_shelf_Shelf) => ((inR .i64 r59.Base) → ((r59.Index.length ≤ 9223372036854775807) → ((r59.Work.length ≤ 9223372036854775807) → ((r59.Text.size ≤ maxLen) → (slices_Insert_shelf_Stack_shelf_Shelf_p r44 (0 : Int) ([r59]) (fun (r88 : (List S_shelf_Shelf)) => ((r88.length ≤ 9223372036854775807) → (slices_Clip_shelf_Stack_shelf_Shelf_p r88 (fun (r98 : (List S_shelf_Shelf)) => ((r98.length ≤ 9223372036854775807) → Q r98 (0 : Int)))))))))))))))))))))))
set_option maxRecDepth 20000 in
set_option maxHeartbeats 4000000 in
theorem shelf_Stack_Push_w {X : List Nat} {w : World} {s : (List S_shelf_Shelf)} {x : S_shelf_Shelf} {as1 : Option Addr} {cs2 : Nat} {axIndex5 : Option Addr} {cxIndex6 : Nat} {axWork8 : Option Addr} {cxWork9 : Nat} {Q : (List S_shelf_Shelf) → Int → Prop} (hX0 : Old X w) (hs3 : Sl r_shelf_Shelf X w as1 cs2 s) (rxBase4 : inR .i64 x.Base) (hxIndex7 : Sl r_files_File X w axIndex5 cxIndex6 x.Index) (hxWork10 : Sl r_files_File X w axWork8 cxWork9 x.Work) (zxText11 : x.Text.size ≤ maxLen) (hp : shelf_Stack_Push_p s x Q) :
    Calls Tryd.prog 5 #[(.slice as1 s.length cs2), (.agg #[(.int .i64 x.Base), (.slice axIndex5 x.Index.length cxIndex6), (.slice axWork8 x.Work.length cxWork9), (.string x.Text)])] w (Ret fun v w' => ∃ (r0 : (List S_shelf_Shelf)) (r1 : Int), Q r0 r1 ∧ Evo [] w w' ∧ ∃ (aq01 : Option Addr) (cq02 : Nat), v = .tuple #[(.slice aq01 r0.length cq02), (.int .i64 r1)] ∧ Sl r_shelf_Shelf X w' aq01 cq02 r0 ∧ inR .i64 r1) := by
  have hXo := hX0
  have E0 : Evo [] w w := RB.refl _ _ _
  have hS : Sub X X := Sub.refl _
  unfold shelf_Stack_Push_p at hp
  refine enter_ Tryd.func5 rfl 16 [(0, (.slice as1 s.length cs2)), (1, (.agg #[(.int .i64 x.Base), (.slice axIndex5 x.Index.length cxIndex6), (.slice axWork8 x.Work.length cxWork9), (.string x.Text)]))] (by kernel_rfl) (fun Qe hQ => ?_)
  replace hp := hp (Sl.len hs3)
  replace hp := hp rxBase4
  replace hp := hp (Sl.len hxIndex7)
  replace hp := hp (Sl.len hxWork10)
  replace hp := hp zxText11
  refine seq_ (fun _ K12 => ?_)
  refine reg_ ?_
  refine sq (o_newX [(.int .i64 x.Base), (.slice axIndex5 x.Index.length cxIndex6), (.slice axWork8 x.Work.length cxWork9), (.string x.Text)] 31 (X := X) (B := w.heap.size) E0.size rfl (by kernel_rfl) ?_)
  intro b13 w14 X15 s16 k17 n18
  refine sq (o_pv (.slice none 0 0) rfl (by kernel_rfl) ?_)
  refine sq (o_pv (.int .i64 (0 : Int)) rfl (by kernel_rfl) ?_)
  refine nil_ ?_
  refine then_normal (K12 _ _ _ _ ?_)
  refine seq_ (fun _ K19 => ?_)
  refine seq_ (fun _ K20 => ?_)
  refine reg_ ?_
  refine sq (o_pv (.slice as1 s.length cs2) rfl (by kernel_rfl) ?_)
  refine sq (o_pv (.int .i64 (s.length : Int)) rfl (by kernel_rfl) ?_)
  refine sq (o_pv (.bool (decide ((s.length : Int) ≥ (16 : Int)))) rfl (by kernel_rfl) ?_)
  refine nil_ ?_
  refine then_normal (K20 _ _ _ _ ?_)
  refine cond_d ((s.length : Int) ≥ (16 : Int)) (by kernel_rfl) (fun h21 => ?_) (fun h21 => ?_)
  ·
    replace hp := hp.1 h21
    refine seq_ (fun _ K22 => ?_)
    refine reg_ ?_
    refine sq (o_pv (.slice none 0 0) rfl (by kernel_rfl) ?_)
    refine sq (o_pv (.int .i64 (4 : Int)) rfl (by kernel_rfl) ?_)
    refine nil_ ?_
    refine then_normal (K22 _ _ _ _ ?_)
    refine wp_ret ?_
    refine then_ret ?_
    have E23 := (Evo.then0 E0 (Step.evo s16))
    refine end_ret hQ (.tuple #[(.slice none 0 0), (.int .i64 (4 : Int))]) (by kernel_rfl) ?_
    exact ⟨([] : List S_shelf_Shelf), (4 : Int), hp, E23, none, 0, rfl, Sl.nil, (by decide : inR .i64 (4 : Int))⟩
  ·
    replace hp := hp.2 h21
    refine wp_skip ?_
    refine then_normal (K19 _ _ _ _ ?_)
    refine seq_ (fun _ K24 => ?_)
    have hs25 := (Sl.step hs3 s16)
    have hxIndex26 := (Sl.step hxIndex7 s16)
    have hxWork27 := (Sl.step hxWork10 s16)
    have hXo28 := (Old.step hXo s16)
    have E29 := (Evo.then0 E0 (Step.evo s16))
    have hS30 := (Sub.trans hS (Step.up s16))
    refine reg_drawn (RB w14.heap.size []) 7 (by kernel_rfl) (fun w31 hd32 => ?_)
    have e33 := Evo.of_drew hd32
    have z34 : w31.heap.size = w14.heap.size := by rw [hd32]
    clear hd32
    have s36 := Step.of0 X15 e33
    have er35 := RB.refl w14.heap.size [] w31
    have hs37 := (Sl.step hs25 s36)
    have hxIndex38 := (Sl.step hxIndex26 s36)
    have hxWork39 := (Sl.step hxWork27 s36)
    have hXo40 := (Old.step hXo28 s36)
    have E41 := (Evo.then0 E29 (Step.evo s36))
    have hS42 := (Sub.trans hS30 (Step.up s36))
    have k43 := (OB.step0 k17 s36)
    refine r_take 0 (.slice as1 s.length cs2) (RB.pre _ _) rfl (by kernel_rfl) (fun _ _ _ h => hQ.panic _ _ _ _ _ h) (.inl ⟨rfl, fun wq hq => (by kernel_rfl)⟩) ?_
    refine r_take 2 (.agg #[(.int .i64 x.Base), (.slice axIndex5 x.Index.length cxIndex6), (.slice axWork8 x.Work.length cxWork9), (.string x.Text)]) (RB.pre _ _) rfl (by kernel_rfl) (fun _ _ _ h => hQ.panic _ _ _ _ _ h) (.inl ⟨rfl, fun wq hq => (x_loadN [(.int .i64 x.Base), (.slice axIndex5 x.Index.length cxIndex6), (.slice axWork8 x.Work.length cxWork9), (.string x.Text)] (by kernel_rfl) Tryd.isAgg31 Tryd.sizeOf31 ((Blk.rb k43.2.1 (RB.trans er35 hq) (Nat.lt_of_lt_of_eq (Blk.lt k43.2.1) z34) (fun h => by cases h)).cells' 0 rfl))⟩) ?_
    refine r_ready [1] (by kernel_rfl) rfl (all_cons ⟨_, _, _, _, _, _, rfl, ?_⟩ all_nil)
    refine o_call 12 #[(.slice as1 s.length cs2)] rfl (x_call Tryd.call12 (by kernel_rfl)) (shelf_Stack_all_w (X := X15) (s := s) hXo40 hs37 hp) ?_
    rintro _ w45 ⟨r44, hp, e46, a48, c49, rfl, O50⟩
    have rm := RB.mono (F' := []) e46 (Nat.le_trans (Nat.le_of_eq z34.symm) (RB.size er35)) (fun _ h => by cases h)
    have er51 := RB.trans er35 rm
    refine ⟨fun _ => rm, ?_⟩
    obtain ⟨X52, s47, O53, n54⟩ := OS.own_in O50 e46 E41.size
    have p55 := n54 _ (OB.old k43)
    replace hp := hp (OS.len O53)
    refine r_ready [3] (by kernel_rfl) rfl (all_cons ⟨_, _, _, _, _, _, rfl, ?_⟩ all_nil)
    have hxIndex56 := (Sl.step hxIndex38 s47)
    have hxWork57 := (Sl.step hxWork39 s47)
    have hXo58 := (Old.step hXo40 s47)
    refine o_call 13 #[(.agg #[(.int .i64 x.Base), (.slice axIndex5 x.Index.length cxIndex6), (.slice axWork8 x.Work.length cxWork9), (.string x.Text)])] rfl (x_call Tryd.call13 (by kernel_rfl)) (shelf_apart_w (X := X52) (x := x) hXo58 rxBase4 hxIndex56 hxWork57 zxText11 hp) ?_
    rintro _ w60 ⟨r59, hp, e61, arIndex64, crIndex65, arWork67, crWork68, rfl, rrBase63, hrIndex66, hrWork69, zrText70⟩
    have rm := RB.mono (F' := []) e61 (Nat.le_trans (Nat.le_of_eq z34.symm) (RB.size er51)) (fun _ h => by cases h)
    have er71 := RB.trans er51 rm
    refine ⟨fun _ => rm, ?_⟩
    have s62 := Step.of0 X52 e61
    replace hp := hp rrBase63
    replace hp := hp (Sl.len hrIndex66)
    replace hp := hp (Sl.len hrWork69)
    replace hp := hp zrText70
    refine r_ready [4] (by kernel_rfl) rfl (all_cons ⟨_, _, _, _, _, _, rfl, ?_⟩ all_nil)
    have k72 := (OB.step0 (OB.step0 k43 s47) s62)
    have O73 := (OS.step0 O53 s62)
    have E80 := (Evo.then0 (Evo.then0 E41 (Step.evo s47)) e61)
    refine o_rowX (R := r_shelf_Shelf) [(.int .i64 r59.Base), (.slice arIndex64 r59.Index.length crIndex65), (.slice arWork67 r59.Work.length crWork68), (.string r59.Text)] [r59] 31 1 (X := X52) (B := w.heap.size) E80.size rfl (by kernel_rfl) (Flat.cons (cs := [(.int .i64 r59.Base), (.slice arIndex64 r59.Index.length crIndex65), (.slice arWork67 r59.Work.length crWork68), (.string r59.Text)]) (r_shelf_Shelf_mk rrBase63 hrIndex66 rfl hrWork69 rfl zrText70) Flat.nil) rfl (by decide) ?_
    intro b74 w75 X76 s77 O78 n79
    have nb81 := new_of (Nat.le_trans (Nat.le_of_eq z34.symm) (RB.size er71)) n79
    have rm := RB.mono (F' := []) (Step.evo s77) (Nat.le_trans (Nat.le_of_eq z34.symm) (RB.size er71)) (fun _ h => by cases h)
    have er82 := RB.trans er71 rm
    refine ⟨fun _ => rm, ?_⟩
    have p83 := n79 _ (OB.old k72)
    have p84 := n79 _ (OS.old O73)
    refine r_ready [5] (by kernel_rfl) rfl (all_cons ⟨_, _, _, _, _, _, rfl, ?_⟩ all_nil)
    have O85 := (OS.step0 O73 s77)
    have hS86 := (Sub.trans (Sub.trans (Sub.trans hS42 (Step.up s47)) (Step.up s62)) (Step.up s77))
    have hXo87 := (Old.step (Old.step hXo58 s62) s77)
    refine o_call 11 #[(.slice a48 r44.length r44.length), (.int .i64 (0 : Int)), (.slice (some ⟨b74, 0, none⟩) ([r59]).length 1)] rfl (x_call Tryd.call11 (by rw [← show 1 = ([r59]).length from O78.1]; kernel_rfl)) (slices_Insert_shelf_Stack_shelf_Shelf_w (X := X) (s := r44) (i := (0 : Int)) (v_ := [r59]) (Old.less hXo87 hS86) (Sl.full (Sl.clipN (OS.out O85 hS86 hX0) O85.1)) (by decide : inR .i64 (0 : Int)) (OS.out O78 hS86 hX0) hp) ?_
    rintro _ w89 ⟨r88, hp, e90, ar92, cr93, rfl, hr94⟩
    have rm := RB.mono (F' := []) e90 (Nat.le_trans (Nat.le_of_eq z34.symm) (RB.size er82)) (fun _ h => by cases h)
    have er95 := RB.trans er82 rm
    refine ⟨fun _ => rm, ?_⟩
    have s91 := Step.of0 X76 e90
    replace hp := hp (Sl.len hr94)
    refine r_ready [6] (by kernel_rfl) rfl (all_cons ⟨_, _, _, _, _, _, rfl, ?_⟩ all_nil)
    have hXo96 := (Old.step hXo87 s91)
    have hS97 := (Sub.trans hS86 (Step.up s91))
    refine o_call 10 #[(.slice ar92 r88.length cr93)] rfl (x_call Tryd.call10 (by kernel_rfl)) (slices_Clip_shelf_Stack_shelf_Shelf_w (X := X) (s := r88) (Old.less hXo96 hS97) hr94 hp) ?_
    rintro _ w99 ⟨r98, hp, e100, ar102, rfl, hr103⟩
    have rm := RB.mono (F' := []) e100 (Nat.le_trans (Nat.le_of_eq z34.symm) (RB.size er95)) (fun _ h => by cases h)
    have er104 := RB.trans er95 rm
    refine ⟨fun _ => rm, ?_⟩
    have s101 := Step.of0 X76 e100
    replace hp := hp (Sl.len hr103)
    refine r_ready [7] (by kernel_rfl) rfl (all_cons ⟨_, _, _, _, _, _, rfl, ?_⟩ all_nil)
    refine o_pv (.slice ar102 r98.length r98.length) rfl (by kernel_rfl) ?_
    refine ⟨fun h => absurd h (by decide), ?_⟩
    refine r_ready [8] (by kernel_rfl) rfl (all_cons ⟨_, _, _, _, _, _, rfl, ?_⟩ all_nil)
    refine o_pv (.int .i64 (0 : Int)) rfl (by kernel_rfl) ?_
    refine ⟨fun h => absurd h (by decide), ?_⟩
    refine r_done (by kernel_rfl) ?_
    refine then_normal (K24 _ _ _ _ ?_)
    refine wp_ret ?_
    have E105 := (Evo.then0 (Evo.then0 (Evo.then0 E80 (Step.evo s77)) e90) e100)
    refine end_ret hQ (.tuple #[(.slice ar102 r98.length r98.length), (.int .i64 (0 : Int))]) (by kernel_rfl) ?_
    exact ⟨r98, (0 : Int), hp, E105, ar102, r98.length, rfl, hr103, (by decide : inR .i64 (0 : Int))⟩

def shelf_Stack_in_p (s : (List S_shelf_Shelf)) (n_ : Int) (Q : Bool → Prop) : Prop :=
  ((s.length ≤ 9223372036854775807) → ((inR .i64 n_) → Q (decide ((n_ ≥ (0 : Int)) ∧ (n_ < (s.length : Int))))))
set_option maxRecDepth 20000 in
set_option maxHeartbeats 4000000 in
theorem shelf_Stack_in_w {X : List Nat} {w : World} {s : (List S_shelf_Shelf)} {n_ : Int} {as1 : Option Addr} {cs2 : Nat} {Q : Bool → Prop} (hX0 : Old X w) (hs3 : Sl r_shelf_Shelf X w as1 cs2 s) (rn_4 : inR .i64 n_) (hp : shelf_Stack_in_p s n_ Q) :
    Calls Tryd.prog 14 #[(.slice as1 s.length cs2), (.int .i64 n_)] w (Ret fun v w' => ∃ (r0 : Bool), Q r0 ∧ Evo [] w w' ∧ v = (.bool r0)) := by
  have hXo := hX0
  have E0 : Evo [] w w := RB.refl _ _ _
  have hS : Sub X X := Sub.refl _
  unfold shelf_Stack_in_p at hp
  refine enter_ Tryd.func14 rfl 13 [(0, (.slice as1 s.length cs2)), (1, (.int .i64 n_))] (by kernel_rfl) (fun Qe hQ => ?_)
  replace hp := hp (Sl.len hs3)
  replace hp := hp rn_4
  refine seq_ (fun _ K5 => ?_)
  refine reg_ ?_
  refine sq (o_pv (.bool false) rfl (by kernel_rfl) ?_)
  refine nil_ ?_
  refine then_normal (K5 _ _ _ _ ?_)
  refine seq_ (fun _ K6 => ?_)
  refine ground_ ?_
  refine join_ 8176 (fun lq w10 => lq = [(4, (.bool (decide ((n_ ≥ (0 : Int)) ∧ (n_ < (s.length : Int))))))] ∧ w = w10) (fun Kj8 hJ9 => ?_) ?_
  ·
    refine reg_ ?_
    refine sq (o_pv (.int .i64 n_) rfl (by kernel_rfl) ?_)
    by_cases h12 : n_ ≥ (0 : Int)
    ·
      refine sq (o_pv (.bool true) rfl (x_dt (p := n_ ≥ (0 : Int)) (by kernel_rfl) h12) ?_)
      refine sq (o_pv (.bool true) rfl (by kernel_rfl) ?_)
      refine sq (o_pv (.int .i64 n_) (by kernel_rfl) (by kernel_rfl) ?_)
      refine sq (o_pv (.slice as1 s.length cs2) (by kernel_rfl) (by kernel_rfl) ?_)
      refine sq (o_pv (.int .i64 (s.length : Int)) (by kernel_rfl) (by kernel_rfl) ?_)
      refine sq (o_pv (.bool (decide (n_ < (s.length : Int)))) (by kernel_rfl) (by kernel_rfl) ?_)
      refine sq (o_pv (.bool (decide (n_ < (s.length : Int)))) rfl (by kernel_rfl) ?_)
      refine sq (o_pv (.bool (decide (n_ < (s.length : Int)))) rfl (by kernel_rfl) ?_)
      refine nil_ ?_
      refine then_normal (hJ9 _ _ _ ⟨[(4, (.bool (decide ((n_ ≥ (0 : Int)) ∧ (n_ < (s.length : Int))))))], fit_mk (fun _ _ => rfl) (by kernel_rfl) (vs_cons (Eq.trans (b := (.bool (decide (n_ < (s.length : Int))))) (by kernel_rfl) (dec_d ((and_iff_right h12).trans Iff.rfl)).symm) vs_nil), rfl, rfl⟩)
    ·
      refine sq (o_pv (.bool false) rfl (x_df (p := n_ ≥ (0 : Int)) (by kernel_rfl) h12) ?_)
      refine sq (o_pv (.bool false) rfl (by kernel_rfl) ?_)
      refine sq (o_not (by kernel_rfl) ?_)
      refine sq (o_not (by kernel_rfl) ?_)
      refine sq (o_not (by kernel_rfl) ?_)
      refine sq (o_not (by kernel_rfl) ?_)
      refine sq (o_pv (.bool false) rfl (by kernel_rfl) ?_)
      refine sq (o_pv (.bool false) rfl (by kernel_rfl) ?_)
      refine nil_ ?_
      refine then_normal (hJ9 _ _ _ ⟨[(4, (.bool (decide ((n_ ≥ (0 : Int)) ∧ (n_ < (s.length : Int))))))], fit_mk (fun _ _ => rfl) (by kernel_rfl) (vs_cons (Eq.trans (b := (.bool false)) (by kernel_rfl) (dec_f (iff_false_intro (fun h => h12 h.1))).symm) vs_nil), rfl, rfl⟩)
  ·
    rintro _ w10 g11 ⟨rfl, hw⟩
    subst hw
    refine then_normal (K6 _ _ _ _ ?_)
    refine wp_ret ?_
    refine end_ret hQ (.bool (decide ((n_ ≥ (0 : Int)) ∧ (n_ < (s.length : Int))))) (by kernel_rfl) ?_
    exact ⟨(decide ((n_ ≥ (0 : Int)) ∧ (n_ < (s.length : Int)))), hp, E0, rfl⟩

def shelf_Stack_Get_p (s : (List S_shelf_Shelf)) (n_ : Int) (Q : S_shelf_Shelf → Int → Prop) : Prop :=
  ((s.length ≤ 9223372036854775807) → ((inR .i64 n_) → (shelf_Stack_in_p s n_ (fun (r15 : Bool) => ((((!r15) = true) → Q (S_shelf_Shelf.mk (0 : Int) ([] : List S_files_File) ([] : List S_files_File) (ByteArray.mk #[])) (1 : Int)) ∧ (((!r15) = false) → ((inL s n_) ∧ ((inR .i64 ((lget s n_).Base)) → ((((lget s n_).Index).length ≤ 9223372036854775807) → ((((lget s n_).Work).length ≤ 9223372036854775807) → ((((lget s n_).Text).size ≤ maxLen) → (shelf_apart_p (lget s n_) (fun (r47 : S_shelf_Shelf) => ((inR .i64 r47.Base) → ((r47.Index.length ≤ 9223372036854775807) → ((r47.Work.length ≤ 9223372036854775807) → ((r47.Text.size ≤ maxLen) → Q r47 (0 : Int))))))))))))))))))
set_option maxRecDepth 20000 in
set_option maxHeartbeats 4000000 in
theorem shelf_Stack_Get_w {X : List Nat} {w : World} {s : (List S_shelf_Shelf)} {n_ : Int} {as1 : Option Addr} {cs2 : Nat} {Q : S_shelf_Shelf → Int → Prop} (hX0 : Old X w) (hs3 : Sl r_shelf_Shelf X w as1 cs2 s) (rn_4 : inR .i64 n_) (hp : shelf_Stack_Get_p s n_ Q) :
    Calls Tryd.prog 7 #[(.slice as1 s.length cs2), (.int .i64 n_)] w (Ret fun v w' => ∃ (r0 : S_shelf_Shelf) (r1 : Int), Q r0 r1 ∧ Evo [] w w' ∧ ∃ (aq0Index2 : Option Addr) (cq0Index3 : Nat) (aq0Work5 : Option Addr) (cq0Work6 : Nat), v = .tuple #[(.agg #[(.int .i64 r0.Base), (.slice aq0Index2 r0.Index.length cq0Index3), (.slice aq0Work5 r0.Work.length cq0Work6), (.string r0.Text)]), (.int .i64 r1)] ∧ inR .i64 r0.Base ∧ Sl r_files_File X w' aq0Index2 cq0Index3 r0.Index ∧ Sl r_files_File X w' aq0Work5 cq0Work6 r0.Work ∧ r0.Text.size ≤ maxLen ∧ inR .i64 r1) := by
  have hXo := hX0
  have E0 : Evo [] w w := RB.refl _ _ _
  have hS : Sub X X := Sub.refl _
  unfold shelf_Stack_Get_p at hp
  refine enter_ Tryd.func7 rfl 16 [(0, (.slice as1 s.length cs2)), (1, (.int .i64 n_))] (by kernel_rfl) (fun Qe hQ => ?_)
  replace hp := hp (Sl.len hs3)
  replace hp := hp rn_4
  refine seq_ (fun _ K5 => ?_)
  refine reg_ ?_
  refine sq (o_newX [(.int .i64 (0 : Int)), (.slice none 0 0), (.slice none 0 0), (.string (ByteArray.mk #[]))] 31 (X := X) (B := w.heap.size) E0.size rfl (by kernel_rfl) ?_)
  intro b6 w7 X8 s9 k10 n11
  refine sq (o_pv (.int .i64 (0 : Int)) rfl (by kernel_rfl) ?_)
  refine nil_ ?_
  refine then_normal (K5 _ _ _ _ ?_)
  refine seq_ (fun _ K12 => ?_)
  refine seq_ (fun _ K13 => ?_)
  refine reg_ ?_
  refine sq (o_pv (.slice as1 s.length cs2) rfl (by kernel_rfl) ?_)
  refine sq (o_pv (.int .i64 n_) rfl (by kernel_rfl) ?_)
  have hs14 := (Sl.step hs3 s9)
  refine sq (o_call 14 #[(.slice as1 s.length cs2), (.int .i64 n_)] rfl (x_call Tryd.call14 (by kernel_rfl)) (shelf_Stack_in_w (X := []) (s := s) (n_ := n_) (Old.nil _) (Sl.less hs14 (Sub.nil _)) rn_4 hp) ?_)
  rintro _ w16 ⟨r15, hp, e17, rfl⟩
  have s18 := Step.of0 X8 e17
  refine sq (o_pv (.bool (!r15)) rfl (by kernel_rfl) ?_)
  refine nil_ ?_
  refine then_normal (K13 _ _ _ _ ?_)
  refine cond_b (!r15) (by kernel_rfl) (fun h19 => ?_) (fun h19 => ?_)
  ·
    replace hp := hp.1 h19
    refine seq_ (fun _ K20 => ?_)
    refine reg_ ?_
    refine sq (o_pv (.agg #[(.int .i64 (0 : Int)), (.slice none 0 0), (.slice none 0 0), (.string (ByteArray.mk #[]))]) rfl (by kernel_rfl) ?_)
    have k21 := (OB.step0 k10 s18)
    have E22 := (Evo.then0 (Evo.then0 E0 (Step.evo s9)) e17)
    refine sq (o_stB (o := 0) (v := (.agg #[(.int .i64 (0 : Int)), (.slice none 0 0), (.slice none 0 0), (.string (ByteArray.mk #[]))])) [(.int .i64 (0 : Int)), (.slice none 0 0), (.slice none 0 0), (.string (ByteArray.mk #[]))] rfl k21 (by kernel_rfl) (by kernel_rfl) Tryd.sizeOf31 rfl rfl rfl ?_)
    intro w23 s24 k25
    refine sq (o_pv (.int .i64 (1 : Int)) rfl (by kernel_rfl) ?_)
    refine nil_ ?_
    refine then_normal (K20 _ _ _ _ ?_)
    refine wp_ret ?_
    refine then_ret ?_
    have E26 := (Evo.thenW E22 (Step.evo s24) k21.2.2)
    refine end_ret hQ (.tuple #[(.agg #[(.int .i64 (0 : Int)), (.slice none 0 0), (.slice none 0 0), (.string (ByteArray.mk #[]))]), (.int .i64 (1 : Int))]) (rs2 Tryd.results7 (rs_agg [(.int .i64 (0 : Int)), (.slice none 0 0), (.slice none 0 0), (.string (ByteArray.mk #[]))] (by kernel_rfl) Tryd.isAgg31 Tryd.sizeOf31 (k25.2.1.cells' 0 rfl)) (rs_tmp (by kernel_rfl))) ?_
    exact ⟨(S_shelf_Shelf.mk (0 : Int) ([] : List S_files_File) ([] : List S_files_File) (ByteArray.mk #[])), (1 : Int), hp, E26, none, 0, none, 0, rfl, (by decide : inR .i64 (0 : Int)), Sl.nil, Sl.nil, (by decide : (ByteArray.mk #[]).size ≤ maxLen), (by decide : inR .i64 (1 : Int))⟩
  ·
    replace hp := hp.2 h19
    refine wp_skip ?_
    refine then_normal (K12 _ _ _ _ ?_)
    refine seq_ (fun _ K27 => ?_)
    refine reg_ ?_
    refine sq (o_pv (.slice as1 s.length cs2) rfl (by kernel_rfl) ?_)
    refine sq (o_pv (.int .i64 n_) rfl (by kernel_rfl) ?_)
    obtain ⟨h28, hp⟩ := hp
    have hs29 := (Sl.step hs14 s18)
    obtain ⟨b30, o31, cs32, ha33, nx34, lt35, ok36, hc37⟩ := Sl.atI hs29 n_ h28
    obtain ⟨aeIndex39, ceIndex40, aeWork42, ceWork43, rfl, reBase38, heIndex41, heWork44, zeText45⟩ := r_shelf_Shelf_open ok36
    replace hp := hp reBase38
    replace hp := hp (Sl.len heIndex41)
    replace hp := hp (Sl.len heWork44)
    replace hp := hp zeText45
    refine sq (o_pv (.pointer (some ⟨b30, o31 + n_.toNat * 4, none⟩)) rfl (x_ixA (m := s.length) (c := cs2) (k := .i64) (i := n_) Tryd.underlying24 Tryd.sizeOf31 (by rw [← ha33]; kernel_rfl) (by kernel_rfl) h28) ?_)
    refine sq (o_pv (.agg #[(.int .i64 ((lget s n_).Base)), (.slice aeIndex39 (((lget s n_).Index).length) ceIndex40), (.slice aeWork42 (((lget s n_).Work).length) ceWork43), (.string ((lget s n_).Text))]) rfl (x_loadN [(.int .i64 ((lget s n_).Base)), (.slice aeIndex39 (((lget s n_).Index).length) ceIndex40), (.slice aeWork42 (((lget s n_).Work).length) ceWork43), (.string ((lget s n_).Text))] (by kernel_rfl) Tryd.isAgg31 Tryd.sizeOf31 hc37) ?_)
    have hXo46 := (Old.step (Old.step hXo s9) s18)
    refine sq (o_call 13 #[(.agg #[(.int .i64 ((lget s n_).Base)), (.slice aeIndex39 ((lget s n_).Index).length ceIndex40), (.slice aeWork42 ((lget s n_).Work).length ceWork43), (.string ((lget s n_).Text))])] rfl (x_call Tryd.call13 (by rw []; kernel_rfl)) (shelf_apart_w (X := X8) (x := (lget s n_)) hXo46 reBase38 heIndex41 heWork44 zeText45 hp) ?_)
    rintro _ w48 ⟨r47, hp, e49, arIndex52, crIndex53, arWork55, crWork56, rfl, rrBase51, hrIndex54, hrWork57, zrText58⟩
    have s50 := Step.of0 X8 e49
    replace hp := hp rrBase51
    replace hp := hp (Sl.len hrIndex54)
    replace hp := hp (Sl.len hrWork57)
    replace hp := hp zrText58
    have k59 := (OB.step0 (OB.step0 k10 s18) s50)
    have E60 := (Evo.then0 (Evo.then0 (Evo.then0 E0 (Step.evo s9)) e17) e49)
    refine sq (o_stB (o := 0) (v := (.agg #[(.int .i64 r47.Base), (.slice arIndex52 r47.Index.length crIndex53), (.slice arWork55 r47.Work.length crWork56), (.string r47.Text)])) [(.int .i64 r47.Base), (.slice arIndex52 r47.Index.length crIndex53), (.slice arWork55 r47.Work.length crWork56), (.string r47.Text)] rfl k59 (by kernel_rfl) (by kernel_rfl) Tryd.sizeOf31 rfl rfl rfl ?_)
    intro w61 s62 k63
    refine sq (o_pv (.int .i64 (0 : Int)) rfl (by kernel_rfl) ?_)
    refine nil_ ?_
    refine then_normal (K27 _ _ _ _ ?_)
    refine wp_ret ?_
    have hrIndex64 := (Sl.step hrIndex54 s62)
    have hS65 := (Sub.trans (Sub.trans (Sub.trans (Sub.trans hS (Step.up s9)) (Step.up s18)) (Step.up s50)) (Step.up s62))
    have hrWork66 := (Sl.step hrWork57 s62)
    have E67 := (Evo.thenW E60 (Step.evo s62) k59.2.2)
    refine end_ret hQ (.tuple #[(.agg #[(.int .i64 r47.Base), (.slice arIndex52 r47.Index.length crIndex53), (.slice arWork55 r47.Work.length crWork56), (.string r47.Text)]), (.int .i64 (0 : Int))]) (rs2 Tryd.results7 (rs_agg [(.int .i64 r47.Base), (.slice arIndex52 r47.Index.length crIndex53), (.slice arWork55 r47.Work.length crWork56), (.string r47.Text)] (by kernel_rfl) Tryd.isAgg31 Tryd.sizeOf31 (k63.2.1.cells' 0 rfl)) (rs_tmp (by kernel_rfl))) ?_
    exact ⟨r47, (0 : Int), hp, E67, arIndex52, crIndex53, arWork55, crWork56, rfl, rrBase51, (Sl.less hrIndex64 hS65), (Sl.less hrWork66 hS65), zrText58, (by decide : inR .i64 (0 : Int))⟩

/-- slices.Delete. -/
def slices_Delete_shelf_Stack_shelf_Shelf_p (s : List S_shelf_Shelf) (i j : Int) (Q : List S_shelf_Shelf → Prop) : Prop := (0 ≤ i ∧ i ≤ j ∧ j ≤ (s.length : Int)) ∧ Q (s.take i.toNat ++ s.drop j.toNat)
set_option maxRecDepth 20000 in
set_option maxHeartbeats 4000000 in
theorem slices_Delete_shelf_Stack_shelf_Shelf_w {X : List Nat} {B c : Nat} {w : World} {s : List S_shelf_Shelf} {i j : Int} {a : Option Addr} (hO : OS r_shelf_Shelf [] B X w 31 a s.length c s) (hij : 0 ≤ i ∧ i ≤ j ∧ j ≤ (s.length : Int)) :
    Calls Tryd.prog 15 #[(.slice a s.length s.length), (.int .i64 i), (.int .i64 j)] w (Ret fun v w' => ∃ (X' : List Nat) (c' : Nat), v = (.slice a (s.take i.toNat ++ s.drop j.toNat).length c') ∧ Step X w (blkL a) X w' ∧ Sub X' X ∧ Sl r_shelf_Shelf X' w' a c' (s.take i.toNat ++ s.drop j.toNat) ∧ (∀ l, Ap l (blkL a) → Sub l X → Sub l X')) := by
  obtain ⟨p, rfl⟩ : ∃ p : Nat, i = p := ⟨i.toNat, by omega⟩
  obtain ⟨q, rfl⟩ : ∃ q : Nat, j = q := ⟨j.toNat, by omega⟩
  show Calls _ _ _ _ (Ret fun v w' => ∃ (X' : List Nat) (c' : Nat), v = (.slice a (s.take p ++ s.drop q).length c') ∧ Step X w (blkL a) X w' ∧ Sub X' X ∧ Sl r_shelf_Shelf X' w' a c' (s.take p ++ s.drop q) ∧ (∀ l, Ap l (blkL a) → Sub l X → Sub l X'))
  have hpq : p ≤ q := by omega
  have hql : q ≤ s.length := by omega
  clear hij
  have hlen := hO.len
  have elT := elT24
  obtain ⟨⟨ti, z, hti, hz, hsz, hby, hzs⟩, hu, _, hpos, hbp⟩ := elT
  have hR : ti.size = 4 := hsz
  refine enter_ Tryd.func15 rfl 33 [(0, (.slice a s.length s.length)), (1, (.int .i64 (p : Int))), (2, (.int .i64 (q : Int)))] (by kernel_rfl) (fun Qe hQ => ?_)
  refine seq_ (fun _ K0 => ?_)
  refine reg_ ?_
  refine sq (o_pv (.slice none 0 0) rfl (by kernel_rfl) ?_)
  refine nil_ ?_
  refine then_normal (K0 _ _ _ _ ?_)
  refine seq_ (fun _ K1 => ?_)
  refine reg_ ?_
  refine sq (o_pv (.slice a s.length s.length) rfl (by kernel_rfl) ?_)
  refine sq (o_pv (.int .i64 (p : Int)) rfl (by kernel_rfl) ?_)
  refine sq (o_pv (.int .i64 (q : Int)) rfl (by kernel_rfl) ?_)
  refine sq (o_pv (.slice a s.length s.length) rfl (by kernel_rfl) ?_)
  refine sq (o_pv (.int .i64 (s.length : Int)) rfl (by kernel_rfl) ?_)
  refine sq (o_pv (.slice (if s.length = p then a else a.map (·.add (p * 4))) (q - p) (s.length - p)) rfl (x_slice (m := s.length) (c := s.length) (lo := p) (hi := q) (mx := s.length) Tryd.underlying24 Tryd.sizeOf31 (by kernel_rfl) (.inr ⟨.i64, by kernel_rfl⟩) (.inr ⟨.i64, by kernel_rfl⟩) (.inr ⟨.i64, by kernel_rfl⟩) (Nat.le_refl _) hpq hql (Nat.le_refl _)) ?_)
  refine nil_ ?_
  refine then_normal (K1 _ _ _ _ ?_)
  refine seq_ (fun _ K2 => ?_)
  refine seq_ (fun _ K3 => ?_)
  refine reg_ ?_
  refine sq (o_pv (.int .i64 (p : Int)) rfl (by kernel_rfl) ?_)
  refine sq (o_pv (.int .i64 (q : Int)) rfl (by kernel_rfl) ?_)
  refine sq (o_pv (.bool (decide ((p : Int) = (q : Int)))) rfl (by kernel_rfl) ?_)
  refine nil_ ?_
  refine then_normal (K3 _ _ _ _ ?_)
  refine cond_d ((p : Int) = (q : Int)) (by kernel_rfl) (fun h0 => ?_) (fun h0 => ?_)
  · obtain rfl : p = q := by omega
    refine seq_ (fun _ K4 => ?_)
    refine reg_ ?_
    refine sq (o_pv (.slice a s.length s.length) rfl (by kernel_rfl) ?_)
    refine sq (o_pv (.slice a s.length s.length) rfl (by kernel_rfl) ?_)
    refine nil_ ?_
    refine then_normal (K4 _ _ _ _ ?_)
    refine wp_ret ?_
    refine then_ret ?_
    refine end_ret hQ (.slice a s.length s.length) (by kernel_rfl) ?_
    obtain ⟨X1, u, r, hm⟩ := OS.release hO
    rw [List.take_append_drop]
    exact ⟨X1, s.length, rfl, ⟨RB.refl _ _ _, hO.mem, Sub.refl _, fun _ h => .inl h⟩, u, r.full, hm⟩
  have hp1 : p < q := by omega
  have hs0 : s ≠ [] := fun e => by rw [e] at hql; simp at hql; omega
  obtain ⟨g, cs, rfl, hB, hcl, hsc, hcm, hF⟩ := OS.row hO hs0
  have hcl4 : cs.length = c * 4 := hcl
  have hF4 : Flat r_shelf_Shelf X w (cs.take (s.length * 4)) s := hF
  have hsc4 : s.length * 4 ≤ c * 4 := Nat.mul_le_mul_right _ hsc
  have hFp : Flat r_shelf_Shelf X w ((cs.take (s.length * 4)).take (p * 4)) (s.take p) := Flat.take p hF4
  have hFq : Flat r_shelf_Shelf X w ((cs.take (s.length * 4)).drop (q * 4)) (s.drop q) := Flat.drop q hF4
  rw [List.take_take, Nat.min_eq_left (by omega)] at hFp
  have hnw : ((cs.take (s.length * 4)).drop (q * 4)).length = (s.length - q) * ti.size := by rw [hR, List.length_drop, List.length_take, Nat.min_eq_left (by omega)]; omega
  have hnw4 : ((cs.take (s.length * 4)).drop (q * 4)).length = (s.length - q) * 4 := by rw [List.length_drop, List.length_take, Nat.min_eq_left (by omega)]; omega
  refine wp_skip ?_
  refine then_normal (K2 _ _ _ _ ?_)
  refine seq_ (fun _ K5 => ?_)
  refine reg_ ?_
  refine sq (o_pv (.slice (some ⟨g, 0, none⟩) s.length s.length) rfl (by kernel_rfl) ?_)
  refine sq (o_pv (.int .i64 (s.length : Int)) rfl (by kernel_rfl) ?_)
  refine sq (o_pv (.int .i64 (s.length : Int)) rfl (by kernel_rfl) ?_)
  refine nil_ ?_
  refine then_normal (K5 _ _ _ _ ?_)
  refine seq_ (fun _ K6 => ?_)
  refine reg_drawn (RB w.heap.size [g]) 6 (by kernel_rfl) (fun w1 hd1 => ?_)
  have e1 := Evo.of_drew hd1
  have s1 := Step.of0 X e1
  have hB1 := OB.step0 hB s1
  obtain ⟨ad, had, hadc⟩ : ∃ ad : Addr, (if s.length = q then (some (⟨g, 0, none⟩ : Addr)) else (some (⟨g, 0, none⟩ : Addr)).map (·.add (q * 4))) = some ad ∧ (s.length = q ∨ ad = ⟨g, 0 + q * 4, none⟩) := by
    by_cases e : s.length = q
    · exact ⟨⟨g, 0, none⟩, by rw [if_pos e], .inl e⟩
    · exact ⟨⟨g, 0 + q * 4, none⟩, by rw [if_neg e]; simp [Addr_add], .inr rfl⟩
  refine r_take 0 (.slice (some ⟨g, 0, none⟩) s.length s.length) (RB.pre _ _) rfl (by kernel_rfl) (fun _ _ _ h => hQ.panic _ _ _ _ _ h) (.inl ⟨rfl, fun wq hq => (by kernel_rfl)⟩) ?_
  refine r_take 1 (.int .i64 (p : Int)) (RB.pre _ _) rfl (by kernel_rfl) (fun _ _ _ h => hQ.panic _ _ _ _ _ h) (.inl ⟨rfl, fun wq hq => (by kernel_rfl)⟩) ?_
  refine r_take 2 (.slice (some ⟨g, 0 + 0 * 4, none⟩) (p - 0) (s.length - 0)) (RB.pre _ _) rfl (by kernel_rfl) (fun _ _ _ h => hQ.panic _ _ _ _ _ h) (.inl ⟨rfl, fun wq hq => (x_sliceA (b := g) (o := 0) (m := s.length) (c := s.length) 0 p Tryd.underlying24 Tryd.sizeOf31 (by kernel_rfl) (.inl ⟨rfl, rfl⟩) (.inr ⟨.i64, by kernel_rfl⟩) (Nat.le_refl _) (Nat.zero_le _) (by omega) (by omega))⟩) ?_
  refine r_take 3 (.slice (some ⟨g, 0, none⟩) s.length s.length) (RB.pre _ _) rfl (by kernel_rfl) (fun _ _ _ h => hQ.panic _ _ _ _ _ h) (.inl ⟨rfl, fun wq hq => (by kernel_rfl)⟩) ?_
  refine r_take 4 (.int .i64 (q : Int)) (RB.pre _ _) rfl (by kernel_rfl) (fun _ _ _ h => hQ.panic _ _ _ _ _ h) (.inl ⟨rfl, fun wq hq => (by kernel_rfl)⟩) ?_
  refine r_take 5 (.slice (some ad) (s.length - q) (s.length - q)) (RB.pre _ _) rfl (by kernel_rfl) (fun _ _ _ h => hQ.panic _ _ _ _ _ h) (.inl ⟨rfl, fun wq hq => (had ▸ x_slice (a := some ⟨g, 0, none⟩) (m := s.length) (c := s.length) (lo := q) (hi := s.length) (mx := s.length) Tryd.underlying24 Tryd.sizeOf31 (by kernel_rfl) (.inr ⟨.i64, by kernel_rfl⟩) (.inl ⟨rfl, rfl, rfl⟩) (.inl ⟨rfl, rfl⟩) (Nat.le_refl _) hql (Nat.le_refl _) (Nat.le_refl _))⟩) ?_
  refine r_ready [6] (by kernel_rfl) rfl (all_cons ⟨_, _, _, _, _, _, rfl, ?_⟩ all_nil)
  refine o_appB (X := X) (g := g) (m := p) (c := s.length) (k := s.length - q) (c2 := s.length - q) (a := ad) ((cs.take (s.length * 4)).drop (q * 4)) rfl hB1 Tryd.underlying24 hti (by kernel_rfl) (by kernel_rfl) hnw (fun k v hk => ?_) (fun v hv => hF4.one v (List.mem_of_mem_drop hv)) (by omega) (by rw [hnw4, hR]; omega) ?_
  · rcases hadc with e | rfl
    · rw [List.getElem?_eq_none (by rw [hnw4, e]; omega)] at hk
      cases hk
    · rw [Addr_add, hB1.2.1.cell]
      rw [List.getElem?_drop, List.getElem?_take] at hk
      split at hk
      · rw [← hk]; congr 1; simp
      · cases hk
  intro w2 s2 O2
  refine ⟨fun h => absurd h (by decide), ?_⟩
  refine r_ready [7] (by kernel_rfl) rfl (all_cons ⟨_, _, _, _, _, _, rfl, ?_⟩ all_nil)
  refine o_pv (.slice (some ⟨g, 0, none⟩) (p + (s.length - q)) s.length) rfl (by kernel_rfl) ?_
  refine ⟨fun h => absurd h (by decide), ?_⟩
  refine r_done (by kernel_rfl) ?_
  refine then_normal (K6 _ _ _ _ ?_)
  refine seq_ (fun _ K7 => ?_)
  refine reg_ ?_
  obtain ⟨m, hm⟩ : ∃ m, m = p + (s.length - q) := ⟨_, rfl⟩
  rw [← hm]
  have hml : m < s.length := by omega
  have hcl2 := O2.2.1
  refine sq (o_pv (.slice (some ⟨g, 0, none⟩) m s.length) rfl (by kernel_rfl) ?_)
  refine sq (o_pv (.slice (some ⟨g, 0, none⟩) m s.length) rfl (by kernel_rfl) ?_)
  refine sq (o_pv (.int .i64 (m : Int)) rfl (by kernel_rfl) ?_)
  refine sq (o_pv (.int .i64 (s.length : Int)) rfl (by kernel_rfl) ?_)
  refine sq (o_pv (.slice (some ⟨g, 0 + m * 4, none⟩) (s.length - m) (s.length - m)) rfl (x_sliceA (b := g) (o := 0) (m := m) (c := s.length) m s.length Tryd.underlying24 Tryd.sizeOf31 (by kernel_rfl) (.inr ⟨.i64, by kernel_rfl⟩) (.inr ⟨.i64, by kernel_rfl⟩) (by omega) (by omega) (Nat.le_refl _) (by omega)) ?_)
  have hrow : ∀ ws : List Value, ((cs.take (p * ti.size) ++ (cs.take (s.length * 4)).drop (q * 4) ++ cs.drop (p * ti.size + ((cs.take (s.length * 4)).drop (q * 4)).length)).take (0 + m * 4) ++ ws) = (cs.take (p * 4) ++ (cs.take (s.length * 4)).drop (q * 4)) ++ ws := fun ws => by
    rw [hR, List.take_left' (by rw [List.length_append, List.length_take, hnw4, Nat.min_eq_left (by omega)]; omega)]
  have hlen2 : (cs.take (p * ti.size) ++ (cs.take (s.length * 4)).drop (q * 4) ++ cs.drop (p * ti.size + ((cs.take (s.length * 4)).drop (q * 4)).length)).length = cs.length := by
    simp only [List.length_append, List.length_take, List.length_drop, hR]
    omega
  refine sq (o_clearB (X := X) (g := g) (o := 0 + m * 4) (m := s.length - m) (c := s.length - m) (.agg #[(.int .i64 (0 : Int)), (.slice none 0 0), (.slice none 0 0), (.string (ByteArray.mk #[]))]) rfl O2 Tryd.underlying24 (by kernel_rfl) (by omega) (fun w => run_zero (s := 4) (bts := 72) w (by kernel_rfl)) (by decide) (by simp [Value.cells, Value.oneCell']) (by rw [hlen2]; show 0 + m * 4 + (s.length - m) * 4 ≤ cs.length; omega) ?_)
  intro w3 ws s3 hws O3
  refine nil_ ?_
  refine then_normal (K7 _ _ _ _ ?_)
  refine seq_ (fun _ K8 => ?_)
  refine reg_ ?_
  refine sq (o_pv (.slice (some ⟨g, 0, none⟩) m s.length) rfl (by kernel_rfl) ?_)
  refine sq (o_pv (.slice (some ⟨g, 0, none⟩) m s.length) rfl (by kernel_rfl) ?_)
  refine nil_ ?_
  refine then_normal (K8 _ _ _ _ ?_)
  refine wp_ret ?_
  refine end_ret hQ (.slice (some ⟨g, 0, none⟩) m s.length) (by kernel_rfl) ?_
  have hE : Evo [g] w w3 := Evo.trans (Evo.trans (RB.mono e1 (Nat.le_refl _) (fun _ h => by cases h) : Evo [g] w w1) s2.evo) s3.evo
  have hst : Step X w [g] X w3 := Step.one hE hB.1
  have hf : Flat r_shelf_Shelf X w3 (cs.take (p * 4) ++ (cs.take (s.length * 4)).drop (q * 4)) (s.take p ++ s.drop q) := (hFp.append hFq).evo hE (hst.sub)
  have hln : (s.take p ++ s.drop q).length = m := by rw [List.length_append, List.length_take, List.length_drop, Nat.min_eq_left (by omega)]; omega
  obtain ⟨X1, u, r, hm2⟩ := OB.rel O3 (c := s.length) 0 (cs.take (p * 4) ++ (cs.take (s.length * 4)).drop (q * 4)) (by
    intro k v hk
    rw [hrow, Nat.zero_add k, List.append_assoc (cs.take (p * 4) ++ (cs.take (s.length * 4)).drop (q * 4)) ws, List.getElem?_append_left (by
      rcases Nat.lt_or_ge k (cs.take (p * 4) ++ (cs.take (s.length * 4)).drop (q * 4)).length with h | h
      · exact h
      · simp [List.getElem?_eq_none h] at hk)]
    exact hk) hf (by rw [hln]; omega) (by omega)
  exact ⟨X1, s.length, by rw [hln], hst, u, r, hm2⟩

def shelf_Stack_Drop_p (s : (List S_shelf_Shelf)) (n_ : Int) (Q : (List S_shelf_Shelf) → Int → Prop) : Prop :=
  ((s.length ≤ 9223372036854775807) → ((inR .i64 n_) → (shelf_Stack_in_p s n_ (fun (r8 : Bool) => ((((!r8) = true) → Q ([] : List S_shelf_Shelf) (1 : Int)) ∧ (((!r8) = false) → (shelf_Stack_all_p s (fun (r18 : (List S_shelf_Shelf)) => ((r18.length ≤ 9223372036854775807) → ((inR .i64 (n_ + (1 : Int))) ∧ ((0 ≤ n_ ∧ n_ ≤ (n_ + (1 : Int)) ∧ (n_ + (1 : Int)) ≤ (r18.length : Int)) ∧ (slices_Clip_shelf_Stack_shelf_Shelf_p (r18.take n_.toNat ++ r18.drop (n_ + (1 : Int)).toNat) (fun (r44 : (List S_shelf_Shelf)) => ((r44.length ≤ 9223372036854775807) → Q r44 (0 : Int)))))))))))))))
set_option maxRecDepth 20000 in
set_option maxHeartbeats 4000000 in
theorem shelf_Stack_Drop_w {X : List Nat} {w : World} {s : (List S_shelf_Shelf)} {n_ : Int} {as1 : Option Addr} {cs2 : Nat} {Q : (List S_shelf_Shelf) → Int → Prop} (hX0 : Old X w) (hs3 : Sl r_shelf_Shelf X w as1 cs2 s) (rn_4 : inR .i64 n_) (hp : shelf_Stack_Drop_p s n_ Q) :
    Calls Tryd.prog 6 #[(.slice as1 s.length cs2), (.int .i64 n_)] w (Ret fun v w' => ∃ (r0 : (List S_shelf_Shelf)) (r1 : Int), Q r0 r1 ∧ Evo [] w w' ∧ ∃ (aq01 : Option Addr) (cq02 : Nat), v = .tuple #[(.slice aq01 r0.length cq02), (.int .i64 r1)] ∧ Sl r_shelf_Shelf X w' aq01 cq02 r0 ∧ inR .i64 r1) := by
  have hXo := hX0
  have E0 : Evo [] w w := RB.refl _ _ _
  have hS : Sub X X := Sub.refl _
  unfold shelf_Stack_Drop_p at hp
  refine enter_ Tryd.func6 rfl 17 [(0, (.slice as1 s.length cs2)), (1, (.int .i64 n_))] (by kernel_rfl) (fun Qe hQ => ?_)
  replace hp := hp (Sl.len hs3)
  replace hp := hp rn_4
  refine seq_ (fun _ K5 => ?_)
  refine reg_ ?_
  refine sq (o_pv (.slice none 0 0) rfl (by kernel_rfl) ?_)
  refine sq (o_pv (.int .i64 (0 : Int)) rfl (by kernel_rfl) ?_)
  refine nil_ ?_
  refine then_normal (K5 _ _ _ _ ?_)
  refine seq_ (fun _ K6 => ?_)
  refine seq_ (fun _ K7 => ?_)
  refine reg_ ?_
  refine sq (o_pv (.slice as1 s.length cs2) rfl (by kernel_rfl) ?_)
  refine sq (o_pv (.int .i64 n_) rfl (by kernel_rfl) ?_)
  refine sq (o_call 14 #[(.slice as1 s.length cs2), (.int .i64 n_)] rfl (x_call Tryd.call14 (by kernel_rfl)) (shelf_Stack_in_w (X := []) (s := s) (n_ := n_) (Old.nil _) (Sl.less hs3 (Sub.nil _)) rn_4 hp) ?_)
  rintro _ w9 ⟨r8, hp, e10, rfl⟩
  have s11 := Step.of0 X e10
  refine sq (o_pv (.bool (!r8)) rfl (by kernel_rfl) ?_)
  refine nil_ ?_
  refine then_normal (K7 _ _ _ _ ?_)
  refine cond_b (!r8) (by kernel_rfl) (fun h12 => ?_) (fun h12 => ?_)
  ·
    replace hp := hp.1 h12
    refine seq_ (fun _ K13 => ?_)
    refine reg_ ?_
    refine sq (o_pv (.slice none 0 0) rfl (by kernel_rfl) ?_)
    refine sq (o_pv (.int .i64 (1 : Int)) rfl (by kernel_rfl) ?_)
    refine nil_ ?_
    refine then_normal (K13 _ _ _ _ ?_)
    refine wp_ret ?_
    refine then_ret ?_
    have E14 := (Evo.then0 E0 e10)
    refine end_ret hQ (.tuple #[(.slice none 0 0), (.int .i64 (1 : Int))]) (by kernel_rfl) ?_
    exact ⟨([] : List S_shelf_Shelf), (1 : Int), hp, E14, none, 0, rfl, Sl.nil, (by decide : inR .i64 (1 : Int))⟩
  ·
    replace hp := hp.2 h12
    refine wp_skip ?_
    refine then_normal (K6 _ _ _ _ ?_)
    refine seq_ (fun _ K15 => ?_)
    refine reg_ ?_
    refine sq (o_pv (.slice as1 s.length cs2) rfl (by kernel_rfl) ?_)
    have hs16 := (Sl.step hs3 s11)
    have hXo17 := (Old.step hXo s11)
    refine sq (o_call 12 #[(.slice as1 s.length cs2)] rfl (x_call Tryd.call12 (by kernel_rfl)) (shelf_Stack_all_w (X := X) (s := s) hXo17 hs16 hp) ?_)
    rintro _ w19 ⟨r18, hp, e20, a22, c23, rfl, O24⟩
    have E28 := (Evo.then0 E0 e10)
    obtain ⟨X25, s21, O26, n27⟩ := OS.own_in O24 e20 E28.size
    replace hp := hp (OS.len O26)
    refine sq (o_pv (.int .i64 n_) rfl (by kernel_rfl) ?_)
    refine sq (o_pv (.int .i64 n_) rfl (by kernel_rfl) ?_)
    obtain ⟨h29, hp⟩ := hp
    refine sq (o_pv (.int .i64 (n_ + (1 : Int))) rfl (x_add2 (k := .i64) (a := n_) (b := (1 : Int)) (n_ + (1 : Int)) (by kernel_rfl) (by kernel_rfl) (wrap_inR h29)) ?_)
    obtain ⟨h30, hp⟩ := hp
    have hs31 := (Sl.step hs16 s21)
    have hXo32 := (Old.step hXo17 s21)
    have E33 := (Evo.then0 E28 (Step.evo s21))
    have hS34 := (Sub.trans (Sub.trans hS (Step.up s11)) (Step.up s21))
    have ax42 := OS.apold O26 hX0
    refine sq (o_call 15 #[(.slice a22 r18.length r18.length), (.int .i64 n_), (.int .i64 (n_ + (1 : Int)))] rfl (x_call Tryd.call15 (by kernel_rfl)) (slices_Delete_shelf_Stack_shelf_Shelf_w (X := X25) (B := w.heap.size) (s := r18) (i := n_) (j := (n_ + (1 : Int))) (a := a22) (OS.len_ O26) h30) ?_)
    rintro _ w37 ⟨X35, c36, rfl, s38, u39, r40, hm41⟩
    have hXo43 := (Old.less (Old.step hXo32 s38) u39)
    refine sq (o_call 10 #[(.slice a22 (r18.take n_.toNat ++ r18.drop (n_ + (1 : Int)).toNat).length c36)] rfl (x_call Tryd.call10 (by rw []; kernel_rfl)) (slices_Clip_shelf_Stack_shelf_Shelf_w (X := X35) (s := (r18.take n_.toNat ++ r18.drop (n_ + (1 : Int)).toNat)) hXo43 r40 hp) ?_)
    rintro _ w45 ⟨r44, hp, e46, ar48, rfl, hr49⟩
    have s47 := Step.of0 X35 e46
    replace hp := hp (Sl.len hr49)
    refine sq (o_pv (.slice ar48 r44.length r44.length) rfl (by kernel_rfl) ?_)
    refine sq (o_pv (.int .i64 (0 : Int)) rfl (by kernel_rfl) ?_)
    refine nil_ ?_
    refine then_normal (K15 _ _ _ _ ?_)
    refine wp_ret ?_
    have hS50 := (Sub.trans (hm41 _ ax42 (Sub.trans hS34 (Step.up s38))) (Step.up s47))
    have E51 := (Evo.then0 (Evo.thenW E33 (Step.evo s38) O26.2.2) e46)
    refine end_ret hQ (.tuple #[(.slice ar48 r44.length r44.length), (.int .i64 (0 : Int))]) (by kernel_rfl) ?_
    exact ⟨r44, (0 : Int), hp, E51, ar48, r44.length, rfl, (Sl.less hr49 hS50), (by decide : inR .i64 (0 : Int))⟩

/-- strconv.Itoa. -/
def strconv_Itoa_p (i : Int) (Q : ByteArray → Prop) : Prop := Q ⟨(Lib.itoa i).toArray⟩
theorem Evo_grow (w : World) (k : Nat) (os : Array Go.Obj) : Evo [] w (Go.Sort.grow (w.drewN k) os) := by
  refine ⟨rfl, rfl, rfl, by simp [Go.Sort.grow, World.drewN], fun b hb _ => ?_⟩
  show (w.heap ++ os)[b]? = w.heap[b]?
  exact Array.getElem?_append_left hb
theorem strconv_Itoa_w {X : List Nat} {w : World} {i : Int} {Q : ByteArray → Prop} (_hX0 : Old X w) (hi : inR .i64 i) (hgv : GV X w 0 (Lib.pow10Tab.map (Value.int .u64))) (hp : strconv_Itoa_p i Q) :
    Calls Tryd.prog 17 #[(.int .i64 i)] w (Ret fun v w' => ∃ r0 : ByteArray, Q r0 ∧ Evo [] w w' ∧ v = (.string r0) ∧ r0.size ≤ maxLen) := by
  rw [inR_i64] at hi
  refine (Tryd.strconv_Itoa i hi.1 (by omega) w (by unfold Lib.TabIs; exact GV.var (by kernel_rfl) hgv)).mono ?_
  rintro e w' ⟨rfl, k, os, rfl⟩
  refine ⟨_, rfl, _, hp, Evo_grow w k os, rfl, ?_⟩
  show (Lib.itoa i).toArray.size ≤ _
  rw [List.size_toArray]
  exact Nat.le_trans (Lib.itoa_length_le i hi.1 (by omega)) (by decide)

def strings_Builder_copyCheck_p (b : S_strings_Builder) (Q : S_strings_Builder → Prop) : Prop :=
  ((b.buf.length ≤ 9223372036854775807) → ((((!b.addr) = true) → Q (S_strings_Builder.mk true b.buf)) ∧ (((!b.addr) = false) → ((((!b.addr) = true) → False) ∧ (((!b.addr) = false) → Q b)))))
set_option maxRecDepth 20000 in
set_option maxHeartbeats 4000000 in
theorem strings_Builder_copyCheck_w {X : List Nat} {w : World} {b : S_strings_Builder} {bb1 : Nat} {Fb2 : List Nat} {Q : S_strings_Builder → Prop} (hX0 : Old X w) (mb3 : MO (o_strings_Builder bb1) 49 Fb2 w.heap.size X w Fb2 bb1 b) (hp : strings_Builder_copyCheck_p b Q) :
    Calls Tryd.prog 26 #[(.pointer (some ⟨bb1, 0, none⟩))] w (Ret fun v w' => ∃ (m0 : S_strings_Builder), Q m0 ∧ ∃ (X' : List Nat) (Fm0 : List Nat), Step X w Fb2 X' w' ∧ v = .tuple #[] ∧ MO (o_strings_Builder bb1) 49 Fb2 w.heap.size X' w' Fm0 bb1 m0) := by
  have hXo := hX0
  have E0 : Evo Fb2 w w := RB.refl _ _ _
  have hS : Sub X X := Sub.refl _
  have hN : News X w X w := News.refl _ _
  have hF0 : Sub Fb2 X := MO.mem mb3
  unfold strings_Builder_copyCheck_p at hp
  refine enter_ Tryd.func26 rfl 20 [(0, (.pointer (some ⟨bb1, 0, none⟩)))] (by kernel_rfl) (fun Qe hQ => ?_)
  refine seq_ (fun _ K4 => ?_)
  refine reg_ ?_
  refine sq (o_pv (.pointer (some ⟨bb1, 0, none⟩)) rfl (by kernel_rfl) ?_)
  refine sq (o_pv (.pointer (some ⟨bb1, 0, none⟩)) rfl (by kernel_rfl) ?_)
  obtain ⟨ao5, no6, co7, k9, Oo8, sb10, sb11, p12⟩ := o_strings_Builder_open mb3
  replace hp := hp (OS.len Oo8)
  refine sq (o_pv (.pointer (some ⟨bb1, 0, none⟩)) rfl (by kernel_rfl) ?_)
  refine sq (o_pv (cond b.addr (.pointer (some ⟨bb1, 0, none⟩)) (.pointer none)) rfl (x_load1 (by kernel_rfl) Tryd.isAgg46 (k9.2.1.cell' 0 rfl)) ?_)
  refine sq (o_pv (.bool (!b.addr)) rfl (x_self_eq (b := bb1) (d := b.addr) Tryd.underlying46 (by kernel_rfl) (by kernel_rfl)) ?_)
  refine nil_ ?_
  refine then_normal (K4 _ _ _ _ ?_)
  refine cond_b (!b.addr) (by kernel_rfl) (fun h13 => ?_) (fun h13 => ?_)
  ·
    replace hp := hp.1 h13
    refine reg_ ?_
    refine sq (o_pv (.pointer (some ⟨bb1, 0, none⟩)) rfl (by kernel_rfl) ?_)
    refine sq (o_pv (.pointer (some ⟨bb1, 0, none⟩)) rfl (by kernel_rfl) ?_)
    refine sq (o_pv (.pointer (some ⟨bb1, 0, none⟩)) rfl (x_tounsafe (j := Tryd.t49) k9.2.1 rfl Tryd.underlying46 Tryd.underlying63 (by kernel_rfl) (by kernel_rfl) (by kernel_rfl)) ?_)
    refine sq (o_pv (.pointer (some ⟨bb1, 0, none⟩)) rfl (x_ext Tryd.func30 (by kernel_rfl) (by kernel_rfl) (by kernel_rfl) (show _ = some Extern.AbiNoEscape.same by kernel_rfl) #[(.pointer (some ⟨bb1, 0, none⟩))] (by kernel_rfl) (by kernel_rfl)) ?_)
    refine sq (o_pv (.pointer (some ⟨bb1, 0, none⟩)) rfl (x_fromunsafe (j := Tryd.t49) k9.2.1 Tryd.underlying63 Tryd.underlying46 (by kernel_rfl) (by kernel_rfl) (by kernel_rfl)) ?_)
    refine sq (o_pv (.pointer (some ⟨bb1, 0, none⟩)) rfl (by kernel_rfl) ?_)
    refine sq (o_pv (.pointer (some ⟨bb1, 0, none⟩)) rfl (by kernel_rfl) ?_)
    refine sq (o_stB (o := 0) (v := (.pointer (some ⟨bb1, 0, none⟩))) [(.pointer (some ⟨bb1, 0, none⟩)), (.slice ao5 no6 co7)] rfl k9 (by kernel_rfl) (by kernel_rfl) Tryd.sizeOf46 rfl rfl rfl ?_)
    intro w14 s15 k16
    refine nil_ ?_
    have hXo17 := (Old.step hXo s15)
    have E18 := (Evo.thenW E0 (Step.evo s15) k9.2.2)
    have hS19 := (Sub.trans hS (Step.up s15))
    have hN20 := (News.step hN s15)
    have Oo21 := (OS.step Oo8 s15 (Ap.symm p12))
    obtain ⟨F22, m23, hs24⟩ := MO.pack (o_strings_Builder_mk (addrq := true) k16 Oo21 p12)
    refine end_normal hQ (.tuple #[]) (by kernel_rfl) ?_
    exact ⟨(S_strings_Builder.mk true b.buf), hp, X, F22, step_of E18 hF0 hS19 hN20, rfl, m23⟩
  ·
    replace hp := hp.2 h13
    refine seq_ (fun _ K25 => ?_)
    refine reg_ ?_
    refine sq (o_pv (.pointer (some ⟨bb1, 0, none⟩)) rfl (by kernel_rfl) ?_)
    refine sq (o_pv (.pointer (some ⟨bb1, 0, none⟩)) rfl (by kernel_rfl) ?_)
    refine sq (o_pv (.pointer (some ⟨bb1, 0, none⟩)) rfl (by kernel_rfl) ?_)
    refine sq (o_pv (cond b.addr (.pointer (some ⟨bb1, 0, none⟩)) (.pointer none)) rfl (x_load1 (by kernel_rfl) Tryd.isAgg46 (k9.2.1.cell' 0 rfl)) ?_)
    refine sq (o_pv (.pointer (some ⟨bb1, 0, none⟩)) rfl (by kernel_rfl) ?_)
    refine sq (o_pv (.bool (!b.addr)) rfl (x_self_ne (b := bb1) (d := b.addr) (j := Tryd.t49) Tryd.underlying46 (by kernel_rfl) (by kernel_rfl) (by kernel_rfl)) ?_)
    refine nil_ ?_
    refine then_normal (K25 _ _ _ _ ?_)
    refine cond_b (!b.addr) (by kernel_rfl) (fun h26 => ?_) (fun h26 => ?_)
    ·
      replace hp := hp.1 h26
      exact hp.elim
    ·
      replace hp := hp.2 h26
      refine wp_skip ?_
      obtain ⟨F27, m28, hs29⟩ := MO.pack (o_strings_Builder_mk (addrq := b.addr) k9 Oo8 p12)
      refine end_normal hQ (.tuple #[]) (by kernel_rfl) ?_
      exact ⟨b, hp, X, F27, step_of E0 hF0 hS hN, rfl, m28⟩

def strings_Builder_WriteString_p (b : S_strings_Builder) (s : ByteArray) (Q : S_strings_Builder → Int → PErr → Prop) : Prop :=
  ((s.size ≤ maxLen) → (strings_Builder_copyCheck_p b (fun (b7 : S_strings_Builder) => ((b7.buf.length ≤ 9223372036854775807) → ((b7.buf.length + s.size ≤ 140737488355328) ∧ Q (S_strings_Builder.mk b7.addr (b7.buf ++ bytesL s)) (s.size : Int) PErr.nil)))))
set_option maxRecDepth 20000 in
set_option maxHeartbeats 4000000 in
theorem strings_Builder_WriteString_w {X : List Nat} {w : World} {b : S_strings_Builder} {s : ByteArray} {bb1 : Nat} {Fb2 : List Nat} {Q : S_strings_Builder → Int → PErr → Prop} (hX0 : Old X w) (mb3 : MO (o_strings_Builder bb1) 49 Fb2 w.heap.size X w Fb2 bb1 b) (zs4 : s.size ≤ maxLen) (hp : strings_Builder_WriteString_p b s Q) :
    Calls Tryd.prog 16 #[(.pointer (some ⟨bb1, 0, none⟩)), (.string s)] w (Ret fun v w' => ∃ (m0 : S_strings_Builder) (r0 : Int) (r1 : PErr), Q m0 r0 r1 ∧ ∃ (X' : List Nat) (Fm0 : List Nat) (vq12 : Value), Step X w Fb2 X' w' ∧ v = .tuple #[(.int .i64 r0), vq12] ∧ MO (o_strings_Builder bb1) 49 Fb2 w.heap.size X' w' Fm0 bb1 m0 ∧ inR .i64 r0 ∧ (rErr 25 0 0).ok X' w' ([vq12]) r1) := by
  have hXo := hX0
  have E0 : Evo Fb2 w w := RB.refl _ _ _
  have hS : Sub X X := Sub.refl _
  have hN : News X w X w := News.refl _ _
  have hF0 : Sub Fb2 X := MO.mem mb3
  unfold strings_Builder_WriteString_p at hp
  refine enter_ Tryd.func16 rfl 19 [(0, (.pointer (some ⟨bb1, 0, none⟩))), (1, (.string s))] (by kernel_rfl) (fun Qe hQ => ?_)
  replace hp := hp zs4
  refine seq_ (fun _ K5 => ?_)
  refine reg_ ?_
  refine sq (o_pv (.int .i64 (0 : Int)) rfl (by kernel_rfl) ?_)
  refine sq (o_pv .nilIface rfl (by kernel_rfl) ?_)
  refine nil_ ?_
  refine then_normal (K5 _ _ _ _ ?_)
  refine seq_ (fun _ K6 => ?_)
  refine reg_ ?_
  refine sq (o_pv (.pointer (some ⟨bb1, 0, none⟩)) rfl (by kernel_rfl) ?_)
  refine sq (o_call 26 #[(.pointer (some ⟨bb1, 0, none⟩))] rfl (x_call Tryd.call26 (by kernel_rfl)) (strings_Builder_copyCheck_w (X := X) (b := b) hXo (MO.re mb3 (Wr.self _ _ (Sub.refl _))) hp) ?_)
  rintro _ w8 ⟨b7, hp, X9, F11, s10, rfl, m12⟩
  have m13 := MO.re m12 (Wr.trans m12.wr mb3.wr E0.size)
  refine nil_ ?_
  refine then_normal (K6 _ _ _ _ ?_)
  refine seq_ (fun _ K14 => ?_)
  refine reg_ ?_
  refine sq (o_pv (.pointer (some ⟨bb1, 0, none⟩)) rfl (by kernel_rfl) ?_)
  refine sq (o_pv (.pointer (some ⟨bb1, 0, none⟩)) rfl (by kernel_rfl) ?_)
  refine sq (o_pv (.pointer (some ⟨bb1, 0, none⟩)) rfl (by kernel_rfl) ?_)
  obtain ⟨ao15, no16, co17, k19, Oo18, sb20, sb21, p22⟩ := o_strings_Builder_open m13
  replace hp := hp (OS.len Oo18)
  refine sq (o_pv (.pointer (some ⟨bb1, 1, none⟩)) rfl (by kernel_rfl) ?_)
  refine sq (o_pv (.slice ao15 no16 co17) rfl (x_load1 (by kernel_rfl) Tryd.isAgg47 (k19.2.1.cell' 1 rfl)) ?_)
  refine sq (o_pv (.string s) rfl (by kernel_rfl) ?_)
  obtain ⟨h23, hp⟩ := hp
  have E24 := (Evo.thenW E0 (Step.evo s10) mb3.wr)
  refine sq (o_appS (X := X9) (B := w.heap.size) (L := b7.buf) (sv := s) rfl Tryd.underlying47 Tryd.underlying9 (by kernel_rfl) E24.size Oo18 (by kernel_rfl) (by kernel_rfl) h23 ?_)
  intro a25 n26 c27 w28 X29 s30 O31 gr32
  have p33 := gr32 _ p22 (OB.old k19)
  refine sq (o_pv (.pointer (some ⟨bb1, 0, none⟩)) rfl (by kernel_rfl) ?_)
  refine sq (o_pv (.pointer (some ⟨bb1, 1, none⟩)) rfl (by kernel_rfl) ?_)
  have k34 := (OB.step k19 s30 p22)
  have E35 := (Evo.thenW E24 (Step.evo s30) Oo18.2.2)
  refine sq (o_stB (o := 1) (v := (.slice a25 n26 c27)) [(cond b7.addr (.pointer (some ⟨bb1, 0, none⟩)) (.pointer none)), (.slice a25 n26 c27)] rfl k34 (by kernel_rfl) (by kernel_rfl) Tryd.sizeOf47 rfl rfl rfl ?_)
  intro w36 s37 k38
  refine nil_ ?_
  refine then_normal (K14 _ _ _ _ ?_)
  refine seq_ (fun _ K39 => ?_)
  refine reg_ ?_
  refine sq (o_pv (.string s) rfl (by kernel_rfl) ?_)
  refine sq (o_pv (.int .i64 (s.size : Int)) rfl (by kernel_rfl) ?_)
  refine sq (o_pv (.int .i64 (s.size : Int)) rfl (by kernel_rfl) ?_)
  refine sq (o_pv .nilIface rfl (by kernel_rfl) ?_)
  refine nil_ ?_
  refine then_normal (K39 _ _ _ _ ?_)
  refine wp_ret ?_
  have hXo40 := (Old.step (Old.step (Old.step hXo s10) s30) s37)
  have E41 := (Evo.thenW E35 (Step.evo s37) k34.2.2)
  have hS42 := (Sub.trans (Sub.trans (Sub.trans hS (Step.up s10)) (Step.up s30)) (Step.up s37))
  have hN43 := (News.step (News.step (News.step hN s10) s30) s37)
  have O44 := (OS.step O31 s37 (Ap.symm p33))
  obtain ⟨F45, m46, hs47⟩ := MO.pack (o_strings_Builder_mk (addrq := b7.addr) k38 O44 p33)
  refine end_ret hQ (.tuple #[(.int .i64 (s.size : Int)), .nilIface]) (by kernel_rfl) ?_
  exact ⟨(S_strings_Builder.mk b7.addr (b7.buf ++ bytesL s)), (s.size : Int), PErr.nil, hp, X29, F45, .nilIface, step_of E41 hF0 hS42 hN43, rfl, m46, (inR_size zs4), rErr_nil⟩

def strings_Builder_String_p (b : S_strings_Builder) (Q : ByteArray → Prop) : Prop :=
  ((b.buf.length ≤ 9223372036854775807) → Q (strOfNums b.buf))
set_option maxRecDepth 20000 in
set_option maxHeartbeats 4000000 in
theorem strings_Builder_String_w {X : List Nat} {w : World} {b : S_strings_Builder} {bb1 : Nat} {Fb2 : List Nat} {Q : ByteArray → Prop} (hX0 : Old X w) (mb3 : MO (o_strings_Builder bb1) 49 Fb2 w.heap.size X w Fb2 bb1 b) (hp : strings_Builder_String_p b Q) :
    Calls Tryd.prog 18 #[(.pointer (some ⟨bb1, 0, none⟩))] w (Ret fun v w' => ∃ (r0 : ByteArray), Q r0 ∧ ∃ (X' : List Nat), Step X w Fb2 X' w' ∧ v = (.string r0) ∧ r0.size ≤ maxLen) := by
  have hXo := hX0
  have E0 : Evo Fb2 w w := RB.refl _ _ _
  have hS : Sub X X := Sub.refl _
  have hN : News X w X w := News.refl _ _
  have hF0 : Sub Fb2 X := MO.mem mb3
  unfold strings_Builder_String_p at hp
  refine enter_ Tryd.func18 rfl 14 [(0, (.pointer (some ⟨bb1, 0, none⟩)))] (by kernel_rfl) (fun Qe hQ => ?_)
  refine seq_ (fun _ K4 => ?_)
  refine reg_ ?_
  refine sq (o_pv (.string (ByteArray.mk #[])) rfl (by kernel_rfl) ?_)
  refine nil_ ?_
  refine then_normal (K4 _ _ _ _ ?_)
  refine seq_ (fun _ K5 => ?_)
  obtain ⟨ao6, no7, co8, k10, Oo9, sb11, sb12, p13⟩ := o_strings_Builder_open mb3
  replace hp := hp (OS.len Oo9)
  refine reg_drawn (RB w.heap.size []) 10 (by kernel_rfl) (fun w14 hd15 => ?_)
  have e16 := Evo.of_drew hd15
  have z17 : w14.heap.size = w.heap.size := by rw [hd15]
  clear hd15
  have s19 := Step.of0 X e16
  have er18 := RB.refl w.heap.size [] w14
  have hXo20 := (Old.step hXo s19)
  have E21 := (Evo.then0 E0 (Step.evo s19))
  have hS22 := (Sub.trans hS (Step.up s19))
  have hN23 := (News.step hN s19)
  have k24 := (OB.step0 k10 s19)
  have Oo25 := (OS.step0 Oo9 s19)
  refine r_take 0 (.pointer (some ⟨bb1, 0, none⟩)) (RB.pre _ _) rfl (by kernel_rfl) (fun _ _ _ h => hQ.panic _ _ _ _ _ h) (.inl ⟨rfl, fun wq hq => (by kernel_rfl)⟩) ?_
  refine r_take 1 (.pointer (some ⟨bb1, 0, none⟩)) (RB.pre _ _) rfl (by kernel_rfl) (fun _ _ _ h => hQ.panic _ _ _ _ _ h) (.inl ⟨rfl, fun wq hq => (by kernel_rfl)⟩) ?_
  refine r_take 2 (.pointer (some ⟨bb1, 1, none⟩)) (RB.pre _ _) rfl (by kernel_rfl) (fun _ _ _ h => hQ.panic _ _ _ _ _ h) (.inl ⟨rfl, fun wq hq => (by kernel_rfl)⟩) ?_
  refine r_take 3 (.slice ao6 no7 co8) (RB.pre _ _) rfl (by kernel_rfl) (fun _ _ _ h => hQ.panic _ _ _ _ _ h) (.inl ⟨rfl, fun wq hq => (x_load1 (by kernel_rfl) Tryd.isAgg47 ((Blk.rb k24.2.1 (RB.trans er18 hq) (Nat.lt_of_lt_of_eq (Blk.lt k24.2.1) z17) (fun h => by cases h)).cell' 1 rfl))⟩) ?_
  refine r_take 5 (.pointer (some ⟨bb1, 0, none⟩)) (RB.pre _ _) rfl (by kernel_rfl) (fun _ _ _ h => hQ.panic _ _ _ _ _ h) (.inl ⟨rfl, fun wq hq => (by kernel_rfl)⟩) ?_
  refine r_take 6 (.pointer (some ⟨bb1, 0, none⟩)) (RB.pre _ _) rfl (by kernel_rfl) (fun _ _ _ h => hQ.panic _ _ _ _ _ h) (.inl ⟨rfl, fun wq hq => (by kernel_rfl)⟩) ?_
  refine r_take 7 (.pointer (some ⟨bb1, 1, none⟩)) (RB.pre _ _) rfl (by kernel_rfl) (fun _ _ _ h => hQ.panic _ _ _ _ _ h) (.inl ⟨rfl, fun wq hq => (by kernel_rfl)⟩) ?_
  refine r_take 8 (.slice ao6 no7 co8) (RB.pre _ _) rfl (by kernel_rfl) (fun _ _ _ h => hQ.panic _ _ _ _ _ h) (.inl ⟨rfl, fun wq hq => (x_load1 (by kernel_rfl) Tryd.isAgg47 ((Blk.rb k24.2.1 (RB.trans er18 hq) (Nat.lt_of_lt_of_eq (Blk.lt k24.2.1) z17) (fun h => by cases h)).cell' 1 rfl))⟩) ?_
  refine r_take 9 (.int .i64 (b.buf.length : Int)) (RB.pre _ _) rfl (by kernel_rfl) (fun _ _ _ h => hQ.panic _ _ _ _ _ h) (.inl ⟨rfl, fun wq hq => (by rw [← show no7 = b.buf.length from Oo25.1]; kernel_rfl)⟩) ?_
  refine r_ready [4] (by kernel_rfl) rfl (all_cons ⟨_, _, _, _, _, _, rfl, ?_⟩ all_nil)
  refine o_sdata (X := X) rfl Tryd.underlying61 Oo25 (by kernel_rfl) ?_
  intro p26 w27 s28 hd29
  have rm := RB.mono (F' := []) (Step.evo s28) (Nat.le_trans (Nat.le_of_eq z17.symm) (RB.size er18)) (fun _ h => by cases h)
  have er30 := RB.trans er18 rm
  refine ⟨fun _ => rm, ?_⟩
  refine r_ready [10] (by kernel_rfl) rfl (all_cons ⟨_, _, _, _, _, _, rfl, ?_⟩ all_nil)
  have k31 := (OB.step0 k24 s28)
  have Oo32 := (OS.step0 Oo25 s28)
  have hl35 := OS.len Oo32
  refine o_ustr (X := X) (L := b.buf) rfl Tryd.underlying61 (by kernel_rfl) Oo32 hd29 (by kernel_rfl) (by kernel_rfl) ?_
  intro w33 s34
  refine ⟨fun h => absurd h (by decide), ?_⟩
  refine r_ready [11] (by kernel_rfl) rfl (all_cons ⟨_, _, _, _, _, _, rfl, ?_⟩ all_nil)
  refine o_pv (.string (strOfNums b.buf)) rfl (by kernel_rfl) ?_
  refine ⟨fun h => absurd h (by decide), ?_⟩
  refine r_done (by kernel_rfl) ?_
  refine then_normal (K5 _ _ _ _ ?_)
  refine wp_ret ?_
  have hXo36 := (Old.step (Old.step hXo20 s28) s34)
  have E37 := (Evo.thenW (Evo.then0 E21 (Step.evo s28)) (Step.evo s34) Oo32.2.2)
  have hS38 := (Sub.trans (Sub.trans hS22 (Step.up s28)) (Step.up s34))
  have hN39 := (News.step (News.step hN23 s28) s34)
  have k40 := (OB.step k31 s34 p13)
  refine end_ret hQ (.string (strOfNums b.buf)) (by kernel_rfl) ?_
  exact ⟨(strOfNums b.buf), hp, X, step_of E37 hF0 hS38 hN39, rfl, (strOfNums_le hl35)⟩

end Go.Proofs.YtoankcdcnhooiaaDoor
