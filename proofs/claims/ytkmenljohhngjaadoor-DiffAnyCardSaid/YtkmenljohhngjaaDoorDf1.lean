/- Walks of functions: what each asks and computes, as a plain predicate, and the contract from it. -/
import Derived.Test.YtkmenljohhngjaaDoorChecked
import Derived.Test.YtkmenljohhngjaaDoorStEq
namespace Go.Proofs.YtkmenljohhngjaaDoor
open Go
structure S_diff_Edit where
  Op : Int
  Line : ByteArray
instance : Inhabited S_diff_Edit := ⟨⟨default, default⟩⟩
def r_diff_Edit : Rep S_diff_Edit := rMap (fun d => (d.Op, d.Line)) (rPair (rInt .i64) rStr)
theorem r_diff_Edit_open {X : List Nat} {w : World} {cs : List Value} {d : S_diff_Edit} (h : r_diff_Edit.ok X w cs d) : cs = [.int .i64 d.Op, .string d.Line] ∧ inR .i64 d.Op ∧ d.Line.size ≤ maxLen := by
  obtain ⟨c3, t4, rfl, ⟨rfl, h1⟩, ⟨rfl, h2⟩⟩ := h
  exact ⟨rfl, h1, h2⟩
theorem r_diff_Edit_mk {X : List Nat} {w : World} {Opq : Int} {Lineq : ByteArray} (h1 : inR .i64 Opq) (h2 : Lineq.size ≤ maxLen) : r_diff_Edit.ok X w [.int .i64 Opq, .string Lineq] ⟨Opq, Lineq⟩ :=
  (rMap_mk _ (rPair_mk (rInt_mk h1) (rStr_mk h2)))
structure S_diff_table where
  a : (List ByteArray)
  b : (List ByteArray)
  n : (List Int)
instance : Inhabited S_diff_table := ⟨⟨default, default, default⟩⟩
def r_diff_table : Rep S_diff_table := rMap (fun d => (d.a, (d.b, d.n))) (rPair (rSl rStr) (rPair (rSl rStr) (rSl (rInt .i64))))
theorem r_diff_table_open {X : List Nat} {w : World} {cs : List Value} {d : S_diff_table} (h : r_diff_table.ok X w cs d) : ∃ (a1 : Option Addr) (c2 : Nat) (a4 : Option Addr) (c5 : Nat) (a7 : Option Addr) (c8 : Nat), cs = [.slice a1 d.a.length c2, .slice a4 d.b.length c5, .slice a7 d.n.length c8] ∧ Sl rStr X w a1 c2 d.a ∧ Sl rStr X w a4 c5 d.b ∧ Sl (rInt .i64) X w a7 c8 d.n := by
  obtain ⟨c12, t13, rfl, ⟨a1, c2, rfl, h3⟩, ⟨c10, t11, rfl, ⟨a4, c5, rfl, h6⟩, ⟨a7, c8, rfl, h9⟩⟩⟩ := h
  exact ⟨a1, c2, a4, c5, a7, c8, rfl, h3, h6, h9⟩
theorem r_diff_table_mk {X : List Nat} {w : World} {aq : (List ByteArray)} {bq : (List ByteArray)} {n_q : (List Int)} {a1 : Option Addr} {c2 : Nat} {m4 : Nat} {a5 : Option Addr} {c6 : Nat} {m8 : Nat} {a9 : Option Addr} {c10 : Nat} {m12 : Nat} (h3 : Sl rStr X w a1 c2 aq) (h3n : m4 = aq.length) (h7 : Sl rStr X w a5 c6 bq) (h7n : m8 = bq.length) (h11 : Sl (rInt .i64) X w a9 c10 n_q) (h11n : m12 = n_q.length) : r_diff_table.ok X w [.slice a1 m4 c2, .slice a5 m8 c6, .slice a9 m12 c10] ⟨aq, bq, n_q⟩ :=
  (rMap_mk _ (rPair_mk (rSl_mk' h3 h3n) (rPair_mk (rSl_mk' h7 h7n) (rSl_mk' h11 h11n))))
structure S_diff_Match where
  A : Int
  B : Int
  N : Int
instance : Inhabited S_diff_Match := ⟨⟨default, default, default⟩⟩
def r_diff_Match : Rep S_diff_Match := rMap (fun d => (d.A, (d.B, d.N))) (rPair (rInt .i64) (rPair (rInt .i64) (rInt .i64)))
theorem r_diff_Match_open {X : List Nat} {w : World} {cs : List Value} {d : S_diff_Match} (h : r_diff_Match.ok X w cs d) : cs = [.int .i64 d.A, .int .i64 d.B, .int .i64 d.N] ∧ inR .i64 d.A ∧ inR .i64 d.B ∧ inR .i64 d.N := by
  obtain ⟨c6, t7, rfl, ⟨rfl, h1⟩, ⟨c4, t5, rfl, ⟨rfl, h2⟩, ⟨rfl, h3⟩⟩⟩ := h
  exact ⟨rfl, h1, h2, h3⟩
theorem r_diff_Match_mk {X : List Nat} {w : World} {Aq : Int} {Bq : Int} {Nq : Int} (h1 : inR .i64 Aq) (h2 : inR .i64 Bq) (h3 : inR .i64 Nq) : r_diff_Match.ok X w [.int .i64 Aq, .int .i64 Bq, .int .i64 Nq] ⟨Aq, Bq, Nq⟩ :=
  (rMap_mk _ (rPair_mk (rInt_mk h1) (rPair_mk (rInt_mk h2) (rInt_mk h3))))
structure S_rectoref11_Edit where
  Op : Int
  Line : ByteArray
instance : Inhabited S_rectoref11_Edit := ⟨⟨default, default⟩⟩
def r_rectoref11_Edit : Rep S_rectoref11_Edit := rMap (fun d => (d.Op, d.Line)) (rPair (rInt .i64) rStr)
theorem r_rectoref11_Edit_open {X : List Nat} {w : World} {cs : List Value} {d : S_rectoref11_Edit} (h : r_rectoref11_Edit.ok X w cs d) : cs = [.int .i64 d.Op, .string d.Line] ∧ inR .i64 d.Op ∧ d.Line.size ≤ maxLen := by
  obtain ⟨c3, t4, rfl, ⟨rfl, h1⟩, ⟨rfl, h2⟩⟩ := h
  exact ⟨rfl, h1, h2⟩
theorem r_rectoref11_Edit_mk {X : List Nat} {w : World} {Opq : Int} {Lineq : ByteArray} (h1 : inR .i64 Opq) (h2 : Lineq.size ≤ maxLen) : r_rectoref11_Edit.ok X w [.int .i64 Opq, .string Lineq] ⟨Opq, Lineq⟩ :=
  (rMap_mk _ (rPair_mk (rInt_mk h1) (rStr_mk h2)))
structure S_rectoref3_Part where
  Word : ByteArray
  At : Int
instance : Inhabited S_rectoref3_Part := ⟨⟨default, default⟩⟩
def r_rectoref3_Part : Rep S_rectoref3_Part := rMap (fun d => (d.Word, d.At)) (rPair rStr (rInt .i64))
theorem r_rectoref3_Part_open {X : List Nat} {w : World} {cs : List Value} {d : S_rectoref3_Part} (h : r_rectoref3_Part.ok X w cs d) : cs = [.string d.Word, .int .i64 d.At] ∧ d.Word.size ≤ maxLen ∧ inR .i64 d.At := by
  obtain ⟨c3, t4, rfl, ⟨rfl, h1⟩, ⟨rfl, h2⟩⟩ := h
  exact ⟨rfl, h1, h2⟩
theorem r_rectoref3_Part_mk {X : List Nat} {w : World} {Wordq : ByteArray} {Atq : Int} (h1 : Wordq.size ≤ maxLen) (h2 : inR .i64 Atq) : r_rectoref3_Part.ok X w [.string Wordq, .int .i64 Atq] ⟨Wordq, Atq⟩ :=
  (rMap_mk _ (rPair_mk (rStr_mk h1) (rInt_mk h2)))
structure S_rectoref3_Wrong where
  Parts : (List S_rectoref3_Part)
  Err : Int
instance : Inhabited S_rectoref3_Wrong := ⟨⟨default, default⟩⟩
def r_rectoref3_Wrong : Rep S_rectoref3_Wrong := rMap (fun d => (d.Parts, d.Err)) (rPair (rSl r_rectoref3_Part) (rInt .i64))
theorem r_rectoref3_Wrong_open {X : List Nat} {w : World} {cs : List Value} {d : S_rectoref3_Wrong} (h : r_rectoref3_Wrong.ok X w cs d) : ∃ (a1 : Option Addr) (c2 : Nat), cs = [.slice a1 d.Parts.length c2, .int .i64 d.Err] ∧ Sl r_rectoref3_Part X w a1 c2 d.Parts ∧ inR .i64 d.Err := by
  obtain ⟨c5, t6, rfl, ⟨a1, c2, rfl, h3⟩, ⟨rfl, h4⟩⟩ := h
  exact ⟨a1, c2, rfl, h3, h4⟩
theorem r_rectoref3_Wrong_mk {X : List Nat} {w : World} {Partsq : (List S_rectoref3_Part)} {Errq : Int} {a1 : Option Addr} {c2 : Nat} {m4 : Nat} (h3 : Sl r_rectoref3_Part X w a1 c2 Partsq) (h3n : m4 = Partsq.length) (h5 : inR .i64 Errq) : r_rectoref3_Wrong.ok X w [.slice a1 m4 c2, .int .i64 Errq] ⟨Partsq, Errq⟩ :=
  (rMap_mk _ (rPair_mk (rSl_mk' h3 h3n) (rInt_mk h5)))
structure S_api_Fault where
  Part : ByteArray
  At : Int
  Err : PErr
instance : Inhabited S_api_Fault := ⟨⟨default, default, default⟩⟩
def r_api_Fault : Rep S_api_Fault := rMap (fun d => (d.Part, (d.At, d.Err))) (rPair rStr (rPair (rInt .i64) (rOne (rErr 63 122 124))))
theorem r_api_Fault_open {X : List Nat} {w : World} {cs : List Value} {d : S_api_Fault} (h : r_api_Fault.ok X w cs d) : ∃ (v3 : Value), cs = [.string d.Part, .int .i64 d.At, v3] ∧ d.Part.size ≤ maxLen ∧ inR .i64 d.At ∧ (rErr 63 122 124).ok X w [v3] d.Err := by
  obtain ⟨c7, t8, rfl, ⟨rfl, h1⟩, ⟨c5, t6, rfl, ⟨rfl, h2⟩, ⟨v3, rfl, h4⟩⟩⟩ := h
  exact ⟨v3, rfl, h1, h2, h4⟩
theorem r_api_Fault_mk {X : List Nat} {w : World} {Partq : ByteArray} {Atq : Int} {Errq : PErr} {v3 : Value} (h1 : Partq.size ≤ maxLen) (h2 : inR .i64 Atq) (h4 : (rErr 63 122 124).ok X w [v3] Errq) : r_api_Fault.ok X w [.string Partq, .int .i64 Atq, v3] ⟨Partq, Atq, Errq⟩ :=
  (rMap_mk _ (rPair_mk (rStr_mk h1) (rPair_mk (rInt_mk h2) (rOne_mk h4))))
structure S_cellFault where
  v : (Option S_api_Fault)
instance : Inhabited S_cellFault := ⟨⟨default⟩⟩
def o_cellFault : Obj S_cellFault := oMap (fun d => d.v) (oRd (rOne (rPtrO r_api_Fault 124)))
theorem o_cellFault_open {X F G : List Nat} {w : World} {B b : Nat} {d : S_cellFault} (h : MO o_cellFault 122 G B X w F b d) : ∃ (v1 : Value), OB G B X w b [v1] 122 ∧ (rPtrO r_api_Fault 124).ok X w [v1] d.v ∧ Sub [b] F := by
  obtain ⟨⟨cs, F1, rfl, hb, hn, hk, hO⟩, hw⟩ := h
  obtain ⟨rfl, ⟨v1, rfl, h2⟩⟩ := hO
  exact ⟨v1, ⟨hb, hk, hw.sub (Sub.hd _ _)⟩, h2, Sub.hd _ _⟩
theorem o_cellFault_mk {X G : List Nat} {w : World} {B b : Nat} {vq : (Option S_api_Fault)} {v1 : Value} (hb : OB G B X w b [v1] 122) (h2 : (rPtrO r_api_Fault 124).ok X w [v1] vq)  : MO o_cellFault 122 G B X w (b :: ([])) b ⟨vq⟩ :=
  MO.mk (O := o_cellFault) hb (Ap.nil_r _) (show o_cellFault.ok _ X w _ _ from (oRd_mk (rOne_mk h2))) (Wr.nil _ _)
structure S_rectoref11_Match where
  A : Int
  B : Int
  N : Int
instance : Inhabited S_rectoref11_Match := ⟨⟨default, default, default⟩⟩
def r_rectoref11_Match : Rep S_rectoref11_Match := rMap (fun d => (d.A, (d.B, d.N))) (rPair (rInt .i64) (rPair (rInt .i64) (rInt .i64)))
theorem r_rectoref11_Match_open {X : List Nat} {w : World} {cs : List Value} {d : S_rectoref11_Match} (h : r_rectoref11_Match.ok X w cs d) : cs = [.int .i64 d.A, .int .i64 d.B, .int .i64 d.N] ∧ inR .i64 d.A ∧ inR .i64 d.B ∧ inR .i64 d.N := by
  obtain ⟨c6, t7, rfl, ⟨rfl, h1⟩, ⟨c4, t5, rfl, ⟨rfl, h2⟩, ⟨rfl, h3⟩⟩⟩ := h
  exact ⟨rfl, h1, h2, h3⟩
theorem r_rectoref11_Match_mk {X : List Nat} {w : World} {Aq : Int} {Bq : Int} {Nq : Int} (h1 : inR .i64 Aq) (h2 : inR .i64 Bq) (h3 : inR .i64 Nq) : r_rectoref11_Match.ok X w [.int .i64 Aq, .int .i64 Bq, .int .i64 Nq] ⟨Aq, Bq, Nq⟩ :=
  (rMap_mk _ (rPair_mk (rInt_mk h1) (rPair_mk (rInt_mk h2) (rInt_mk h3))))
theorem elT33 : ElemT Tryd.prog 33 100 2 24 := elemT_mk (i := Tryd.t100) (z := (.agg #[(.int .i64 0), (.string (ByteArray.mk #[]))])) (by kernel_rfl) (by kernel_rfl) (by kernel_rfl) (by kernel_rfl) Tryd.underlying33 Tryd.sizeOf100 (by decide) (by decide)
def diff_table_at_p (t : S_diff_table) (i : Int) (j : Int) (Q : Int → Prop) : Prop :=
  ((t.a.length ≤ 9223372036854775807) → ((t.b.length ≤ 9223372036854775807) → ((t.n.length ≤ 9223372036854775807) → ((inR .i64 i) → ((inR .i64 j) → ((inR .i64 ((t.b.length : Int) + (1 : Int))) ∧ ((inR .i64 (i * ((t.b.length : Int) + (1 : Int)))) ∧ ((inR .i64 ((i * ((t.b.length : Int) + (1 : Int))) + j)) ∧ ((inL t.n ((i * ((t.b.length : Int) + (1 : Int))) + j)) ∧ ((inR .i64 (lget t.n ((i * ((t.b.length : Int) + (1 : Int))) + j))) → Q (lget t.n ((i * ((t.b.length : Int) + (1 : Int))) + j))))))))))))
set_option maxRecDepth 20000 in
set_option maxHeartbeats 4000000 in
theorem diff_table_at_w {X : List Nat} {w : World} {t : S_diff_table} {i : Int} {j : Int} {bt1 : Nat} {ata3 : Option Addr} {cta4 : Nat} {atb6 : Option Addr} {ctb7 : Nat} {atn9 : Option Addr} {ctn10 : Nat} {Q : Int → Prop} (hX0 : Old X w) (kt2 : RO X w bt1 [(.slice ata3 t.a.length cta4), (.slice atb6 t.b.length ctb7), (.slice atn9 t.n.length ctn10)] 177) (hta5 : Sl rStr X w ata3 cta4 t.a) (htb8 : Sl rStr X w atb6 ctb7 t.b) (htn11 : Sl (rInt .i64) X w atn9 ctn10 t.n) (ri12 : inR .i64 i) (rj13 : inR .i64 j) (hp : diff_table_at_p t i j Q) :
    Calls Tryd.prog 81 #[(.pointer (some ⟨bt1, 0, none⟩)), (.int .i64 i), (.int .i64 j)] w (Ret fun v w' => ∃ (r0 : Int), Q r0 ∧ Evo [] w w' ∧ v = (.int .i64 r0) ∧ inR .i64 r0) := by
  have hXo := hX0
  have E0 : Evo [] w w := RB.refl _ _ _
  have hS : Sub X X := Sub.refl _
  unfold diff_table_at_p at hp
  refine enter_ Tryd.func81 rfl 23 [(0, (.pointer (some ⟨bt1, 0, none⟩))), (1, (.int .i64 i)), (2, (.int .i64 j))] (by kernel_rfl) (fun Qe hQ => ?_)
  replace hp := hp (Sl.len hta5)
  replace hp := hp (Sl.len htb8)
  replace hp := hp (Sl.len htn11)
  replace hp := hp ri12
  replace hp := hp rj13
  refine seq_ (fun _ K14 => ?_)
  refine reg_ ?_
  refine sq (o_pv (.int .i64 (0 : Int)) rfl (by kernel_rfl) ?_)
  refine nil_ ?_
  refine then_normal (K14 _ _ _ _ ?_)
  refine seq_ (fun _ K15 => ?_)
  refine reg_drawn (RB w.heap.size []) 16 (by kernel_rfl) (fun w16 hd17 => ?_)
  have e18 := Evo.of_drew hd17
  have z19 : w16.heap.size = w.heap.size := by rw [hd17]
  clear hd17
  have s21 := Step.of0 X e18
  have er20 := RB.refl w.heap.size [] w16
  have kt22 := (RO.step kt2 s21)
  have hta23 := (Sl.step hta5 s21)
  have htb24 := (Sl.step htb8 s21)
  have htn25 := (Sl.step htn11 s21)
  have hXo26 := (Old.step hXo s21)
  have E27 := (Evo.then0 E0 (Step.evo s21))
  have hS28 := (Sub.trans hS (Step.up s21))
  refine r_take 0 (.pointer (some ⟨bt1, 0, none⟩)) (RB.pre _ _) rfl (by kernel_rfl) (fun _ _ _ h => hQ.panic _ _ _ _ _ h) (.inl ⟨rfl, fun wq hq => (by kernel_rfl)⟩) ?_
  refine r_take 1 (.pointer (some ⟨bt1, 0, none⟩)) (RB.pre _ _) rfl (by kernel_rfl) (fun _ _ _ h => hQ.panic _ _ _ _ _ h) (.inl ⟨rfl, fun wq hq => (by kernel_rfl)⟩) ?_
  refine r_take 2 (.pointer (some ⟨bt1, 2, none⟩)) (RB.pre _ _) rfl (by kernel_rfl) (fun _ _ _ h => hQ.panic _ _ _ _ _ h) (.inl ⟨rfl, fun wq hq => (by kernel_rfl)⟩) ?_
  refine r_take 3 (.slice atn9 t.n.length ctn10) (RB.pre _ _) rfl (by kernel_rfl) (fun _ _ _ h => hQ.panic _ _ _ _ _ h) (.inl ⟨rfl, fun wq hq => (x_load1 (by kernel_rfl) Tryd.isAgg106 ((Blk.rb kt22.2 (RB.trans er20 hq) (Nat.lt_of_lt_of_eq (Blk.lt kt22.2) z19) (fun h => by cases h)).cell' 2 rfl))⟩) ?_
  refine r_take 4 (.int .i64 i) (RB.pre _ _) rfl (by kernel_rfl) (fun _ _ _ h => hQ.panic _ _ _ _ _ h) (.inl ⟨rfl, fun wq hq => (by kernel_rfl)⟩) ?_
  refine r_take 5 (.pointer (some ⟨bt1, 0, none⟩)) (RB.pre _ _) rfl (by kernel_rfl) (fun _ _ _ h => hQ.panic _ _ _ _ _ h) (.inl ⟨rfl, fun wq hq => (by kernel_rfl)⟩) ?_
  refine r_take 6 (.pointer (some ⟨bt1, 0, none⟩)) (RB.pre _ _) rfl (by kernel_rfl) (fun _ _ _ h => hQ.panic _ _ _ _ _ h) (.inl ⟨rfl, fun wq hq => (by kernel_rfl)⟩) ?_
  refine r_take 7 (.pointer (some ⟨bt1, 1, none⟩)) (RB.pre _ _) rfl (by kernel_rfl) (fun _ _ _ h => hQ.panic _ _ _ _ _ h) (.inl ⟨rfl, fun wq hq => (by kernel_rfl)⟩) ?_
  refine r_take 8 (.slice atb6 t.b.length ctb7) (RB.pre _ _) rfl (by kernel_rfl) (fun _ _ _ h => hQ.panic _ _ _ _ _ h) (.inl ⟨rfl, fun wq hq => (x_load1 (by kernel_rfl) Tryd.isAgg22 ((Blk.rb kt22.2 (RB.trans er20 hq) (Nat.lt_of_lt_of_eq (Blk.lt kt22.2) z19) (fun h => by cases h)).cell' 1 rfl))⟩) ?_
  refine r_take 9 (.int .i64 (t.b.length : Int)) (RB.pre _ _) rfl (by kernel_rfl) (fun _ _ _ h => hQ.panic _ _ _ _ _ h) (.inl ⟨rfl, fun wq hq => (by kernel_rfl)⟩) ?_
  obtain ⟨h29, hp⟩ := hp
  refine r_take 10 (.int .i64 ((t.b.length : Int) + (1 : Int))) (RB.pre _ _) rfl (by kernel_rfl) (fun _ _ _ h => hQ.panic _ _ _ _ _ h) (.inl ⟨rfl, fun wq hq => (x_add2 (k := .i64) (a := (t.b.length : Int)) (b := (1 : Int)) ((t.b.length : Int) + (1 : Int)) (by kernel_rfl) (by kernel_rfl) (wrap_inR h29))⟩) ?_
  obtain ⟨h30, hp⟩ := hp
  refine r_take 11 (.int .i64 (i * ((t.b.length : Int) + (1 : Int)))) (RB.pre _ _) rfl (by kernel_rfl) (fun _ _ _ h => hQ.panic _ _ _ _ _ h) (.inl ⟨rfl, fun wq hq => (x_mul2 (k := .i64) (a := i) (b := (t.b.length : Int) + (1 : Int)) (i * ((t.b.length : Int) + (1 : Int))) (by kernel_rfl) (by kernel_rfl) (wrap_inR h30))⟩) ?_
  refine r_take 12 (.int .i64 j) (RB.pre _ _) rfl (by kernel_rfl) (fun _ _ _ h => hQ.panic _ _ _ _ _ h) (.inl ⟨rfl, fun wq hq => (by kernel_rfl)⟩) ?_
  obtain ⟨h31, hp⟩ := hp
  refine r_take 13 (.int .i64 ((i * ((t.b.length : Int) + (1 : Int))) + j)) (RB.pre _ _) rfl (by kernel_rfl) (fun _ _ _ h => hQ.panic _ _ _ _ _ h) (.inl ⟨rfl, fun wq hq => (x_add2 (k := .i64) (a := i * ((t.b.length : Int) + (1 : Int))) (b := j) ((i * ((t.b.length : Int) + (1 : Int))) + j) (by kernel_rfl) (by kernel_rfl) (wrap_inR h31))⟩) ?_
  obtain ⟨h32, hp⟩ := hp
  obtain ⟨b33, o34, cs35, ha36, nx37, lt38, ok39, hc40⟩ := Sl.atI htn25 ((i * ((t.b.length : Int) + (1 : Int))) + j) h32
  obtain ⟨rfl, re41⟩ := ok39
  replace hp := hp re41
  refine r_take 14 (.pointer (some ⟨b33, o34 + ((i * ((t.b.length : Int) + (1 : Int))) + j).toNat * 1, none⟩)) (RB.pre _ _) rfl (by kernel_rfl) (fun _ _ _ h => hQ.panic _ _ _ _ _ h) (.inl ⟨rfl, fun wq hq => (x_ixA (m := t.n.length) (c := ctn10) (k := .i64) (i := (i * ((t.b.length : Int) + (1 : Int))) + j) Tryd.underlying106 Tryd.sizeOf3 (by rw [← ha36]; kernel_rfl) (by kernel_rfl) h32)⟩) ?_
  refine r_take 15 (.int .i64 (lget t.n ((i * ((t.b.length : Int) + (1 : Int))) + j))) (RB.pre _ _) rfl (by kernel_rfl) (fun _ _ _ h => hQ.panic _ _ _ _ _ h) (.inl ⟨rfl, fun wq hq => (x_load1 (by kernel_rfl) Tryd.isAgg3 ((CellsAt.rb hc40 (RB.trans er20 hq) (Nat.lt_of_lt_of_eq lt38 z19) (fun h => by cases h)) 0 _ rfl))⟩) ?_
  refine r_ready [16] (by kernel_rfl) rfl (all_cons ⟨_, _, _, _, _, _, rfl, ?_⟩ all_nil)
  refine o_pv (.int .i64 (lget t.n ((i * ((t.b.length : Int) + (1 : Int))) + j))) rfl (by kernel_rfl) ?_
  refine ⟨fun h => absurd h (by decide), ?_⟩
  refine r_done (by kernel_rfl) ?_
  refine then_normal (K15 _ _ _ _ ?_)
  refine wp_ret ?_
  refine end_ret hQ (.int .i64 (lget t.n ((i * ((t.b.length : Int) + (1 : Int))) + j))) (by kernel_rfl) ?_
  exact ⟨(lget t.n ((i * ((t.b.length : Int) + (1 : Int))) + j)), hp, E27, rfl, re41⟩

def diff_made_p (a : (List ByteArray)) (b : (List ByteArray)) (Q : (Option S_diff_table) → PErr → Prop) : Prop :=
  ((a.length ≤ 9223372036854775807) → ((b.length ≤ 9223372036854775807) → ((((a.length : Int) > (256 : Int)) → Q none (PErr.fault (ByteArray.mk #[108, 105, 110, 101, 115]) (0 : Int) (4 : Int))) ∧ ((¬ ((a.length : Int) > (256 : Int))) → ((((b.length : Int) > (256 : Int)) → Q none (PErr.fault (ByteArray.mk #[108, 105, 110, 101, 115]) (1 : Int) (4 : Int))) ∧ ((¬ ((b.length : Int) > (256 : Int))) → ((inR .i64 ((a.length : Int) + (1 : Int))) ∧ ((inR .i64 ((b.length : Int) + (1 : Int))) ∧ ((inR .i64 (((a.length : Int) + (1 : Int)) * ((b.length : Int) + (1 : Int)))) ∧ ((0 ≤ (((a.length : Int) + (1 : Int)) * ((b.length : Int) + (1 : Int))) ∧ (8 : Int) * (((a.length : Int) + (1 : Int)) * ((b.length : Int) + (1 : Int))) ≤ 281474976710656) ∧ ((inR .i64 ((a.length : Int) - (1 : Int))) ∧ (∃ (I893 : Int → (List Int) → Prop) (m894 : Int → (List Int) → Nat), (I893 ((a.length : Int) - (1 : Int)) (List.replicate (((a.length : Int) + (1 : Int)) * ((b.length : Int) + (1 : Int))).toNat (default : Int))) ∧ (∀ (i472 : Int) (f474 : (List Int)), (I893 i472 f474) → (inR .i64 i472) → (f474.length ≤ 9223372036854775807) → (((i472 ≥ (0 : Int)) → ((inR .i64 ((b.length : Int) - (1 : Int))) ∧ (∃ (I1181 : Int → (List Int) → Prop) (m1182 : Int → (List Int) → Nat), (I1181 ((b.length : Int) - (1 : Int)) f474) ∧ (∀ (j1049 : Int) (f1051 : (List Int)), (I1181 j1049 f1051) → (inR .i64 j1049) → (f1051.length ≤ 9223372036854775807) → (((j1049 ≥ (0 : Int)) → ((inR .i64 (i472 + (1 : Int))) ∧ (diff_table_at_p (S_diff_table.mk a b f1051) (i472 + (1 : Int)) j1049 (fun (r1202 : Int) => ((inR .i64 r1202) → ((inR .i64 (j1049 + (1 : Int))) ∧ (diff_table_at_p (S_diff_table.mk a b f1051) i472 (j1049 + (1 : Int)) (fun (r1212 : Int) => ((inR .i64 r1212) → ((inL a i472) ∧ (((lget a i472).size ≤ maxLen) → ((inL b j1049) ∧ (((lget b j1049).size ≤ maxLen) → (∃ k1270 : Int → Prop, (∀ (n_1268 : Int), k1270 n_1268 → (inR .i64 n_1268) → ((inR .i64 ((b.length : Int) + (1 : Int))) ∧ ((inR .i64 (i472 * ((b.length : Int) + (1 : Int)))) ∧ ((inR .i64 ((i472 * ((b.length : Int) + (1 : Int))) + j1049)) ∧ ((inL f1051 ((i472 * ((b.length : Int) + (1 : Int))) + j1049)) ∧ ((inR .i64 (lget f1051 ((i472 * ((b.length : Int) + (1 : Int))) + j1049))) → ((inR .i64 (j1049 - (1 : Int))) ∧ ((I1181 (j1049 - (1 : Int)) (lset f1051 ((i472 * ((b.length : Int) + (1 : Int))) + j1049) n_1268)) ∧ m1182 (j1049 - (1 : Int)) (lset f1051 ((i472 * ((b.length : Int) + (1 : Int))) + j1049) n_1268) < m1182 j1049 f1051)))))))) ∧ ((((lget a i472 : ByteArray) = lget b j1049) → ((inR .i64 (i472 + (1 : Int))) ∧ ((inR .i64 (j1049 + (1 : Int))) ∧ (diff_table_at_p (S_diff_table.mk a b f1051) (i472 + (1 : Int)) (j1049 + (1 : Int)) (fun (r1287 : Int) => ((inR .i64 r1287) → ((inR .i64 (r1287 + (1 : Int))) ∧ (k1270 (r1287 + (1 : Int)))))))))) ∧ ((¬ ((lget a i472 : ByteArray) = lget b j1049)) → (k1270 (max r1202 r1212)))))))))))))))))) ∧ ((¬ (j1049 ≥ (0 : Int))) → ((inR .i64 (i472 - (1 : Int))) ∧ ((I893 (i472 - (1 : Int)) f1051) ∧ m894 (i472 - (1 : Int)) f1051 < m894 i472 f474)))))))) ∧ ((¬ (i472 ≥ (0 : Int))) → Q (some (S_diff_table.mk a b f474)) PErr.nil)))))))))))))))
set_option maxRecDepth 20000 in
set_option maxHeartbeats 4000000 in
theorem diff_made_w {X : List Nat} {w : World} {a : (List ByteArray)} {b : (List ByteArray)} {aa1 : Option Addr} {ca2 : Nat} {ab4 : Option Addr} {cb5 : Nat} {Q : (Option S_diff_table) → PErr → Prop} (hX0 : Old X w) (ha3 : Sl rStr X w aa1 ca2 a) (hb6 : Sl rStr X w ab4 cb5 b) (hp : diff_made_p a b Q) :
    Calls Tryd.prog 77 #[(.slice aa1 a.length ca2), (.slice ab4 b.length cb5)] w (Ret fun v w' => ∃ (r0 : (Option S_diff_table)) (r1 : PErr), Q r0 r1 ∧ Evo [] w w' ∧ ∃ (vq01 : Value) (vq13 : Value), v = .tuple #[vq01, vq13] ∧ (rPtrO r_diff_table 177).ok X w' ([vq01]) r0 ∧ (rErr 63 122 124).ok X w' ([vq13]) r1) := by
  have hXo := hX0
  have E0 : Evo [] w w := RB.refl _ _ _
  have hS : Sub X X := Sub.refl _
  unfold diff_made_p at hp
  refine enter_ Tryd.func77 rfl 91 [(0, (.slice aa1 a.length ca2)), (1, (.slice ab4 b.length cb5))] (by kernel_rfl) (fun Qe hQ => ?_)
  replace hp := hp (Sl.len ha3)
  replace hp := hp (Sl.len hb6)
  refine seq_ (fun _ K7 => ?_)
  refine reg_ ?_
  refine sq (o_pv (.pointer none) rfl (by kernel_rfl) ?_)
  refine sq (o_pv .nilIface rfl (by kernel_rfl) ?_)
  refine nil_ ?_
  refine then_normal (K7 _ _ _ _ ?_)
  refine seq_ (fun _ K8 => ?_)
  refine seq_ (fun _ K9 => ?_)
  refine reg_ ?_
  refine sq (o_pv (.slice aa1 a.length ca2) rfl (by kernel_rfl) ?_)
  refine sq (o_pv (.int .i64 (a.length : Int)) rfl (by kernel_rfl) ?_)
  refine sq (o_pv (.bool (decide ((a.length : Int) > (256 : Int)))) rfl (by kernel_rfl) ?_)
  refine nil_ ?_
  refine then_normal (K9 _ _ _ _ ?_)
  refine cond_d ((a.length : Int) > (256 : Int)) (by kernel_rfl) (fun h10 => ?_) (fun h10 => ?_)
  ·
    replace hp := hp.1 h10
    refine seq_ (fun _ K11 => ?_)
    refine reg_ ?_
    refine sq (o_pv (.iface 63 (.int .i64 (4 : Int))) rfl (by kernel_rfl) ?_)
    refine sq (o_pv (.agg #[(.string (ByteArray.mk #[108, 105, 110, 101, 115])), (.int .i64 (0 : Int)), (.iface 63 (.int .i64 (4 : Int)))]) rfl (by kernel_rfl) ?_)
    refine sq (o_newX [(.string (ByteArray.mk #[108, 105, 110, 101, 115])), (.int .i64 (0 : Int)), (.iface 63 (.int .i64 (4 : Int)))] 124 (X := X) (B := w.heap.size) E0.size rfl (by kernel_rfl) ?_)
    intro b12 w13 X14 s15 k16 n17
    refine sq (o_pv (.iface 122 (.pointer (some ⟨b12, 0, none⟩))) rfl (by kernel_rfl) ?_)
    refine sq (o_pv (.pointer none) rfl (by kernel_rfl) ?_)
    refine sq (o_pv (.iface 122 (.pointer (some ⟨b12, 0, none⟩))) rfl (by kernel_rfl) ?_)
    refine nil_ ?_
    refine then_normal (K11 _ _ _ _ ?_)
    refine wp_ret ?_
    refine then_ret ?_
    have E18 := (Evo.then0 E0 (Step.evo s15))
    refine end_ret hQ (.tuple #[(.pointer none), (.iface 122 (.pointer (some ⟨b12, 0, none⟩)))]) (by kernel_rfl) ?_
    exact ⟨none, (PErr.fault (ByteArray.mk #[108, 105, 110, 101, 115]) (0 : Int) (4 : Int)), hp, E18, (.pointer none), (.iface 122 (.pointer (some ⟨b12, 0, none⟩))), rfl, rPtrO_none, (rErr_fault (OB.notin k16 hX0) k16.2.1 (by decide : (ByteArray.mk #[108, 105, 110, 101, 115]).size ≤ maxLen) (by decide : inR .i64 (0 : Int)) (by decide : inR .i64 (4 : Int)))⟩
  ·
    replace hp := hp.2 h10
    refine wp_skip ?_
    refine then_normal (K8 _ _ _ _ ?_)
    refine seq_ (fun _ K19 => ?_)
    refine seq_ (fun _ K20 => ?_)
    refine reg_ ?_
    refine sq (o_pv (.slice ab4 b.length cb5) rfl (by kernel_rfl) ?_)
    refine sq (o_pv (.int .i64 (b.length : Int)) rfl (by kernel_rfl) ?_)
    refine sq (o_pv (.bool (decide ((b.length : Int) > (256 : Int)))) rfl (by kernel_rfl) ?_)
    refine nil_ ?_
    refine then_normal (K20 _ _ _ _ ?_)
    refine cond_d ((b.length : Int) > (256 : Int)) (by kernel_rfl) (fun h21 => ?_) (fun h21 => ?_)
    ·
      replace hp := hp.1 h21
      refine seq_ (fun _ K22 => ?_)
      refine reg_ ?_
      refine sq (o_pv (.iface 63 (.int .i64 (4 : Int))) rfl (by kernel_rfl) ?_)
      refine sq (o_pv (.agg #[(.string (ByteArray.mk #[108, 105, 110, 101, 115])), (.int .i64 (1 : Int)), (.iface 63 (.int .i64 (4 : Int)))]) rfl (by kernel_rfl) ?_)
      refine sq (o_newX [(.string (ByteArray.mk #[108, 105, 110, 101, 115])), (.int .i64 (1 : Int)), (.iface 63 (.int .i64 (4 : Int)))] 124 (X := X) (B := w.heap.size) E0.size rfl (by kernel_rfl) ?_)
      intro b23 w24 X25 s26 k27 n28
      refine sq (o_pv (.iface 122 (.pointer (some ⟨b23, 0, none⟩))) rfl (by kernel_rfl) ?_)
      refine sq (o_pv (.pointer none) rfl (by kernel_rfl) ?_)
      refine sq (o_pv (.iface 122 (.pointer (some ⟨b23, 0, none⟩))) rfl (by kernel_rfl) ?_)
      refine nil_ ?_
      refine then_normal (K22 _ _ _ _ ?_)
      refine wp_ret ?_
      refine then_ret ?_
      have E29 := (Evo.then0 E0 (Step.evo s26))
      refine end_ret hQ (.tuple #[(.pointer none), (.iface 122 (.pointer (some ⟨b23, 0, none⟩)))]) (by kernel_rfl) ?_
      exact ⟨none, (PErr.fault (ByteArray.mk #[108, 105, 110, 101, 115]) (1 : Int) (4 : Int)), hp, E29, (.pointer none), (.iface 122 (.pointer (some ⟨b23, 0, none⟩))), rfl, rPtrO_none, (rErr_fault (OB.notin k27 hX0) k27.2.1 (by decide : (ByteArray.mk #[108, 105, 110, 101, 115]).size ≤ maxLen) (by decide : inR .i64 (1 : Int)) (by decide : inR .i64 (4 : Int)))⟩
    ·
      replace hp := hp.2 h21
      refine wp_skip ?_
      refine then_normal (K19 _ _ _ _ ?_)
      refine seq_ (fun _ K30 => ?_)
      refine reg_ ?_
      refine sq (o_pv (.slice aa1 a.length ca2) rfl (by kernel_rfl) ?_)
      refine sq (o_pv (.slice ab4 b.length cb5) rfl (by kernel_rfl) ?_)
      refine sq (o_pv (.slice aa1 a.length ca2) rfl (by kernel_rfl) ?_)
      refine sq (o_pv (.int .i64 (a.length : Int)) rfl (by kernel_rfl) ?_)
      obtain ⟨h31, hp⟩ := hp
      refine sq (o_pv (.int .i64 ((a.length : Int) + (1 : Int))) rfl (x_add2 (k := .i64) (a := (a.length : Int)) (b := (1 : Int)) ((a.length : Int) + (1 : Int)) (by kernel_rfl) (by kernel_rfl) (wrap_inR h31)) ?_)
      refine sq (o_pv (.slice ab4 b.length cb5) rfl (by kernel_rfl) ?_)
      refine sq (o_pv (.int .i64 (b.length : Int)) rfl (by kernel_rfl) ?_)
      obtain ⟨h32, hp⟩ := hp
      refine sq (o_pv (.int .i64 ((b.length : Int) + (1 : Int))) rfl (x_add2 (k := .i64) (a := (b.length : Int)) (b := (1 : Int)) ((b.length : Int) + (1 : Int)) (by kernel_rfl) (by kernel_rfl) (wrap_inR h32)) ?_)
      obtain ⟨h33, hp⟩ := hp
      refine sq (o_pv (.int .i64 (((a.length : Int) + (1 : Int)) * ((b.length : Int) + (1 : Int)))) rfl (x_mul2 (k := .i64) (a := (a.length : Int) + (1 : Int)) (b := (b.length : Int) + (1 : Int)) (((a.length : Int) + (1 : Int)) * ((b.length : Int) + (1 : Int))) (by kernel_rfl) (by kernel_rfl) (wrap_inR h33)) ?_)
      obtain ⟨h34, hp⟩ := hp
      refine sq (o_makeX (R := (rInt .i64)) (kl := .i64) (kc := .i64) (X := X) (B := w.heap.size) (.int .i64 (0 : Int)) (((a.length : Int) + (1 : Int)) * ((b.length : Int) + (1 : Int))) E0.size rfl Tryd.underlying106 (by kernel_rfl) rfl rfl (fun _ _ => ⟨rfl, by decide⟩) (by kernel_rfl) (by kernel_rfl) h34 h33 ?_)
      intro a35 n36 w37 X38 s39 O40 n41
      refine sq (o_pv (.agg #[(.slice aa1 a.length ca2), (.slice ab4 b.length cb5), (.slice a35 n36 n36)]) rfl (by kernel_rfl) ?_)
      have E48 := (Evo.then0 E0 (Step.evo s39))
      refine sq (o_newX [(.slice aa1 a.length ca2), (.slice ab4 b.length cb5), (.slice a35 n36 n36)] 177 (X := X38) (B := w.heap.size) E48.size rfl (by kernel_rfl) ?_)
      intro b42 w43 X44 s45 k46 n47
      have p49 := n47 _ (OS.old O40)
      refine sq (o_pv (.pointer (some ⟨b42, 0, none⟩)) rfl (by kernel_rfl) ?_)
      refine nil_ ?_
      refine then_normal (K30 _ _ _ _ ?_)
      refine seq_ (fun _ K50 => ?_)
      refine seq_ (fun _ K51 => ?_)
      refine reg_ ?_
      refine sq (o_pv (.slice aa1 a.length ca2) rfl (by kernel_rfl) ?_)
      refine sq (o_pv (.int .i64 (a.length : Int)) rfl (by kernel_rfl) ?_)
      obtain ⟨h52, hp⟩ := hp
      refine sq (o_pv (.int .i64 ((a.length : Int) - (1 : Int))) rfl (x_sub2 (k := .i64) (a := (a.length : Int)) (b := (1 : Int)) ((a.length : Int) - (1 : Int)) (by kernel_rfl) (by kernel_rfl) (wrap_inR h52)) ?_)
      refine sq (o_pv (.int .i64 ((a.length : Int) - (1 : Int))) rfl (by kernel_rfl) ?_)
      refine nil_ ?_
      refine then_normal (K51 _ _ _ _ ?_)
      refine wp_block ?_
      have ha903 := (Sl.step (Sl.step ha3 s39) s45)
      have hb904 := (Sl.step (Sl.step hb6 s39) s45)
      have hXo905 := (Old.step (Old.step hXo s39) s45)
      have E906 := (Evo.then0 E48 (Step.evo s45))
      have hS907 := (Sub.trans (Sub.trans hS (Step.up s39)) (Step.up s45))
      have O908 := (OS.step0 O40 s45)
      obtain ⟨I893, m894, hI895, hp⟩ := hp
      refine loop_ 1237940039285379725143311232 (fun kq lq w897 => ∃ (X898 : List Nat) (i472 : Int) (f474 : (List Int)), (lq = [(7, (.int .i64 i472))]) ∧ (kq = m894 i472 f474) ∧ (Evo [] w w897) ∧ (Old X898 w897) ∧ (Sub X X898) ∧ (Sl rStr X898 w897 aa1 ca2 a) ∧ (Sl rStr X898 w897 ab4 cb5 b) ∧ (OS (rInt .i64) ([]) w.heap.size X898 w897 3 a35 n36 n36 f474) ∧ (OB ([]) w.heap.size X898 w897 b42 [(.slice aa1 a.length ca2), (.slice ab4 b.length cb5), (.slice a35 n36 n36)] 177) ∧ (inR .i64 i472) ∧ (I893 i472 f474)) (m894 ((a.length : Int) - (1 : Int)) (List.replicate (((a.length : Int) + (1 : Int)) * ((b.length : Int) + (1 : Int))).toNat (default : Int))) [(7, (.int .i64 ((a.length : Int) - (1 : Int))))] (vs_cons (by kernel_rfl) vs_nil) ⟨X44, ((a.length : Int) - (1 : Int)), (List.replicate (((a.length : Int) + (1 : Int)) * ((b.length : Int) + (1 : Int))).toNat (default : Int)), rfl, rfl, E906, hXo905, hS907, ha903, hb904, O908, k46, h52, hI895⟩ ?_
      rintro _ _ w897 g900 ⟨X898, i472, f474, rfl, rfl, E909, hXo910, hS911, ha912, hb913, O475, k476, ri473, hI896⟩ Kl901 hA902
      replace hp := hp i472 f474 hI896 ri473 (OS.len O475)
      refine seq_ (fun _ K914 => ?_)
      refine seq_ (fun _ K915 => ?_)
      refine reg_ ?_
      refine sq (o_pv (.int .i64 i472) rfl (by kernel_rfl) ?_)
      refine sq (o_pv (.bool (decide (i472 ≥ (0 : Int)))) rfl (by kernel_rfl) ?_)
      refine nil_ ?_
      refine then_normal (K915 _ _ _ _ ?_)
      refine cond_d (i472 ≥ (0 : Int)) (by kernel_rfl) (fun h916 => ?_) (fun h916 => ?_)
      ·
        replace hp := hp.1 h916
        refine wp_skip ?_
        refine then_normal (K914 _ _ _ _ ?_)
        refine seq_ (fun _ K917 => ?_)
        refine wp_block ?_
        refine seq_ (fun _ K918 => ?_)
        refine reg_ ?_
        refine sq (o_pv (.slice ab4 b.length cb5) rfl (by kernel_rfl) ?_)
        refine sq (o_pv (.int .i64 (b.length : Int)) rfl (by kernel_rfl) ?_)
        obtain ⟨h919, hp⟩ := hp
        refine sq (o_pv (.int .i64 ((b.length : Int) - (1 : Int))) rfl (x_sub2 (k := .i64) (a := (b.length : Int)) (b := (1 : Int)) ((b.length : Int) - (1 : Int)) (by kernel_rfl) (by kernel_rfl) (wrap_inR h919)) ?_)
        refine sq (o_pv (.int .i64 ((b.length : Int) - (1 : Int))) rfl (by kernel_rfl) ?_)
        refine nil_ ?_
        refine then_normal (K918 _ _ _ _ ?_)
        refine wp_block ?_
        obtain ⟨I1181, m1182, hI1183, hp⟩ := hp
        refine loop_ 1237940039285309906154947328 (fun kq lq w1185 => ∃ (X1186 : List Nat) (j1049 : Int) (f1051 : (List Int)), (lq = [(8, (.int .i64 j1049))]) ∧ (kq = m1182 j1049 f1051) ∧ (Evo [] w w1185) ∧ (Old X1186 w1185) ∧ (Sub X X1186) ∧ (Sl rStr X1186 w1185 aa1 ca2 a) ∧ (Sl rStr X1186 w1185 ab4 cb5 b) ∧ (OS (rInt .i64) ([]) w.heap.size X1186 w1185 3 a35 n36 n36 f1051) ∧ (OB ([]) w.heap.size X1186 w1185 b42 [(.slice aa1 a.length ca2), (.slice ab4 b.length cb5), (.slice a35 n36 n36)] 177) ∧ (inR .i64 j1049) ∧ (I1181 j1049 f1051)) (m1182 ((b.length : Int) - (1 : Int)) f474) [(8, (.int .i64 ((b.length : Int) - (1 : Int))))] (vs_cons (by kernel_rfl) vs_nil) ⟨X898, ((b.length : Int) - (1 : Int)), f474, rfl, rfl, E909, hXo910, hS911, ha912, hb913, O475, k476, h919, hI1183⟩ ?_
        rintro _ _ w1185 g1188 ⟨X1186, j1049, f1051, rfl, rfl, E1191, hXo1192, hS1193, ha1194, hb1195, O1052, k1053, rj1050, hI1184⟩ Kl1189 hA1190
        replace hp := hp j1049 f1051 hI1184 rj1050 (OS.len O1052)
        refine seq_ (fun _ K1196 => ?_)
        refine seq_ (fun _ K1197 => ?_)
        refine reg_ ?_
        refine sq (o_pv (.int .i64 j1049) rfl (by kernel_rfl) ?_)
        refine sq (o_pv (.bool (decide (j1049 ≥ (0 : Int)))) rfl (by kernel_rfl) ?_)
        refine nil_ ?_
        refine then_normal (K1197 _ _ _ _ ?_)
        refine cond_d (j1049 ≥ (0 : Int)) (by kernel_rfl) (fun h1198 => ?_) (fun h1198 => ?_)
        ·
          replace hp := hp.1 h1198
          refine wp_skip ?_
          refine then_normal (K1196 _ _ _ _ ?_)
          refine seq_ (fun _ K1199 => ?_)
          refine wp_block ?_
          refine seq_ (fun _ K1200 => ?_)
          refine reg_ ?_
          refine sq (o_pv (.pointer (some ⟨b42, 0, none⟩)) rfl (by kernel_rfl) ?_)
          refine sq (o_pv (.int .i64 i472) rfl (by kernel_rfl) ?_)
          obtain ⟨h1201, hp⟩ := hp
          refine sq (o_pv (.int .i64 (i472 + (1 : Int))) rfl (x_add2 (k := .i64) (a := i472) (b := (1 : Int)) (i472 + (1 : Int)) (by kernel_rfl) (by kernel_rfl) (wrap_inR h1201)) ?_)
          refine sq (o_pv (.int .i64 j1049) rfl (by kernel_rfl) ?_)
          refine sq (o_call 81 #[(.pointer (some ⟨b42, 0, none⟩)), (.int .i64 (i472 + (1 : Int))), (.int .i64 j1049)] rfl (x_call Tryd.call81 (by kernel_rfl)) (diff_table_at_w (X := []) (t := (S_diff_table.mk a b f1051)) (i := i472 + (1 : Int)) (j := j1049) (Old.nil _) (RO.cast (by rw [show n36 = f1051.length from O1052.1]) ⟨(fun hm => by cases hm), k1053.2.1⟩) (Sl.less ha1194 (Sub.nil _)) (Sl.less hb1195 (Sub.nil _)) (OS.rd O1052) h1201 rj1050 hp) ?_)
          rintro _ w1203 ⟨r1202, hp, e1204, rfl, rr1206⟩
          have s1205 := Step.of0 X1186 e1204
          replace hp := hp rr1206
          refine sq (o_pv (.pointer (some ⟨b42, 0, none⟩)) rfl (by kernel_rfl) ?_)
          refine sq (o_pv (.int .i64 i472) rfl (by kernel_rfl) ?_)
          refine sq (o_pv (.int .i64 j1049) rfl (by kernel_rfl) ?_)
          obtain ⟨h1207, hp⟩ := hp
          refine sq (o_pv (.int .i64 (j1049 + (1 : Int))) rfl (x_add2 (k := .i64) (a := j1049) (b := (1 : Int)) (j1049 + (1 : Int)) (by kernel_rfl) (by kernel_rfl) (wrap_inR h1207)) ?_)
          have k1208 := (OB.step0 k1053 s1205)
          have ha1209 := (Sl.step ha1194 s1205)
          have hb1210 := (Sl.step hb1195 s1205)
          have O1211 := (OS.step0 O1052 s1205)
          refine sq (o_call 81 #[(.pointer (some ⟨b42, 0, none⟩)), (.int .i64 i472), (.int .i64 (j1049 + (1 : Int)))] rfl (x_call Tryd.call81 (by kernel_rfl)) (diff_table_at_w (X := []) (t := (S_diff_table.mk a b f1051)) (i := i472) (j := j1049 + (1 : Int)) (Old.nil _) (RO.cast (by rw [show n36 = f1051.length from O1211.1]) ⟨(fun hm => by cases hm), k1208.2.1⟩) (Sl.less ha1209 (Sub.nil _)) (Sl.less hb1210 (Sub.nil _)) (OS.rd O1211) ri473 h1207 hp) ?_)
          rintro _ w1213 ⟨r1212, hp, e1214, rfl, rr1216⟩
          have s1215 := Step.of0 X1186 e1214
          replace hp := hp rr1216
          refine sq (o_pv (.int .i64 (max r1202 r1212)) rfl (x_max (k := .i64) (a := r1202) (b := r1212) (max r1202 r1212) (by kernel_rfl) (by kernel_rfl) rfl) ?_)
          refine sq (o_pv (.int .i64 (max r1202 r1212)) rfl (by kernel_rfl) ?_)
          refine nil_ ?_
          refine then_normal (K1200 _ _ _ _ ?_)
          refine seq_ (fun _ K1217 => ?_)
          refine seq_ (fun _ K1218 => ?_)
          have E1219 := (Evo.then0 (Evo.then0 E1191 e1204) e1214)
          have hXo1220 := (Old.step (Old.step hXo1192 s1205) s1215)
          have hS1221 := (Sub.trans (Sub.trans hS1193 (Step.up s1205)) (Step.up s1215))
          have ha1222 := (Sl.step ha1209 s1215)
          have hb1223 := (Sl.step hb1210 s1215)
          have O1224 := (OS.step0 O1211 s1215)
          have k1225 := (OB.step0 k1208 s1215)
          refine reg_drawn (RB w1213.heap.size []) 9 (by kernel_rfl) (fun w1226 hd1227 => ?_)
          have e1228 := Evo.of_drew hd1227
          have z1229 : w1226.heap.size = w1213.heap.size := by rw [hd1227]
          clear hd1227
          have s1231 := Step.of0 X1186 e1228
          have er1230 := RB.refl w1213.heap.size [] w1226
          have E1232 := (Evo.then0 E1219 (Step.evo s1231))
          have hXo1233 := (Old.step hXo1220 s1231)
          have hS1234 := (Sub.trans hS1221 (Step.up s1231))
          have ha1235 := (Sl.step ha1222 s1231)
          have hb1236 := (Sl.step hb1223 s1231)
          have O1237 := (OS.step0 O1224 s1231)
          have k1238 := (OB.step0 k1225 s1231)
          refine r_take 0 (.slice aa1 a.length ca2) (RB.pre _ _) rfl (by kernel_rfl) (fun _ _ _ h => hQ.panic _ _ _ _ _ h) (.inl ⟨rfl, fun wq hq => (by kernel_rfl)⟩) ?_
          refine r_take 1 (.int .i64 i472) (RB.pre _ _) rfl (by kernel_rfl) (fun _ _ _ h => hQ.panic _ _ _ _ _ h) (.inl ⟨rfl, fun wq hq => (by kernel_rfl)⟩) ?_
          obtain ⟨h1239, hp⟩ := hp
          obtain ⟨b1240, o1241, cs1242, ha1243, nx1244, lt1245, ok1246, hc1247⟩ := Sl.atI ha1235 i472 h1239
          obtain ⟨rfl, ze1248⟩ := ok1246
          replace hp := hp ze1248
          refine r_take 2 (.pointer (some ⟨b1240, o1241 + i472.toNat * 1, none⟩)) (RB.pre _ _) rfl (by kernel_rfl) (fun _ _ _ h => hQ.panic _ _ _ _ _ h) (.inl ⟨rfl, fun wq hq => (x_ixA (m := a.length) (c := ca2) (k := .i64) (i := i472) Tryd.underlying22 Tryd.sizeOf9 (by rw [← ha1243]; kernel_rfl) (by kernel_rfl) h1239)⟩) ?_
          refine r_take 3 (.string (lget a i472)) (RB.pre _ _) rfl (by kernel_rfl) (fun _ _ _ h => hQ.panic _ _ _ _ _ h) (.inl ⟨rfl, fun wq hq => (x_load1 (by kernel_rfl) Tryd.isAgg9 ((CellsAt.rb hc1247 (RB.trans er1230 hq) (Nat.lt_of_lt_of_eq lt1245 z1229) (fun h => by cases h)) 0 _ rfl))⟩) ?_
          refine r_take 4 (.slice ab4 b.length cb5) (RB.pre _ _) rfl (by kernel_rfl) (fun _ _ _ h => hQ.panic _ _ _ _ _ h) (.inl ⟨rfl, fun wq hq => (by kernel_rfl)⟩) ?_
          refine r_take 5 (.int .i64 j1049) (RB.pre _ _) rfl (by kernel_rfl) (fun _ _ _ h => hQ.panic _ _ _ _ _ h) (.inl ⟨rfl, fun wq hq => (by kernel_rfl)⟩) ?_
          obtain ⟨h1249, hp⟩ := hp
          obtain ⟨b1250, o1251, cs1252, ha1253, nx1254, lt1255, ok1256, hc1257⟩ := Sl.atI hb1236 j1049 h1249
          obtain ⟨rfl, ze1258⟩ := ok1256
          replace hp := hp ze1258
          refine r_take 6 (.pointer (some ⟨b1250, o1251 + j1049.toNat * 1, none⟩)) (RB.pre _ _) rfl (by kernel_rfl) (fun _ _ _ h => hQ.panic _ _ _ _ _ h) (.inl ⟨rfl, fun wq hq => (x_ixA (m := b.length) (c := cb5) (k := .i64) (i := j1049) Tryd.underlying22 Tryd.sizeOf9 (by rw [← ha1253]; kernel_rfl) (by kernel_rfl) h1249)⟩) ?_
          refine r_take 7 (.string (lget b j1049)) (RB.pre _ _) rfl (by kernel_rfl) (fun _ _ _ h => hQ.panic _ _ _ _ _ h) (.inl ⟨rfl, fun wq hq => (x_load1 (by kernel_rfl) Tryd.isAgg9 ((CellsAt.rb hc1257 (RB.trans er1230 hq) (Nat.lt_of_lt_of_eq lt1255 z1229) (fun h => by cases h)) 0 _ rfl))⟩) ?_
          refine r_take 8 (.bool (decide ((lget a i472 : ByteArray) = lget b j1049))) (RB.pre _ _) rfl (by kernel_rfl) (fun _ _ _ h => hQ.panic _ _ _ _ _ h) (.inl ⟨rfl, fun wq hq => (x_streq (by kernel_rfl) (by kernel_rfl))⟩) ?_
          refine r_done (by kernel_rfl) ?_
          refine then_normal (K1218 _ _ _ _ ?_)
          obtain ⟨k1270, hk1271, hp⟩ := hp
          refine ground_ ?_
          refine join_ 149935135831111235535360 (fun lq w1272 => ∃ (X1273 : List Nat) (n_1268 : Int), (lq = [(9, (.int .i64 n_1268))]) ∧ (Evo [] w w1272) ∧ (Old X1273 w1272) ∧ (Sub X X1273) ∧ (Sl rStr X1273 w1272 aa1 ca2 a) ∧ (Sl rStr X1273 w1272 ab4 cb5 b) ∧ (OS (rInt .i64) ([]) w.heap.size X1273 w1272 3 a35 n36 n36 f1051) ∧ (OB ([]) w.heap.size X1273 w1272 b42 [(.slice aa1 a.length ca2), (.slice ab4 b.length cb5), (.slice a35 n36 n36)] 177) ∧ (inR .i64 n_1268) ∧ (k1270 n_1268)) (fun Kj1274 hJ1275 => ?_) ?_
          ·
            refine cond_d ((lget a i472 : ByteArray) = lget b j1049) (by kernel_rfl) (fun h1284 => ?_) (fun h1284 => ?_)
            ·
              replace hp := hp.1 h1284
              refine reg_ ?_
              refine sq (o_pv (.pointer (some ⟨b42, 0, none⟩)) rfl (by kernel_rfl) ?_)
              refine sq (o_pv (.int .i64 i472) rfl (by kernel_rfl) ?_)
              obtain ⟨h1285, hp⟩ := hp
              refine sq (o_pv (.int .i64 (i472 + (1 : Int))) rfl (x_add2 (k := .i64) (a := i472) (b := (1 : Int)) (i472 + (1 : Int)) (by kernel_rfl) (by kernel_rfl) (wrap_inR h1285)) ?_)
              refine sq (o_pv (.int .i64 j1049) rfl (by kernel_rfl) ?_)
              obtain ⟨h1286, hp⟩ := hp
              refine sq (o_pv (.int .i64 (j1049 + (1 : Int))) rfl (x_add2 (k := .i64) (a := j1049) (b := (1 : Int)) (j1049 + (1 : Int)) (by kernel_rfl) (by kernel_rfl) (wrap_inR h1286)) ?_)
              refine sq (o_call 81 #[(.pointer (some ⟨b42, 0, none⟩)), (.int .i64 (i472 + (1 : Int))), (.int .i64 (j1049 + (1 : Int)))] rfl (x_call Tryd.call81 (by kernel_rfl)) (diff_table_at_w (X := []) (t := (S_diff_table.mk a b f1051)) (i := i472 + (1 : Int)) (j := j1049 + (1 : Int)) (Old.nil _) (RO.cast (by rw [show n36 = f1051.length from O1237.1]) ⟨(fun hm => by cases hm), k1238.2.1⟩) (Sl.less ha1235 (Sub.nil _)) (Sl.less hb1236 (Sub.nil _)) (OS.rd O1237) h1285 h1286 hp) ?_)
              rintro _ w1288 ⟨r1287, hp, e1289, rfl, rr1291⟩
              have s1290 := Step.of0 X1186 e1289
              replace hp := hp rr1291
              obtain ⟨h1292, hp⟩ := hp
              refine sq (o_pv (.int .i64 (r1287 + (1 : Int))) rfl (x_add2 (k := .i64) (a := r1287) (b := (1 : Int)) (r1287 + (1 : Int)) (by kernel_rfl) (by kernel_rfl) (wrap_inR h1292)) ?_)
              refine sq (o_pv (.int .i64 (r1287 + (1 : Int))) rfl (by kernel_rfl) ?_)
              refine nil_ ?_
              have E1293 := (Evo.then0 E1232 e1289)
              have hXo1294 := (Old.step hXo1233 s1290)
              have hS1295 := (Sub.trans hS1234 (Step.up s1290))
              have ha1296 := (Sl.step ha1235 s1290)
              have hb1297 := (Sl.step hb1236 s1290)
              have O1298 := (OS.step0 O1237 s1290)
              have k1299 := (OB.step0 k1238 s1290)
              refine then_normal (hJ1275 _ _ _ ⟨[(9, (.int .i64 (r1287 + (1 : Int))))], fit_mk (fun _ _ => rfl) (by kernel_rfl) (vs_cons (by kernel_rfl) vs_nil), ?_⟩)
              exact ⟨X1186, (r1287 + (1 : Int)), rfl, E1293, hXo1294, hS1295, ha1296, hb1297, O1298, k1299, h1292, hp⟩
            ·
              replace hp := hp.2 h1284
              refine wp_skip ?_
              refine then_normal (hJ1275 _ _ _ ⟨[(9, (.int .i64 (max r1202 r1212)))], fit_mk (fun _ _ => rfl) (by kernel_rfl) (vs_cons (by kernel_rfl) vs_nil), ?_⟩)
              exact ⟨X1186, (max r1202 r1212), rfl, E1232, hXo1233, hS1234, ha1235, hb1236, O1237, k1238, (inR_max rr1206 rr1216), hp⟩
          ·
            rintro _ w1272 g1300 ⟨X1273, n_1268, rfl, E1277, hXo1278, hS1279, ha1280, hb1281, O1282, k1283, rn_1269, hv1276⟩
            replace hp := hk1271 n_1268 hv1276 rn_1269
            refine then_normal (K1217 _ _ _ _ ?_)
            refine reg_ ?_
            refine sq (o_pv (.pointer (some ⟨b42, 0, none⟩)) rfl (by kernel_rfl) ?_)
            refine sq (o_pv (.pointer (some ⟨b42, 0, none⟩)) rfl (by kernel_rfl) ?_)
            refine sq (o_pv (.pointer (some ⟨b42, 2, none⟩)) rfl (by kernel_rfl) ?_)
            refine sq (o_pv (.slice a35 n36 n36) rfl (x_load1 (by kernel_rfl) Tryd.isAgg106 (k1283.2.1.cell' 2 rfl)) ?_)
            refine sq (o_pv (.int .i64 i472) rfl (by kernel_rfl) ?_)
            refine sq (o_pv (.slice ab4 b.length cb5) rfl (by kernel_rfl) ?_)
            refine sq (o_pv (.int .i64 (b.length : Int)) rfl (by kernel_rfl) ?_)
            obtain ⟨h1301, hp⟩ := hp
            refine sq (o_pv (.int .i64 ((b.length : Int) + (1 : Int))) rfl (x_add2 (k := .i64) (a := (b.length : Int)) (b := (1 : Int)) ((b.length : Int) + (1 : Int)) (by kernel_rfl) (by kernel_rfl) (wrap_inR h1301)) ?_)
            obtain ⟨h1302, hp⟩ := hp
            refine sq (o_pv (.int .i64 (i472 * ((b.length : Int) + (1 : Int)))) rfl (x_mul2 (k := .i64) (a := i472) (b := (b.length : Int) + (1 : Int)) (i472 * ((b.length : Int) + (1 : Int))) (by kernel_rfl) (by kernel_rfl) (wrap_inR h1302)) ?_)
            refine sq (o_pv (.int .i64 j1049) rfl (by kernel_rfl) ?_)
            obtain ⟨h1303, hp⟩ := hp
            refine sq (o_pv (.int .i64 ((i472 * ((b.length : Int) + (1 : Int))) + j1049)) rfl (x_add2 (k := .i64) (a := i472 * ((b.length : Int) + (1 : Int))) (b := j1049) ((i472 * ((b.length : Int) + (1 : Int))) + j1049) (by kernel_rfl) (by kernel_rfl) (wrap_inR h1303)) ?_)
            refine sq (o_pv (.int .i64 n_1268) rfl (by kernel_rfl) ?_)
            obtain ⟨h1304, hp⟩ := hp
            obtain ⟨b1305, o1306, cs1307, ha1308, nx1309, lt1310, ok1311, hc1312⟩ := Sl.atI (OS.rd O1282) ((i472 * ((b.length : Int) + (1 : Int))) + j1049) h1304
            obtain ⟨rfl, re1313⟩ := ok1311
            replace hp := hp re1313
            refine sq (o_pv (.pointer (some ⟨b1305, o1306 + ((i472 * ((b.length : Int) + (1 : Int))) + j1049).toNat * 1, none⟩)) rfl (x_ixA (m := n36) (c := n36) (k := .i64) (i := (i472 * ((b.length : Int) + (1 : Int))) + j1049) Tryd.underlying106 Tryd.sizeOf3 (by rw [← ha1308]; kernel_rfl) (by kernel_rfl) ⟨h1304.1, by rw [O1282.1]; exact h1304.2⟩) ?_)
            refine sq (o_stS (o := o1306) (v := (.int .i64 n_1268)) ((i472 * ((b.length : Int) + (1 : Int))) + j1049) n_1268 rfl O1282 ha1308 (h1304) (by kernel_rfl) (by kernel_rfl) Tryd.sizeOf3 (fun _ => (rInt_mk rn_1269)) ?_)
            intro w1314 s1315 O1316
            refine nil_ ?_
            refine blk_normal ?_
            refine then_normal (K1199 _ _ _ _ ?_)
            refine reg_ ?_
            refine sq (o_pv (.int .i64 j1049) rfl (by kernel_rfl) ?_)
            obtain ⟨h1317, hp⟩ := hp
            refine sq (o_pv (.int .i64 (j1049 - (1 : Int))) rfl (x_sub2 (k := .i64) (a := j1049) (b := (1 : Int)) (j1049 - (1 : Int)) (by kernel_rfl) (by kernel_rfl) (wrap_inR h1317)) ?_)
            refine sq (o_pv (.int .i64 (j1049 - (1 : Int))) rfl (by kernel_rfl) ?_)
            refine nil_ ?_
            have E1318 := (Evo.thenW E1277 (Step.evo s1315) O1282.2.2)
            have hXo1319 := (Old.step hXo1278 s1315)
            have hS1320 := (Sub.trans hS1279 (Step.up s1315))
            have ha1321 := (Sl.step ha1280 s1315)
            have hb1322 := (Sl.step hb1281 s1315)
            have k1323 := (OB.step k1283 s1315 (Ap.symm p49))
            refine then_normal (hA1190 _ _ _ ⟨_, [(8, (.int .i64 (j1049 - (1 : Int))))], hp.2, fit_mk (AgB.nest (AgB.look (AgB.mix _ _ _) (by kernel_rfl)) (by kernel_rfl) (by kernel_rfl)) (by kernel_rfl) (vs_cons (by kernel_rfl) vs_nil), ?_⟩)
            exact ⟨X1273, (j1049 - (1 : Int)), (lset f1051 ((i472 * ((b.length : Int) + (1 : Int))) + j1049) n_1268), rfl, rfl, E1318, hXo1319, hS1320, ha1321, hb1322, O1316, k1323, h1317, hp.1⟩
        ·
          replace hp := hp.2 h1198
          refine wp_exit ?_
          refine then_exit ?_
          refine then_exit ?_
          refine blk_exit ?_
          refine blk_normal ?_
          refine then_normal (K917 _ _ _ _ ?_)
          refine reg_ ?_
          refine sq (o_pv (.int .i64 i472) rfl (by kernel_rfl) ?_)
          obtain ⟨h1324, hp⟩ := hp
          refine sq (o_pv (.int .i64 (i472 - (1 : Int))) rfl (x_sub2 (k := .i64) (a := i472) (b := (1 : Int)) (i472 - (1 : Int)) (by kernel_rfl) (by kernel_rfl) (wrap_inR h1324)) ?_)
          refine sq (o_pv (.int .i64 (i472 - (1 : Int))) rfl (by kernel_rfl) ?_)
          refine nil_ ?_
          refine then_normal (hA902 _ _ _ ⟨_, [(7, (.int .i64 (i472 - (1 : Int))))], hp.2, fit_mk (AgB.nest (AgB.mix _ _ _) (by kernel_rfl) (by kernel_rfl)) (by kernel_rfl) (vs_cons (by kernel_rfl) vs_nil), ?_⟩)
          exact ⟨X1186, (i472 - (1 : Int)), f1051, rfl, rfl, E1191, hXo1192, hS1193, ha1194, hb1195, O1052, k1053, h1324, hp.1⟩
      ·
        replace hp := hp.2 h916
        refine wp_exit ?_
        refine then_exit ?_
        refine then_exit ?_
        refine blk_exit ?_
        refine then_normal (K50 _ _ _ _ ?_)
        refine seq_ (fun _ K1325 => ?_)
        refine reg_ ?_
        refine sq (o_pv (.pointer (some ⟨b42, 0, none⟩)) rfl (by kernel_rfl) ?_)
        refine sq (o_pv (.pointer (some ⟨b42, 0, none⟩)) rfl (by kernel_rfl) ?_)
        refine sq (o_pv .nilIface rfl (by kernel_rfl) ?_)
        refine nil_ ?_
        refine then_normal (K1325 _ _ _ _ ?_)
        refine wp_ret ?_
        refine end_ret hQ (.tuple #[(.pointer (some ⟨b42, 0, none⟩)), .nilIface]) (by kernel_rfl) ?_
        exact ⟨(some (S_diff_table.mk a b f474)), PErr.nil, hp, E909, (.pointer (some ⟨b42, 0, none⟩)), .nilIface, rfl, (rPtrO_some (OB.notin k476 hX0) k476.2.1 (r_diff_table_mk (Sl.less ha912 hS911) rfl (Sl.less hb913 hS911) rfl (OS.out O475 hS911 hX0) O475.1)), rErr_nil⟩

def diff_table_step_p (t : S_diff_table) (i : Int) (j : Int) (Q : Int → Prop) : Prop :=
  ((t.a.length ≤ 9223372036854775807) → ((t.b.length ≤ 9223372036854775807) → ((t.n.length ≤ 9223372036854775807) → ((inR .i64 i) → ((inR .i64 j) → (∃ k53 : Bool → Prop, (∀ (s52 : Bool), k53 s52 → (((s52 = true) → Q (1 : Int)) ∧ ((s52 = false) → (∃ k125 : Bool → Prop, (∀ (s124 : Bool), k125 s124 → (((s124 = true) → Q (2 : Int)) ∧ ((s124 = false) → Q (3 : Int)))) ∧ (((i < (t.a.length : Int)) → (((j = (t.b.length : Int)) → (k125 true)) ∧ ((¬ (j = (t.b.length : Int))) → ((inR .i64 (i + (1 : Int))) ∧ (diff_table_at_p t (i + (1 : Int)) j (fun (r138 : Int) => ((inR .i64 r138) → ((inR .i64 (j + (1 : Int))) ∧ (diff_table_at_p t i (j + (1 : Int)) (fun (r148 : Int) => ((inR .i64 r148) → (k125 (decide (r138 ≥ r148)))))))))))))) ∧ ((¬ (i < (t.a.length : Int))) → (k125 false))))))) ∧ (((i < (t.a.length : Int)) → (((j < (t.b.length : Int)) → ((inL t.a i) ∧ (((lget t.a i).size ≤ maxLen) → ((inL t.b j) ∧ (((lget t.b j).size ≤ maxLen) → (k53 (decide ((lget t.a i : ByteArray) = lget t.b j)))))))) ∧ ((¬ (j < (t.b.length : Int))) → (k53 false)))) ∧ ((¬ (i < (t.a.length : Int))) → (k53 false)))))))))
set_option maxRecDepth 20000 in
set_option maxHeartbeats 4000000 in
theorem diff_table_step_w {X : List Nat} {w : World} {t : S_diff_table} {i : Int} {j : Int} {bt1 : Nat} {ata3 : Option Addr} {cta4 : Nat} {atb6 : Option Addr} {ctb7 : Nat} {atn9 : Option Addr} {ctn10 : Nat} {Q : Int → Prop} (hX0 : Old X w) (kt2 : RO X w bt1 [(.slice ata3 t.a.length cta4), (.slice atb6 t.b.length ctb7), (.slice atn9 t.n.length ctn10)] 177) (hta5 : Sl rStr X w ata3 cta4 t.a) (htb8 : Sl rStr X w atb6 ctb7 t.b) (htn11 : Sl (rInt .i64) X w atn9 ctn10 t.n) (ri12 : inR .i64 i) (rj13 : inR .i64 j) (hp : diff_table_step_p t i j Q) :
    Calls Tryd.prog 78 #[(.pointer (some ⟨bt1, 0, none⟩)), (.int .i64 i), (.int .i64 j)] w (Ret fun v w' => ∃ (r0 : Int), Q r0 ∧ Evo [] w w' ∧ v = (.int .i64 r0) ∧ inR .i64 r0) := by
  have hXo := hX0
  have E0 : Evo [] w w := RB.refl _ _ _
  have hS : Sub X X := Sub.refl _
  unfold diff_table_step_p at hp
  refine enter_ Tryd.func78 rfl 71 [(0, (.pointer (some ⟨bt1, 0, none⟩))), (1, (.int .i64 i)), (2, (.int .i64 j))] (by kernel_rfl) (fun Qe hQ => ?_)
  replace hp := hp (Sl.len hta5)
  replace hp := hp (Sl.len htb8)
  replace hp := hp (Sl.len htn11)
  replace hp := hp ri12
  replace hp := hp rj13
  refine seq_ (fun _ K14 => ?_)
  refine reg_ ?_
  refine sq (o_pv (.int .i64 (0 : Int)) rfl (by kernel_rfl) ?_)
  refine nil_ ?_
  refine then_normal (K14 _ _ _ _ ?_)
  refine seq_ (fun _ K15 => ?_)
  refine wp_block ?_
  refine seq_ (fun _ K16 => ?_)
  obtain ⟨k53, hk54, hp⟩ := hp
  refine ground_ ?_
  refine join_ 2199023255424 (fun lq w55 => ∃ (X56 : List Nat) (s52 : Bool), (lq = [(7, (.bool s52))]) ∧ (Evo [] w w55) ∧ (Old X56 w55) ∧ (Sub X X56) ∧ (Sl rStr X56 w55 ata3 cta4 t.a) ∧ (Sl rStr X56 w55 atb6 ctb7 t.b) ∧ (Sl (rInt .i64) X56 w55 atn9 ctn10 t.n) ∧ (RO X56 w55 bt1 [(.slice ata3 t.a.length cta4), (.slice atb6 t.b.length ctb7), (.slice atn9 t.n.length ctn10)] 177) ∧ (k53 s52)) (fun Kj57 hJ58 => ?_) ?_
  ·
    refine reg_drawn (RB w.heap.size []) 33 (by kernel_rfl) (fun w67 hd68 => ?_)
    have e69 := Evo.of_drew hd68
    have z70 : w67.heap.size = w.heap.size := by rw [hd68]
    clear hd68
    have s72 := Step.of0 X e69
    have er71 := RB.refl w.heap.size [] w67
    have kt73 := (RO.step kt2 s72)
    have hta74 := (Sl.step hta5 s72)
    have htb75 := (Sl.step htb8 s72)
    have htn76 := (Sl.step htn11 s72)
    have hXo77 := (Old.step hXo s72)
    have E78 := (Evo.then0 E0 (Step.evo s72))
    have hS79 := (Sub.trans hS (Step.up s72))
    refine r_take 0 (.int .i64 i) (RB.pre _ _) rfl (by kernel_rfl) (fun _ _ _ h => hQ.panic _ _ _ _ _ h) (.inl ⟨rfl, fun wq hq => (by kernel_rfl)⟩) ?_
    refine r_take 1 (.pointer (some ⟨bt1, 0, none⟩)) (RB.pre _ _) rfl (by kernel_rfl) (fun _ _ _ h => hQ.panic _ _ _ _ _ h) (.inl ⟨rfl, fun wq hq => (by kernel_rfl)⟩) ?_
    refine r_take 2 (.pointer (some ⟨bt1, 0, none⟩)) (RB.pre _ _) rfl (by kernel_rfl) (fun _ _ _ h => hQ.panic _ _ _ _ _ h) (.inl ⟨rfl, fun wq hq => (by kernel_rfl)⟩) ?_
    refine r_take 3 (.pointer (some ⟨bt1, 0, none⟩)) (RB.pre _ _) rfl (by kernel_rfl) (fun _ _ _ h => hQ.panic _ _ _ _ _ h) (.inl ⟨rfl, fun wq hq => (by kernel_rfl)⟩) ?_
    refine r_take 4 (.slice ata3 t.a.length cta4) (RB.pre _ _) rfl (by kernel_rfl) (fun _ _ _ h => hQ.panic _ _ _ _ _ h) (.inl ⟨rfl, fun wq hq => (x_load1 (by kernel_rfl) Tryd.isAgg22 ((Blk.rb kt73.2 (RB.trans er71 hq) (Nat.lt_of_lt_of_eq (Blk.lt kt73.2) z70) (fun h => by cases h)).cell' 0 rfl))⟩) ?_
    refine r_take 5 (.int .i64 (t.a.length : Int)) (RB.pre _ _) rfl (by kernel_rfl) (fun _ _ _ h => hQ.panic _ _ _ _ _ h) (.inl ⟨rfl, fun wq hq => (by kernel_rfl)⟩) ?_
    by_cases h80 : i < (t.a.length : Int)
    ·
      replace hp := hp.1 h80
      refine r_take 6 (.bool true) (RB.pre _ _) rfl (by kernel_rfl) (fun _ _ _ h => hQ.panic _ _ _ _ _ h) (.inl ⟨rfl, fun wq hq => (x_dt (p := i < (t.a.length : Int)) (by kernel_rfl) h80)⟩) ?_
      refine r_take 7 (.bool true) (RB.pre _ _) rfl (by kernel_rfl) (fun _ _ _ h => hQ.panic _ _ _ _ _ h) (.inl ⟨rfl, fun wq hq => (by kernel_rfl)⟩) ?_
      refine r_take 8 (.int .i64 j) (RB.pre _ _) rfl (by kernel_rfl) (fun _ _ _ h => hQ.panic _ _ _ _ _ h) (.inl ⟨(by kernel_rfl), fun wq hq => (by kernel_rfl)⟩) ?_
      refine r_take 9 (.pointer (some ⟨bt1, 0, none⟩)) (RB.pre _ _) rfl (by kernel_rfl) (fun _ _ _ h => hQ.panic _ _ _ _ _ h) (.inl ⟨(by kernel_rfl), fun wq hq => (by kernel_rfl)⟩) ?_
      refine r_take 10 (.pointer (some ⟨bt1, 0, none⟩)) (RB.pre _ _) rfl (by kernel_rfl) (fun _ _ _ h => hQ.panic _ _ _ _ _ h) (.inl ⟨(by kernel_rfl), fun wq hq => (by kernel_rfl)⟩) ?_
      refine r_take 11 (.pointer (some ⟨bt1, 1, none⟩)) (RB.pre _ _) rfl (by kernel_rfl) (fun _ _ _ h => hQ.panic _ _ _ _ _ h) (.inl ⟨(by kernel_rfl), fun wq hq => (by kernel_rfl)⟩) ?_
      refine r_take 12 (.slice atb6 t.b.length ctb7) (RB.pre _ _) rfl (by kernel_rfl) (fun _ _ _ h => hQ.panic _ _ _ _ _ h) (.inl ⟨(by kernel_rfl), fun wq hq => (x_load1 (by kernel_rfl) Tryd.isAgg22 ((Blk.rb kt73.2 (RB.trans er71 hq) (Nat.lt_of_lt_of_eq (Blk.lt kt73.2) z70) (fun h => by cases h)).cell' 1 rfl))⟩) ?_
      refine r_take 13 (.int .i64 (t.b.length : Int)) (RB.pre _ _) rfl (by kernel_rfl) (fun _ _ _ h => hQ.panic _ _ _ _ _ h) (.inl ⟨(by kernel_rfl), fun wq hq => (by kernel_rfl)⟩) ?_
      by_cases h81 : j < (t.b.length : Int)
      ·
        replace hp := hp.1 h81
        refine r_take 14 (.bool true) (RB.pre _ _) rfl (by kernel_rfl) (fun _ _ _ h => hQ.panic _ _ _ _ _ h) (.inl ⟨(by kernel_rfl), fun wq hq => (x_dt (p := j < (t.b.length : Int)) (by kernel_rfl) h81)⟩) ?_
        refine r_take 15 (.bool true) (RB.pre _ _) rfl (by kernel_rfl) (fun _ _ _ h => hQ.panic _ _ _ _ _ h) (.inl ⟨rfl, fun wq hq => (by kernel_rfl)⟩) ?_
        refine r_take 16 (.bool true) (RB.pre _ _) rfl (by kernel_rfl) (fun _ _ _ h => hQ.panic _ _ _ _ _ h) (.inl ⟨rfl, fun wq hq => (by kernel_rfl)⟩) ?_
        refine r_take 17 (.pointer (some ⟨bt1, 0, none⟩)) (RB.pre _ _) rfl (by kernel_rfl) (fun _ _ _ h => hQ.panic _ _ _ _ _ h) (.inl ⟨(by kernel_rfl), fun wq hq => (by kernel_rfl)⟩) ?_
        refine r_take 18 (.pointer (some ⟨bt1, 0, none⟩)) (RB.pre _ _) rfl (by kernel_rfl) (fun _ _ _ h => hQ.panic _ _ _ _ _ h) (.inl ⟨(by kernel_rfl), fun wq hq => (by kernel_rfl)⟩) ?_
        refine r_take 19 (.pointer (some ⟨bt1, 0, none⟩)) (RB.pre _ _) rfl (by kernel_rfl) (fun _ _ _ h => hQ.panic _ _ _ _ _ h) (.inl ⟨(by kernel_rfl), fun wq hq => (by kernel_rfl)⟩) ?_
        refine r_take 20 (.slice ata3 t.a.length cta4) (RB.pre _ _) rfl (by kernel_rfl) (fun _ _ _ h => hQ.panic _ _ _ _ _ h) (.inl ⟨(by kernel_rfl), fun wq hq => (x_load1 (by kernel_rfl) Tryd.isAgg22 ((Blk.rb kt73.2 (RB.trans er71 hq) (Nat.lt_of_lt_of_eq (Blk.lt kt73.2) z70) (fun h => by cases h)).cell' 0 rfl))⟩) ?_
        refine r_take 21 (.int .i64 i) (RB.pre _ _) rfl (by kernel_rfl) (fun _ _ _ h => hQ.panic _ _ _ _ _ h) (.inl ⟨(by kernel_rfl), fun wq hq => (by kernel_rfl)⟩) ?_
        obtain ⟨h82, hp⟩ := hp
        obtain ⟨b83, o84, cs85, ha86, nx87, lt88, ok89, hc90⟩ := Sl.atI hta74 i h82
        obtain ⟨rfl, ze91⟩ := ok89
        replace hp := hp ze91
        refine r_take 22 (.pointer (some ⟨b83, o84 + i.toNat * 1, none⟩)) (RB.pre _ _) rfl (by kernel_rfl) (fun _ _ _ h => hQ.panic _ _ _ _ _ h) (.inl ⟨(by kernel_rfl), fun wq hq => (x_ixA (m := t.a.length) (c := cta4) (k := .i64) (i := i) Tryd.underlying22 Tryd.sizeOf9 (by rw [← ha86]; kernel_rfl) (by kernel_rfl) h82)⟩) ?_
        refine r_take 23 (.string (lget t.a i)) (RB.pre _ _) rfl (by kernel_rfl) (fun _ _ _ h => hQ.panic _ _ _ _ _ h) (.inl ⟨(by kernel_rfl), fun wq hq => (x_load1 (by kernel_rfl) Tryd.isAgg9 ((CellsAt.rb hc90 (RB.trans er71 hq) (Nat.lt_of_lt_of_eq lt88 z70) (fun h => by cases h)) 0 _ rfl))⟩) ?_
        refine r_take 24 (.pointer (some ⟨bt1, 0, none⟩)) (RB.pre _ _) rfl (by kernel_rfl) (fun _ _ _ h => hQ.panic _ _ _ _ _ h) (.inl ⟨(by kernel_rfl), fun wq hq => (by kernel_rfl)⟩) ?_
        refine r_take 25 (.pointer (some ⟨bt1, 0, none⟩)) (RB.pre _ _) rfl (by kernel_rfl) (fun _ _ _ h => hQ.panic _ _ _ _ _ h) (.inl ⟨(by kernel_rfl), fun wq hq => (by kernel_rfl)⟩) ?_
        refine r_take 26 (.pointer (some ⟨bt1, 1, none⟩)) (RB.pre _ _) rfl (by kernel_rfl) (fun _ _ _ h => hQ.panic _ _ _ _ _ h) (.inl ⟨(by kernel_rfl), fun wq hq => (by kernel_rfl)⟩) ?_
        refine r_take 27 (.slice atb6 t.b.length ctb7) (RB.pre _ _) rfl (by kernel_rfl) (fun _ _ _ h => hQ.panic _ _ _ _ _ h) (.inl ⟨(by kernel_rfl), fun wq hq => (x_load1 (by kernel_rfl) Tryd.isAgg22 ((Blk.rb kt73.2 (RB.trans er71 hq) (Nat.lt_of_lt_of_eq (Blk.lt kt73.2) z70) (fun h => by cases h)).cell' 1 rfl))⟩) ?_
        refine r_take 28 (.int .i64 j) (RB.pre _ _) rfl (by kernel_rfl) (fun _ _ _ h => hQ.panic _ _ _ _ _ h) (.inl ⟨(by kernel_rfl), fun wq hq => (by kernel_rfl)⟩) ?_
        obtain ⟨h92, hp⟩ := hp
        obtain ⟨b93, o94, cs95, ha96, nx97, lt98, ok99, hc100⟩ := Sl.atI htb75 j h92
        obtain ⟨rfl, ze101⟩ := ok99
        replace hp := hp ze101
        refine r_take 29 (.pointer (some ⟨b93, o94 + j.toNat * 1, none⟩)) (RB.pre _ _) rfl (by kernel_rfl) (fun _ _ _ h => hQ.panic _ _ _ _ _ h) (.inl ⟨(by kernel_rfl), fun wq hq => (x_ixA (m := t.b.length) (c := ctb7) (k := .i64) (i := j) Tryd.underlying22 Tryd.sizeOf9 (by rw [← ha96]; kernel_rfl) (by kernel_rfl) h92)⟩) ?_
        refine r_take 30 (.string (lget t.b j)) (RB.pre _ _) rfl (by kernel_rfl) (fun _ _ _ h => hQ.panic _ _ _ _ _ h) (.inl ⟨(by kernel_rfl), fun wq hq => (x_load1 (by kernel_rfl) Tryd.isAgg9 ((CellsAt.rb hc100 (RB.trans er71 hq) (Nat.lt_of_lt_of_eq lt98 z70) (fun h => by cases h)) 0 _ rfl))⟩) ?_
        refine r_take 31 (.bool (decide ((lget t.a i : ByteArray) = lget t.b j))) (RB.pre _ _) rfl (by kernel_rfl) (fun _ _ _ h => hQ.panic _ _ _ _ _ h) (.inl ⟨(by kernel_rfl), fun wq hq => (x_streq (by kernel_rfl) (by kernel_rfl))⟩) ?_
        refine r_take 32 (.bool (decide ((lget t.a i : ByteArray) = lget t.b j))) (RB.pre _ _) rfl (by kernel_rfl) (fun _ _ _ h => hQ.panic _ _ _ _ _ h) (.inl ⟨rfl, fun wq hq => (by kernel_rfl)⟩) ?_
        refine r_ready [33] (by kernel_rfl) rfl (all_cons ⟨_, _, _, _, _, _, rfl, ?_⟩ all_nil)
        refine o_pv (.bool (decide ((lget t.a i : ByteArray) = lget t.b j))) rfl (by kernel_rfl) ?_
        refine ⟨fun h => absurd h (by decide), ?_⟩
        refine r_done (by kernel_rfl) ?_
        refine then_normal (hJ58 _ _ _ ⟨[(7, (.bool (decide ((lget t.a i : ByteArray) = lget t.b j))))], fit_mk (fun _ _ => rfl) (by kernel_rfl) (vs_cons (by kernel_rfl) vs_nil), ?_⟩)
        exact ⟨X, (decide ((lget t.a i : ByteArray) = lget t.b j)), rfl, E78, hXo77, hS79, hta74, htb75, htn76, kt73, hp⟩
      ·
        replace hp := hp.2 h81
        refine r_take 14 (.bool false) (RB.pre _ _) rfl (by kernel_rfl) (fun _ _ _ h => hQ.panic _ _ _ _ _ h) (.inl ⟨(by kernel_rfl), fun wq hq => (x_df (p := j < (t.b.length : Int)) (by kernel_rfl) h81)⟩) ?_
        refine r_take 15 (.bool false) (RB.pre _ _) rfl (by kernel_rfl) (fun _ _ _ h => hQ.panic _ _ _ _ _ h) (.inl ⟨rfl, fun wq hq => (by kernel_rfl)⟩) ?_
        refine r_take 16 (.bool false) (RB.pre _ _) rfl (by kernel_rfl) (fun _ _ _ h => hQ.panic _ _ _ _ _ h) (.inl ⟨rfl, fun wq hq => (by kernel_rfl)⟩) ?_
        refine r_take 17 undef (RB.pre _ _) rfl (by kernel_rfl) (fun _ _ _ h => hQ.panic _ _ _ _ _ h) (.inr ⟨by kernel_rfl, rfl⟩) ?_
        refine r_take 18 undef (RB.pre _ _) rfl (by kernel_rfl) (fun _ _ _ h => hQ.panic _ _ _ _ _ h) (.inr ⟨by kernel_rfl, rfl⟩) ?_
        refine r_take 19 undef (RB.pre _ _) rfl (by kernel_rfl) (fun _ _ _ h => hQ.panic _ _ _ _ _ h) (.inr ⟨by kernel_rfl, rfl⟩) ?_
        refine r_take 20 undef (RB.pre _ _) rfl (by kernel_rfl) (fun _ _ _ h => hQ.panic _ _ _ _ _ h) (.inr ⟨by kernel_rfl, rfl⟩) ?_
        refine r_take 21 undef (RB.pre _ _) rfl (by kernel_rfl) (fun _ _ _ h => hQ.panic _ _ _ _ _ h) (.inr ⟨by kernel_rfl, rfl⟩) ?_
        refine r_take 22 undef (RB.pre _ _) rfl (by kernel_rfl) (fun _ _ _ h => hQ.panic _ _ _ _ _ h) (.inr ⟨by kernel_rfl, rfl⟩) ?_
        refine r_take 23 undef (RB.pre _ _) rfl (by kernel_rfl) (fun _ _ _ h => hQ.panic _ _ _ _ _ h) (.inr ⟨by kernel_rfl, rfl⟩) ?_
        refine r_take 24 undef (RB.pre _ _) rfl (by kernel_rfl) (fun _ _ _ h => hQ.panic _ _ _ _ _ h) (.inr ⟨by kernel_rfl, rfl⟩) ?_
        refine r_take 25 undef (RB.pre _ _) rfl (by kernel_rfl) (fun _ _ _ h => hQ.panic _ _ _ _ _ h) (.inr ⟨by kernel_rfl, rfl⟩) ?_
        refine r_take 26 undef (RB.pre _ _) rfl (by kernel_rfl) (fun _ _ _ h => hQ.panic _ _ _ _ _ h) (.inr ⟨by kernel_rfl, rfl⟩) ?_
        refine r_take 27 undef (RB.pre _ _) rfl (by kernel_rfl) (fun _ _ _ h => hQ.panic _ _ _ _ _ h) (.inr ⟨by kernel_rfl, rfl⟩) ?_
        refine r_take 28 undef (RB.pre _ _) rfl (by kernel_rfl) (fun _ _ _ h => hQ.panic _ _ _ _ _ h) (.inr ⟨by kernel_rfl, rfl⟩) ?_
        refine r_take 29 undef (RB.pre _ _) rfl (by kernel_rfl) (fun _ _ _ h => hQ.panic _ _ _ _ _ h) (.inr ⟨by kernel_rfl, rfl⟩) ?_
        refine r_take 30 undef (RB.pre _ _) rfl (by kernel_rfl) (fun _ _ _ h => hQ.panic _ _ _ _ _ h) (.inr ⟨by kernel_rfl, rfl⟩) ?_
        refine r_take 31 undef (RB.pre _ _) rfl (by kernel_rfl) (fun _ _ _ h => hQ.panic _ _ _ _ _ h) (.inr ⟨by kernel_rfl, rfl⟩) ?_
        refine r_take 32 (.bool false) (RB.pre _ _) rfl (by kernel_rfl) (fun _ _ _ h => hQ.panic _ _ _ _ _ h) (.inl ⟨rfl, fun wq hq => (by kernel_rfl)⟩) ?_
        refine r_ready [33] (by kernel_rfl) rfl (all_cons ⟨_, _, _, _, _, _, rfl, ?_⟩ all_nil)
        refine o_pv (.bool false) rfl (by kernel_rfl) ?_
        refine ⟨fun h => absurd h (by decide), ?_⟩
        refine r_done (by kernel_rfl) ?_
        refine then_normal (hJ58 _ _ _ ⟨[(7, (.bool false))], fit_mk (fun _ _ => rfl) (by kernel_rfl) (vs_cons (by kernel_rfl) vs_nil), ?_⟩)
        exact ⟨X, false, rfl, E78, hXo77, hS79, hta74, htb75, htn76, kt73, hp⟩
    ·
      replace hp := hp.2 h80
      refine r_take 6 (.bool false) (RB.pre _ _) rfl (by kernel_rfl) (fun _ _ _ h => hQ.panic _ _ _ _ _ h) (.inl ⟨rfl, fun wq hq => (x_df (p := i < (t.a.length : Int)) (by kernel_rfl) h80)⟩) ?_
      refine r_take 7 (.bool false) (RB.pre _ _) rfl (by kernel_rfl) (fun _ _ _ h => hQ.panic _ _ _ _ _ h) (.inl ⟨rfl, fun wq hq => (by kernel_rfl)⟩) ?_
      refine r_take 8 undef (RB.pre _ _) rfl (by kernel_rfl) (fun _ _ _ h => hQ.panic _ _ _ _ _ h) (.inr ⟨by kernel_rfl, rfl⟩) ?_
      refine r_take 9 undef (RB.pre _ _) rfl (by kernel_rfl) (fun _ _ _ h => hQ.panic _ _ _ _ _ h) (.inr ⟨by kernel_rfl, rfl⟩) ?_
      refine r_take 10 undef (RB.pre _ _) rfl (by kernel_rfl) (fun _ _ _ h => hQ.panic _ _ _ _ _ h) (.inr ⟨by kernel_rfl, rfl⟩) ?_
      refine r_take 11 undef (RB.pre _ _) rfl (by kernel_rfl) (fun _ _ _ h => hQ.panic _ _ _ _ _ h) (.inr ⟨by kernel_rfl, rfl⟩) ?_
      refine r_take 12 undef (RB.pre _ _) rfl (by kernel_rfl) (fun _ _ _ h => hQ.panic _ _ _ _ _ h) (.inr ⟨by kernel_rfl, rfl⟩) ?_
      refine r_take 13 undef (RB.pre _ _) rfl (by kernel_rfl) (fun _ _ _ h => hQ.panic _ _ _ _ _ h) (.inr ⟨by kernel_rfl, rfl⟩) ?_
      refine r_take 14 undef (RB.pre _ _) rfl (by kernel_rfl) (fun _ _ _ h => hQ.panic _ _ _ _ _ h) (.inr ⟨by kernel_rfl, rfl⟩) ?_
      refine r_take 15 (.bool false) (RB.pre _ _) rfl (by kernel_rfl) (fun _ _ _ h => hQ.panic _ _ _ _ _ h) (.inl ⟨rfl, fun wq hq => (by kernel_rfl)⟩) ?_
      refine r_take 16 (.bool false) (RB.pre _ _) rfl (by kernel_rfl) (fun _ _ _ h => hQ.panic _ _ _ _ _ h) (.inl ⟨rfl, fun wq hq => (by kernel_rfl)⟩) ?_
      refine r_take 17 undef (RB.pre _ _) rfl (by kernel_rfl) (fun _ _ _ h => hQ.panic _ _ _ _ _ h) (.inr ⟨by kernel_rfl, rfl⟩) ?_
      refine r_take 18 undef (RB.pre _ _) rfl (by kernel_rfl) (fun _ _ _ h => hQ.panic _ _ _ _ _ h) (.inr ⟨by kernel_rfl, rfl⟩) ?_
      refine r_take 19 undef (RB.pre _ _) rfl (by kernel_rfl) (fun _ _ _ h => hQ.panic _ _ _ _ _ h) (.inr ⟨by kernel_rfl, rfl⟩) ?_
      refine r_take 20 undef (RB.pre _ _) rfl (by kernel_rfl) (fun _ _ _ h => hQ.panic _ _ _ _ _ h) (.inr ⟨by kernel_rfl, rfl⟩) ?_
      refine r_take 21 undef (RB.pre _ _) rfl (by kernel_rfl) (fun _ _ _ h => hQ.panic _ _ _ _ _ h) (.inr ⟨by kernel_rfl, rfl⟩) ?_
      refine r_take 22 undef (RB.pre _ _) rfl (by kernel_rfl) (fun _ _ _ h => hQ.panic _ _ _ _ _ h) (.inr ⟨by kernel_rfl, rfl⟩) ?_
      refine r_take 23 undef (RB.pre _ _) rfl (by kernel_rfl) (fun _ _ _ h => hQ.panic _ _ _ _ _ h) (.inr ⟨by kernel_rfl, rfl⟩) ?_
      refine r_take 24 undef (RB.pre _ _) rfl (by kernel_rfl) (fun _ _ _ h => hQ.panic _ _ _ _ _ h) (.inr ⟨by kernel_rfl, rfl⟩) ?_
      refine r_take 25 undef (RB.pre _ _) rfl (by kernel_rfl) (fun _ _ _ h => hQ.panic _ _ _ _ _ h) (.inr ⟨by kernel_rfl, rfl⟩) ?_
      refine r_take 26 undef (RB.pre _ _) rfl (by kernel_rfl) (fun _ _ _ h => hQ.panic _ _ _ _ _ h) (.inr ⟨by kernel_rfl, rfl⟩) ?_
      refine r_take 27 undef (RB.pre _ _) rfl (by kernel_rfl) (fun _ _ _ h => hQ.panic _ _ _ _ _ h) (.inr ⟨by kernel_rfl, rfl⟩) ?_
      refine r_take 28 undef (RB.pre _ _) rfl (by kernel_rfl) (fun _ _ _ h => hQ.panic _ _ _ _ _ h) (.inr ⟨by kernel_rfl, rfl⟩) ?_
      refine r_take 29 undef (RB.pre _ _) rfl (by kernel_rfl) (fun _ _ _ h => hQ.panic _ _ _ _ _ h) (.inr ⟨by kernel_rfl, rfl⟩) ?_
      refine r_take 30 undef (RB.pre _ _) rfl (by kernel_rfl) (fun _ _ _ h => hQ.panic _ _ _ _ _ h) (.inr ⟨by kernel_rfl, rfl⟩) ?_
      refine r_take 31 undef (RB.pre _ _) rfl (by kernel_rfl) (fun _ _ _ h => hQ.panic _ _ _ _ _ h) (.inr ⟨by kernel_rfl, rfl⟩) ?_
      refine r_take 32 (.bool false) (RB.pre _ _) rfl (by kernel_rfl) (fun _ _ _ h => hQ.panic _ _ _ _ _ h) (.inl ⟨rfl, fun wq hq => (by kernel_rfl)⟩) ?_
      refine r_ready [33] (by kernel_rfl) rfl (all_cons ⟨_, _, _, _, _, _, rfl, ?_⟩ all_nil)
      refine o_pv (.bool false) rfl (by kernel_rfl) ?_
      refine ⟨fun h => absurd h (by decide), ?_⟩
      refine r_done (by kernel_rfl) ?_
      refine then_normal (hJ58 _ _ _ ⟨[(7, (.bool false))], fit_mk (fun _ _ => rfl) (by kernel_rfl) (vs_cons (by kernel_rfl) vs_nil), ?_⟩)
      exact ⟨X, false, rfl, E78, hXo77, hS79, hta74, htb75, htn76, kt73, hp⟩
  ·
    rintro _ w55 g102 ⟨X56, s52, rfl, E60, hXo61, hS62, hta63, htb64, htn65, kt66, hv59⟩
    replace hp := hk54 s52 hv59
    refine then_normal (K16 _ _ _ _ ?_)
    refine cond_b s52 (by kernel_rfl) (fun h103 => ?_) (fun h103 => ?_)
    ·
      replace hp := hp.1 h103
      refine seq_ (fun _ K104 => ?_)
      refine reg_ ?_
      refine sq (o_pv (.int .i64 (1 : Int)) rfl (by kernel_rfl) ?_)
      refine nil_ ?_
      refine then_normal (K104 _ _ _ _ ?_)
      refine wp_ret ?_
      refine blk_ret ?_
      refine then_ret ?_
      refine end_ret hQ (.int .i64 (1 : Int)) (by kernel_rfl) ?_
      exact ⟨(1 : Int), hp, E60, rfl, (by decide : inR .i64 (1 : Int))⟩
    ·
      replace hp := hp.2 h103
      refine seq_ (fun _ K105 => ?_)
      obtain ⟨k125, hk126, hp⟩ := hp
      refine ground_ ?_
      refine join_ 2361183239235799351296 (fun lq w127 => ∃ (X128 : List Nat) (s124 : Bool), (lq = [(41, (.bool s124))]) ∧ (Evo [] w w127) ∧ (Old X128 w127) ∧ (Sub X X128) ∧ (k125 s124)) (fun Kj129 hJ130 => ?_) ?_
      ·
        refine reg_ ?_
        refine sq (o_pv (.int .i64 i) rfl (by kernel_rfl) ?_)
        refine sq (o_pv (.pointer (some ⟨bt1, 0, none⟩)) rfl (by kernel_rfl) ?_)
        refine sq (o_pv (.pointer (some ⟨bt1, 0, none⟩)) rfl (by kernel_rfl) ?_)
        refine sq (o_pv (.pointer (some ⟨bt1, 0, none⟩)) rfl (by kernel_rfl) ?_)
        refine sq (o_pv (.slice ata3 t.a.length cta4) rfl (x_load1 (by kernel_rfl) Tryd.isAgg22 (kt66.2.cell' 0 rfl)) ?_)
        refine sq (o_pv (.int .i64 (t.a.length : Int)) rfl (by kernel_rfl) ?_)
        by_cases h135 : i < (t.a.length : Int)
        ·
          replace hp := hp.1 h135
          refine sq (o_pv (.bool true) rfl (x_dt (p := i < (t.a.length : Int)) (by kernel_rfl) h135) ?_)
          refine sq (o_pv (.bool true) rfl (by kernel_rfl) ?_)
          refine sq (o_pv (.int .i64 j) (by kernel_rfl) (by kernel_rfl) ?_)
          refine sq (o_pv (.pointer (some ⟨bt1, 0, none⟩)) (by kernel_rfl) (by kernel_rfl) ?_)
          refine sq (o_pv (.pointer (some ⟨bt1, 0, none⟩)) (by kernel_rfl) (by kernel_rfl) ?_)
          refine sq (o_pv (.pointer (some ⟨bt1, 1, none⟩)) (by kernel_rfl) (by kernel_rfl) ?_)
          refine sq (o_pv (.slice atb6 t.b.length ctb7) (by kernel_rfl) (x_load1 (by kernel_rfl) Tryd.isAgg22 (kt66.2.cell' 1 rfl)) ?_)
          refine sq (o_pv (.int .i64 (t.b.length : Int)) (by kernel_rfl) (by kernel_rfl) ?_)
          by_cases h136 : j = (t.b.length : Int)
          ·
            replace hp := hp.1 h136
            refine sq (o_pv (.bool true) (by kernel_rfl) (x_dt (p := j = (t.b.length : Int)) (by kernel_rfl) h136) ?_)
            refine sq (o_pv (.bool true) (by kernel_rfl) (by kernel_rfl) ?_)
            refine sq (o_not (by kernel_rfl) ?_)
            refine sq (o_not (by kernel_rfl) ?_)
            refine sq (o_not (by kernel_rfl) ?_)
            refine sq (o_not (by kernel_rfl) ?_)
            refine sq (o_not (by kernel_rfl) ?_)
            refine sq (o_not (by kernel_rfl) ?_)
            refine sq (o_not (by kernel_rfl) ?_)
            refine sq (o_not (by kernel_rfl) ?_)
            refine sq (o_not (by kernel_rfl) ?_)
            refine sq (o_not (by kernel_rfl) ?_)
            refine sq (o_not (by kernel_rfl) ?_)
            refine sq (o_pv (.bool true) (by kernel_rfl) (by kernel_rfl) ?_)
            refine sq (o_pv (.bool true) rfl (by kernel_rfl) ?_)
            refine sq (o_pv (.bool true) rfl (by kernel_rfl) ?_)
            refine nil_ ?_
            refine then_normal (hJ130 _ _ _ ⟨[(41, (.bool true))], fit_mk (fun _ _ => rfl) (by kernel_rfl) (vs_cons (by kernel_rfl) vs_nil), ?_⟩)
            exact ⟨X56, true, rfl, E60, hXo61, hS62, hp⟩
          ·
            replace hp := hp.2 h136
            refine sq (o_pv (.bool false) (by kernel_rfl) (x_df (p := j = (t.b.length : Int)) (by kernel_rfl) h136) ?_)
            refine sq (o_pv (.bool false) (by kernel_rfl) (by kernel_rfl) ?_)
            refine sq (o_pv (.pointer (some ⟨bt1, 0, none⟩)) (by kernel_rfl) (by kernel_rfl) ?_)
            refine sq (o_pv (.int .i64 i) (by kernel_rfl) (by kernel_rfl) ?_)
            obtain ⟨h137, hp⟩ := hp
            refine sq (o_pv (.int .i64 (i + (1 : Int))) (by kernel_rfl) (x_add2 (k := .i64) (a := i) (b := (1 : Int)) (i + (1 : Int)) (by kernel_rfl) (by kernel_rfl) (wrap_inR h137)) ?_)
            refine sq (o_pv (.int .i64 j) (by kernel_rfl) (by kernel_rfl) ?_)
            refine sq (o_call 81 #[(.pointer (some ⟨bt1, 0, none⟩)), (.int .i64 (i + (1 : Int))), (.int .i64 j)] (by kernel_rfl) (x_call Tryd.call81 (by kernel_rfl)) (diff_table_at_w (X := []) (t := t) (i := i + (1 : Int)) (j := j) (Old.nil _) ⟨(fun hm => by cases hm), kt66.2⟩ (Sl.less hta63 (Sub.nil _)) (Sl.less htb64 (Sub.nil _)) (Sl.less htn65 (Sub.nil _)) h137 rj13 hp) ?_)
            rintro _ w139 ⟨r138, hp, e140, rfl, rr142⟩
            have s141 := Step.of0 X56 e140
            replace hp := hp rr142
            refine sq (o_pv (.pointer (some ⟨bt1, 0, none⟩)) (by kernel_rfl) (by kernel_rfl) ?_)
            refine sq (o_pv (.int .i64 i) (by kernel_rfl) (by kernel_rfl) ?_)
            refine sq (o_pv (.int .i64 j) (by kernel_rfl) (by kernel_rfl) ?_)
            obtain ⟨h143, hp⟩ := hp
            refine sq (o_pv (.int .i64 (j + (1 : Int))) (by kernel_rfl) (x_add2 (k := .i64) (a := j) (b := (1 : Int)) (j + (1 : Int)) (by kernel_rfl) (by kernel_rfl) (wrap_inR h143)) ?_)
            have kt144 := (RO.step kt66 s141)
            have hta145 := (Sl.step hta63 s141)
            have htb146 := (Sl.step htb64 s141)
            have htn147 := (Sl.step htn65 s141)
            refine sq (o_call 81 #[(.pointer (some ⟨bt1, 0, none⟩)), (.int .i64 i), (.int .i64 (j + (1 : Int)))] (by kernel_rfl) (x_call Tryd.call81 (by kernel_rfl)) (diff_table_at_w (X := []) (t := t) (i := i) (j := j + (1 : Int)) (Old.nil _) ⟨(fun hm => by cases hm), kt144.2⟩ (Sl.less hta145 (Sub.nil _)) (Sl.less htb146 (Sub.nil _)) (Sl.less htn147 (Sub.nil _)) ri12 h143 hp) ?_)
            rintro _ w149 ⟨r148, hp, e150, rfl, rr152⟩
            have s151 := Step.of0 X56 e150
            replace hp := hp rr152
            refine sq (o_pv (.bool (decide (r138 ≥ r148))) (by kernel_rfl) (by kernel_rfl) ?_)
            refine sq (o_pv (.bool (decide (r138 ≥ r148))) (by kernel_rfl) (by kernel_rfl) ?_)
            refine sq (o_pv (.bool (decide (r138 ≥ r148))) rfl (by kernel_rfl) ?_)
            refine sq (o_pv (.bool (decide (r138 ≥ r148))) rfl (by kernel_rfl) ?_)
            refine nil_ ?_
            have E153 := (Evo.then0 (Evo.then0 E60 e140) e150)
            have hXo154 := (Old.step (Old.step hXo61 s141) s151)
            have hS155 := (Sub.trans (Sub.trans hS62 (Step.up s141)) (Step.up s151))
            refine then_normal (hJ130 _ _ _ ⟨[(41, (.bool (decide (r138 ≥ r148))))], fit_mk (fun _ _ => rfl) (by kernel_rfl) (vs_cons (by kernel_rfl) vs_nil), ?_⟩)
            exact ⟨X56, (decide (r138 ≥ r148)), rfl, E153, hXo154, hS155, hp⟩
        ·
          replace hp := hp.2 h135
          refine sq (o_pv (.bool false) rfl (x_df (p := i < (t.a.length : Int)) (by kernel_rfl) h135) ?_)
          refine sq (o_pv (.bool false) rfl (by kernel_rfl) ?_)
          refine sq (o_not (by kernel_rfl) ?_)
          refine sq (o_not (by kernel_rfl) ?_)
          refine sq (o_not (by kernel_rfl) ?_)
          refine sq (o_not (by kernel_rfl) ?_)
          refine sq (o_not (by kernel_rfl) ?_)
          refine sq (o_not (by kernel_rfl) ?_)
          refine sq (o_not (by kernel_rfl) ?_)
          refine sq (o_not (by kernel_rfl) ?_)
          refine sq (o_not (by kernel_rfl) ?_)
          refine sq (o_not (by kernel_rfl) ?_)
          refine sq (o_not (by kernel_rfl) ?_)
          refine sq (o_not (by kernel_rfl) ?_)
          refine sq (o_not (by kernel_rfl) ?_)
          refine sq (o_not (by kernel_rfl) ?_)
          refine sq (o_not (by kernel_rfl) ?_)
          refine sq (o_not (by kernel_rfl) ?_)
          refine sq (o_not (by kernel_rfl) ?_)
          refine sq (o_not (by kernel_rfl) ?_)
          refine sq (o_not (by kernel_rfl) ?_)
          refine sq (o_not (by kernel_rfl) ?_)
          refine sq (o_pv (.bool false) rfl (by kernel_rfl) ?_)
          refine sq (o_pv (.bool false) rfl (by kernel_rfl) ?_)
          refine nil_ ?_
          refine then_normal (hJ130 _ _ _ ⟨[(41, (.bool false))], fit_mk (fun _ _ => rfl) (by kernel_rfl) (vs_cons (by kernel_rfl) vs_nil), ?_⟩)
          exact ⟨X56, false, rfl, E60, hXo61, hS62, hp⟩
      ·
        rintro _ w127 g156 ⟨X128, s124, rfl, E132, hXo133, hS134, hv131⟩
        replace hp := hk126 s124 hv131
        refine then_normal (K105 _ _ _ _ ?_)
        refine cond_b s124 (by kernel_rfl) (fun h157 => ?_) (fun h157 => ?_)
        ·
          replace hp := hp.1 h157
          refine seq_ (fun _ K158 => ?_)
          refine reg_ ?_
          refine sq (o_pv (.int .i64 (2 : Int)) rfl (by kernel_rfl) ?_)
          refine nil_ ?_
          refine then_normal (K158 _ _ _ _ ?_)
          refine wp_ret ?_
          refine blk_ret ?_
          refine then_ret ?_
          refine end_ret hQ (.int .i64 (2 : Int)) (by kernel_rfl) ?_
          exact ⟨(2 : Int), hp, E132, rfl, (by decide : inR .i64 (2 : Int))⟩
        ·
          replace hp := hp.2 h157
          refine wp_skip ?_
          refine blk_normal ?_
          refine then_normal (K15 _ _ _ _ ?_)
          refine seq_ (fun _ K159 => ?_)
          refine reg_ ?_
          refine sq (o_pv (.int .i64 (3 : Int)) rfl (by kernel_rfl) ?_)
          refine nil_ ?_
          refine then_normal (K159 _ _ _ _ ?_)
          refine wp_ret ?_
          refine end_ret hQ (.int .i64 (3 : Int)) (by kernel_rfl) ?_
          exact ⟨(3 : Int), hp, E132, rfl, (by decide : inR .i64 (3 : Int))⟩

def slices_Clip_diff_Edit_diff_Edit_p (s : (List S_diff_Edit)) (Q : (List S_diff_Edit) → Prop) : Prop :=
  ((s.length ≤ 9223372036854775807) → ((0 ≤ (s.length : Int) ∧ (s.length : Int) ≤ (s.length : Int)) ∧ Q s))
set_option maxRecDepth 20000 in
set_option maxHeartbeats 4000000 in
theorem slices_Clip_diff_Edit_diff_Edit_w {X : List Nat} {w : World} {s : (List S_diff_Edit)} {as1 : Option Addr} {cs2 : Nat} {Q : (List S_diff_Edit) → Prop} (hX0 : Old X w) (hs3 : Sl r_diff_Edit X w as1 cs2 s) (hp : slices_Clip_diff_Edit_diff_Edit_p s Q) :
    Calls Tryd.prog 79 #[(.slice as1 s.length cs2)] w (Ret fun v w' => ∃ (r0 : (List S_diff_Edit)), Q r0 ∧ Evo [] w w' ∧ ∃ (aq01 : Option Addr), v = (.slice aq01 r0.length r0.length) ∧ Sl r_diff_Edit X w' aq01 r0.length r0) := by
  have hXo := hX0
  have E0 : Evo [] w w := RB.refl _ _ _
  have hS : Sub X X := Sub.refl _
  unfold slices_Clip_diff_Edit_diff_Edit_p at hp
  refine enter_ Tryd.func79 rfl 9 [(0, (.slice as1 s.length cs2))] (by kernel_rfl) (fun Qe hQ => ?_)
  replace hp := hp (Sl.len hs3)
  refine seq_ (fun _ K4 => ?_)
  refine reg_ ?_
  refine sq (o_pv (.slice none 0 0) rfl (by kernel_rfl) ?_)
  refine nil_ ?_
  refine then_normal (K4 _ _ _ _ ?_)
  refine seq_ (fun _ K5 => ?_)
  refine reg_ ?_
  refine sq (o_pv (.slice as1 s.length cs2) rfl (by kernel_rfl) ?_)
  refine sq (o_pv (.slice as1 s.length cs2) rfl (by kernel_rfl) ?_)
  refine sq (o_pv (.int .i64 (s.length : Int)) rfl (by kernel_rfl) ?_)
  refine sq (o_pv (.slice as1 s.length cs2) rfl (by kernel_rfl) ?_)
  refine sq (o_pv (.int .i64 (s.length : Int)) rfl (by kernel_rfl) ?_)
  obtain ⟨h9, hp⟩ := hp
  refine sq (o_slice3F (R := r_diff_Edit) (k := .i64) (k' := .i64) (X := X) (L := s) (s.length : Int) Tryd.underlying33 Tryd.sizeOf100 hs3 (by kernel_rfl) rfl rfl (by kernel_rfl) (by kernel_rfl) h9 ?_)
  intro a6 h8
  rw [take_len] at h8
  rw [take_len]
  refine sq (o_pv (.slice a6 s.length s.length) rfl (by kernel_rfl) ?_)
  refine nil_ ?_
  refine then_normal (K5 _ _ _ _ ?_)
  refine wp_ret ?_
  refine end_ret hQ (.slice a6 s.length s.length) (by kernel_rfl) ?_
  exact ⟨s, hp, E0, a6, rfl, (Sl.less h8 hS)⟩
theorem slices_Clip_diff_Edit_diff_Edit_keep {w : World} {a : Option Addr} {m c : Nat} (hmc : m ≤ c) : Calls Tryd.prog 79 #[(.slice a m c)] w (Ret fun v w' => v = (.slice a m m) ∧ w' = w) := by
  refine enter_ Tryd.func79 rfl 9 [(0, (.slice a m c))] (by kernel_rfl) (fun Qe hQ => ?_)
  refine seq_ (fun _ K4 => ?_)
  refine reg_ ?_
  refine sq (o_pv (.slice none 0 0) rfl (by kernel_rfl) ?_)
  refine nil_ ?_
  refine then_normal (K4 _ _ _ _ ?_)
  refine seq_ (fun _ K5 => ?_)
  refine reg_ ?_
  refine sq (o_pv (.slice a m c) rfl (by kernel_rfl) ?_)
  refine sq (o_pv (.slice a m c) rfl (by kernel_rfl) ?_)
  refine sq (o_pv (.int .i64 (m : Int)) rfl (by kernel_rfl) ?_)
  refine sq (o_pv (.slice a m c) rfl (by kernel_rfl) ?_)
  refine sq (o_pv (.int .i64 (m : Int)) rfl (by kernel_rfl) ?_)
  refine sq (o_slice3K (a := a) (m := m) (c := c) (k := .i64) (k' := .i64) Tryd.underlying33 Tryd.sizeOf100 (by kernel_rfl) hmc rfl (by kernel_rfl) (by kernel_rfl) ?_)
  refine sq (o_pv (.slice a m m) rfl (by kernel_rfl) ?_)
  refine nil_ ?_
  refine then_normal (K5 _ _ _ _ ?_)
  refine wp_ret ?_
  refine end_ret hQ (.slice a m m) (by kernel_rfl) ?_
  exact ⟨rfl, rfl⟩

def diff_Lines_p (a : (List ByteArray)) (b : (List ByteArray)) (Q : (List S_diff_Edit) → PErr → Prop) : Prop :=
  ((a.length ≤ 9223372036854775807) → ((b.length ≤ 9223372036854775807) → (diff_made_p a b (fun (r9 : (Option S_diff_table)) (r10 : PErr) => ((((!r10.isNil) = true) → Q ([] : List S_diff_Edit) r10) ∧ (((!r10.isNil) = false) → (∃ d272 : S_diff_table, (r9 = some d272) ∧ ((d272.a.length ≤ 9223372036854775807) → ((d272.b.length ≤ 9223372036854775807) → ((d272.n.length ≤ 9223372036854775807) → (∃ (I782 : (List S_diff_Edit) → Int → Int → Prop) (m783 : (List S_diff_Edit) → Int → Int → Nat), (I782 ([] : List S_diff_Edit) (0 : Int) (0 : Int)) ∧ (∀ (out529 : (List S_diff_Edit)) (i534 : Int) (j536 : Int), (I782 out529 i534 j536) → (out529.length ≤ 9223372036854775807) → (inR .i64 i534) → (inR .i64 j536) → (∃ k810 : Bool → Prop, (∀ (s809 : Bool), k810 s809 → (((s809 = true) → (diff_table_step_p d272 i534 j536 (fun (r831 : Int) => ((inR .i64 r831) → (∃ k925 : Int → Int → ByteArray → Prop, (∀ (i919 : Int) (j921 : Int) (line923 : ByteArray), k925 i919 j921 line923 → (inR .i64 i919) → (inR .i64 j921) → (line923.size ≤ maxLen) → (((out529.length + ([(S_diff_Edit.mk r831 line923)]).length) * 24 ≤ 140737488355328) ∧ ((I782 (out529 ++ ([(S_diff_Edit.mk r831 line923)])) i919 j921) ∧ m783 (out529 ++ ([(S_diff_Edit.mk r831 line923)])) i919 j921 < m783 out529 i534 j536))) ∧ (∃ k967 : Int → Prop, (∀ (j965 : Int), k967 j965 → (inR .i64 j965) → ((inL a i534) ∧ (((lget a i534).size ≤ maxLen) → ((inR .i64 (i534 + (1 : Int))) ∧ (k925 (i534 + (1 : Int)) j965 (lget a i534)))))) ∧ (((r831 = (1 : Int)) → ((inR .i64 (j536 + (1 : Int))) ∧ (k967 (j536 + (1 : Int))))) ∧ ((¬ (r831 = (1 : Int))) → (((r831 = (2 : Int)) → (k967 j536)) ∧ ((¬ (r831 = (2 : Int))) → (((r831 = (3 : Int)) → ((inL b j536) ∧ (((lget b j536).size ≤ maxLen) → ((inR .i64 (j536 + (1 : Int))) ∧ (k925 i534 (j536 + (1 : Int)) (lget b j536)))))) ∧ ((¬ (r831 = (3 : Int))) → (k925 i534 j536 (ByteArray.mk #[])))))))))))))) ∧ ((s809 = false) → (slices_Clip_diff_Edit_diff_Edit_p out529 (fun (r1057 : (List S_diff_Edit)) => ((r1057.length ≤ 9223372036854775807) → Q r1057 PErr.nil)))))) ∧ (((i534 < (a.length : Int)) → (k810 true)) ∧ ((¬ (i534 < (a.length : Int))) → (k810 (decide (j536 < (b.length : Int)))))))))))))))))))
set_option maxRecDepth 20000 in
set_option maxHeartbeats 4000000 in
theorem diff_Lines_w {X : List Nat} {w : World} {a : (List ByteArray)} {b : (List ByteArray)} {aa1 : Option Addr} {ca2 : Nat} {ab4 : Option Addr} {cb5 : Nat} {Q : (List S_diff_Edit) → PErr → Prop} (hX0 : Old X w) (ha3 : Sl rStr X w aa1 ca2 a) (hb6 : Sl rStr X w ab4 cb5 b) (hp : diff_Lines_p a b Q) :
    Calls Tryd.prog 38 #[(.slice aa1 a.length ca2), (.slice ab4 b.length cb5)] w (Ret fun v w' => ∃ (r0 : (List S_diff_Edit)) (r1 : PErr), Q r0 r1 ∧ Evo [] w w' ∧ ∃ (aq01 : Option Addr) (cq02 : Nat) (vq14 : Value), v = .tuple #[(.slice aq01 r0.length cq02), vq14] ∧ Sl r_diff_Edit X w' aq01 cq02 r0 ∧ (rErr 63 122 124).ok X w' ([vq14]) r1) := by
  have hXo := hX0
  have E0 : Evo [] w w := RB.refl _ _ _
  have hS : Sub X X := Sub.refl _
  unfold diff_Lines_p at hp
  refine enter_ Tryd.func38 rfl 65 [(0, (.slice aa1 a.length ca2)), (1, (.slice ab4 b.length cb5))] (by kernel_rfl) (fun Qe hQ => ?_)
  replace hp := hp (Sl.len ha3)
  replace hp := hp (Sl.len hb6)
  refine seq_ (fun _ K7 => ?_)
  refine reg_ ?_
  refine sq (o_pv (.slice none 0 0) rfl (by kernel_rfl) ?_)
  refine sq (o_pv .nilIface rfl (by kernel_rfl) ?_)
  refine nil_ ?_
  refine then_normal (K7 _ _ _ _ ?_)
  refine seq_ (fun _ K8 => ?_)
  refine reg_ ?_
  refine sq (o_pv (.slice aa1 a.length ca2) rfl (by kernel_rfl) ?_)
  refine sq (o_pv (.slice ab4 b.length cb5) rfl (by kernel_rfl) ?_)
  refine sq (o_call 77 #[(.slice aa1 a.length ca2), (.slice ab4 b.length cb5)] rfl (x_call Tryd.call77 (by kernel_rfl)) (diff_made_w (X := X) (a := a) (b := b) hXo ha3 hb6 hp) ?_)
  rintro _ w11 ⟨r9, r10, hp, e12, vr14, vr16, rfl, hr15, hr17⟩
  have s13 := Step.of0 X e12
  refine sq (o_pv (.tuple #[vr14, vr16]) rfl (by kernel_rfl) ?_)
  refine sq (o_pv vr14 rfl (by kernel_rfl) ?_)
  refine sq (o_pv vr16 rfl (by kernel_rfl) ?_)
  refine sq (o_pv vr14 rfl (by kernel_rfl) ?_)
  refine sq (o_pv vr16 rfl (by kernel_rfl) ?_)
  refine nil_ ?_
  refine then_normal (K8 _ _ _ _ ?_)
  refine seq_ (fun _ K18 => ?_)
  refine seq_ (fun _ K19 => ?_)
  refine reg_ ?_
  refine sq (o_pv vr16 rfl (by kernel_rfl) ?_)
  refine sq (o_pv (.bool (!r10.isNil)) rfl (x_err_ne r10 hr17 Tryd.underlying43 (by kernel_rfl)) ?_)
  refine nil_ ?_
  refine then_normal (K19 _ _ _ _ ?_)
  refine cond_b (!r10.isNil) (by kernel_rfl) (fun h20 => ?_) (fun h20 => ?_)
  ·
    replace hp := hp.1 h20
    refine seq_ (fun _ K21 => ?_)
    refine reg_ ?_
    refine sq (o_pv vr16 rfl (by kernel_rfl) ?_)
    refine sq (o_pv (.slice none 0 0) rfl (by kernel_rfl) ?_)
    refine sq (o_pv vr16 rfl (by kernel_rfl) ?_)
    refine nil_ ?_
    refine then_normal (K21 _ _ _ _ ?_)
    refine wp_ret ?_
    refine then_ret ?_
    have hS22 := (Sub.trans hS (Step.up s13))
    have E23 := (Evo.then0 E0 e12)
    refine end_ret hQ (.tuple #[(.slice none 0 0), vr16]) (by kernel_rfl) ?_
    exact ⟨([] : List S_diff_Edit), r10, hp, E23, none, 0, vr16, rfl, Sl.nil, (Rep.less (rErr 63 122 124) hr17 hS22)⟩
  ·
    replace hp := hp.2 h20
    refine wp_skip ?_
    refine then_normal (K18 _ _ _ _ ?_)
    refine seq_ (fun _ K24 => ?_)
    refine reg_ ?_
    refine sq (o_pv (.slice none 0 0) rfl (by kernel_rfl) ?_)
    refine nil_ ?_
    refine then_normal (K24 _ _ _ _ ?_)
    refine seq_ (fun _ K25 => ?_)
    refine seq_ (fun _ K26 => ?_)
    refine reg_ ?_
    refine sq (o_pv (.int .i64 (0 : Int)) rfl (by kernel_rfl) ?_)
    refine sq (o_pv (.int .i64 (0 : Int)) rfl (by kernel_rfl) ?_)
    refine nil_ ?_
    refine then_normal (K26 _ _ _ _ ?_)
    refine wp_block ?_
    obtain ⟨d272, h273, hp⟩ := hp
    rw [h273] at hr15
    obtain ⟨b274, cs275, hvb274, nb276, k277, ok278⟩ := hr15
    injection hvb274 with hvb274 _; subst hvb274
    obtain ⟨apa279, cpa280, apb282, cpb283, apn285, cpn286, rfl, hpa281, hpb284, hpn287⟩ := r_diff_table_open ok278
    replace hp := hp (Sl.len hpa281)
    replace hp := hp (Sl.len hpb284)
    replace hp := hp (Sl.len hpn287)
    have k288 := (⟨nb276, k277⟩ : RO _ _ _ _ _)
    have ha792 := (Sl.step ha3 s13)
    have hb793 := (Sl.step hb6 s13)
    have hXo794 := (Old.step hXo s13)
    have E795 := (Evo.then0 E0 e12)
    have hS796 := (Sub.trans hS (Step.up s13))
    obtain ⟨I782, m783, hI784, hp⟩ := hp
    refine loop_ 9223372036850589440 (fun kq lq w786 => ∃ (X787 : List Nat) (out529 : (List S_diff_Edit)) (i534 : Int) (j536 : Int) (a530 : Option Addr) (n531 : Nat) (c532 : Nat), (lq = [(8, (.slice a530 n531 c532)), (9, (.int .i64 i534)), (10, (.int .i64 j536))]) ∧ (kq = m783 out529 i534 j536) ∧ (Evo [] w w786) ∧ (Old X787 w786) ∧ (Sub X X787) ∧ (Sl rStr X787 w786 aa1 ca2 a) ∧ (Sl rStr X787 w786 ab4 cb5 b) ∧ (Sl rStr X787 w786 apa279 cpa280 d272.a) ∧ (Sl rStr X787 w786 apb282 cpb283 d272.b) ∧ (Sl (rInt .i64) X787 w786 apn285 cpn286 d272.n) ∧ (RO X787 w786 b274 [(.slice apa279 d272.a.length cpa280), (.slice apb282 d272.b.length cpb283), (.slice apn285 d272.n.length cpn286)] 177) ∧ (OS r_diff_Edit ([]) w.heap.size X787 w786 100 a530 n531 c532 out529) ∧ (inR .i64 i534) ∧ (inR .i64 j536) ∧ (I782 out529 i534 j536)) (m783 ([] : List S_diff_Edit) (0 : Int) (0 : Int)) [(8, (.slice none 0 0)), (9, (.int .i64 (0 : Int))), (10, (.int .i64 (0 : Int)))] (vs_cons (by kernel_rfl) (vs_cons (by kernel_rfl) (vs_cons (by kernel_rfl) vs_nil))) ⟨X, ([] : List S_diff_Edit), (0 : Int), (0 : Int), none, 0, 0, rfl, rfl, E795, hXo794, hS796, ha792, hb793, hpa281, hpb284, hpn287, k288, (OS.nil _ _ _ _), (by decide : inR .i64 (0 : Int)), (by decide : inR .i64 (0 : Int)), hI784⟩ ?_
    rintro _ _ w786 g789 ⟨X787, out529, i534, j536, a530, n531, c532, rfl, rfl, E797, hXo798, hS799, ha800, hb801, hpa802, hpb803, hpn804, k805, O533, ri535, rj537, hI785⟩ Kl790 hA791
    replace hp := hp out529 i534 j536 hI785 (OS.len O533) ri535 rj537
    refine seq_ (fun _ K806 => ?_)
    refine seq_ (fun _ K807 => ?_)
    obtain ⟨k810, hk811, hp⟩ := hp
    refine ground_ ?_
    refine join_ 4290772992 (fun lq w812 => ∃ (X813 : List Nat) (s809 : Bool), (lq = [(31, (.bool s809))]) ∧ (Evo [] w w812) ∧ (Old X813 w812) ∧ (Sub X X813) ∧ (Sl rStr X813 w812 aa1 ca2 a) ∧ (Sl rStr X813 w812 ab4 cb5 b) ∧ (OS r_diff_Edit ([]) w.heap.size X813 w812 100 a530 n531 c532 out529) ∧ (Sl rStr X813 w812 apa279 cpa280 d272.a) ∧ (Sl rStr X813 w812 apb282 cpb283 d272.b) ∧ (Sl (rInt .i64) X813 w812 apn285 cpn286 d272.n) ∧ (RO X813 w812 b274 [(.slice apa279 d272.a.length cpa280), (.slice apb282 d272.b.length cpb283), (.slice apn285 d272.n.length cpn286)] 177) ∧ (k810 s809)) (fun Kj814 hJ815 => ?_) ?_
    ·
      refine reg_ ?_
      refine sq (o_pv (.int .i64 i534) rfl (by kernel_rfl) ?_)
      refine sq (o_pv (.slice aa1 a.length ca2) rfl (by kernel_rfl) ?_)
      refine sq (o_pv (.int .i64 (a.length : Int)) rfl (by kernel_rfl) ?_)
      by_cases h827 : i534 < (a.length : Int)
      ·
        replace hp := hp.1 h827
        refine sq (o_pv (.bool true) rfl (x_dt (p := i534 < (a.length : Int)) (by kernel_rfl) h827) ?_)
        refine sq (o_pv (.bool true) rfl (by kernel_rfl) ?_)
        refine sq (o_not (by kernel_rfl) ?_)
        refine sq (o_not (by kernel_rfl) ?_)
        refine sq (o_not (by kernel_rfl) ?_)
        refine sq (o_not (by kernel_rfl) ?_)
        refine sq (o_pv (.bool true) rfl (by kernel_rfl) ?_)
        refine nil_ ?_
        refine then_normal (hJ815 _ _ _ ⟨[(31, (.bool true))], fit_mk (fun _ _ => rfl) (by kernel_rfl) (vs_cons (by kernel_rfl) vs_nil), ?_⟩)
        exact ⟨X787, true, rfl, E797, hXo798, hS799, ha800, hb801, O533, hpa802, hpb803, hpn804, k805, hp⟩
      ·
        replace hp := hp.2 h827
        refine sq (o_pv (.bool false) rfl (x_df (p := i534 < (a.length : Int)) (by kernel_rfl) h827) ?_)
        refine sq (o_pv (.bool false) rfl (by kernel_rfl) ?_)
        refine sq (o_pv (.int .i64 j536) (by kernel_rfl) (by kernel_rfl) ?_)
        refine sq (o_pv (.slice ab4 b.length cb5) (by kernel_rfl) (by kernel_rfl) ?_)
        refine sq (o_pv (.int .i64 (b.length : Int)) (by kernel_rfl) (by kernel_rfl) ?_)
        refine sq (o_pv (.bool (decide (j536 < (b.length : Int)))) (by kernel_rfl) (by kernel_rfl) ?_)
        refine sq (o_pv (.bool (decide (j536 < (b.length : Int)))) rfl (by kernel_rfl) ?_)
        refine nil_ ?_
        refine then_normal (hJ815 _ _ _ ⟨[(31, (.bool (decide (j536 < (b.length : Int)))))], fit_mk (fun _ _ => rfl) (by kernel_rfl) (vs_cons (by kernel_rfl) vs_nil), ?_⟩)
        exact ⟨X787, (decide (j536 < (b.length : Int))), rfl, E797, hXo798, hS799, ha800, hb801, O533, hpa802, hpb803, hpn804, k805, hp⟩
    ·
      rintro _ w812 g828 ⟨X813, s809, rfl, E817, hXo818, hS819, ha820, hb821, O822, hpa823, hpb824, hpn825, k826, hv816⟩
      replace hp := hk811 s809 hv816
      refine then_normal (K807 _ _ _ _ ?_)
      refine cond_b s809 (by kernel_rfl) (fun h829 => ?_) (fun h829 => ?_)
      ·
        replace hp := hp.1 h829
        refine wp_skip ?_
        refine then_normal (K806 _ _ _ _ ?_)
        refine wp_block ?_
        refine seq_ (fun _ K830 => ?_)
        refine reg_ ?_
        refine sq (o_pv (.pointer (some ⟨b274, 0, none⟩)) rfl (by kernel_rfl) ?_)
        refine sq (o_pv (.int .i64 i534) rfl (by kernel_rfl) ?_)
        refine sq (o_pv (.int .i64 j536) rfl (by kernel_rfl) ?_)
        refine sq (o_call 78 #[(.pointer (some ⟨b274, 0, none⟩)), (.int .i64 i534), (.int .i64 j536)] rfl (x_call Tryd.call78 (by kernel_rfl)) (diff_table_step_w (X := []) (t := d272) (i := i534) (j := j536) (Old.nil _) ⟨(fun hm => by cases hm), k826.2⟩ (Sl.less hpa823 (Sub.nil _)) (Sl.less hpb824 (Sub.nil _)) (Sl.less hpn825 (Sub.nil _)) ri535 rj537 hp) ?_)
        rintro _ w832 ⟨r831, hp, e833, rfl, rr835⟩
        have s834 := Step.of0 X813 e833
        replace hp := hp rr835
        refine sq (o_pv (.int .i64 r831) rfl (by kernel_rfl) ?_)
        refine nil_ ?_
        refine then_normal (K830 _ _ _ _ ?_)
        refine seq_ (fun _ K836 => ?_)
        refine reg_ ?_
        refine sq (o_pv (.string (ByteArray.mk #[])) rfl (by kernel_rfl) ?_)
        refine nil_ ?_
        refine then_normal (K836 _ _ _ _ ?_)
        refine seq_ (fun _ K837 => ?_)
        refine seq_ (fun _ K838 => ?_)
        refine reg_ ?_
        refine sq (o_pv (.int .i64 r831) rfl (by kernel_rfl) ?_)
        refine nil_ ?_
        refine then_normal (K838 _ _ _ _ ?_)
        have E932 := (Evo.then0 E817 e833)
        have hXo933 := (Old.step hXo818 s834)
        have hS934 := (Sub.trans hS819 (Step.up s834))
        have ha935 := (Sl.step ha820 s834)
        have hb936 := (Sl.step hb821 s834)
        have O937 := (OS.step0 O822 s834)
        have hpa938 := (Sl.step hpa823 s834)
        have hpb939 := (Sl.step hpb824 s834)
        have hpn940 := (Sl.step hpn825 s834)
        have k941 := (RO.step k826 s834)
        obtain ⟨k925, hk926, hp⟩ := hp
        refine ground_ ?_
        refine join_ 144115050636908032 (fun lq w927 => ∃ (X928 : List Nat) (i919 : Int) (j921 : Int) (line923 : ByteArray), (lq = [(9, (.int .i64 i919)), (10, (.int .i64 j921)), (12, (.string line923))]) ∧ (Evo [] w w927) ∧ (Old X928 w927) ∧ (Sub X X928) ∧ (Sl rStr X928 w927 aa1 ca2 a) ∧ (Sl rStr X928 w927 ab4 cb5 b) ∧ (OS r_diff_Edit ([]) w.heap.size X928 w927 100 a530 n531 c532 out529) ∧ (Sl rStr X928 w927 apa279 cpa280 d272.a) ∧ (Sl rStr X928 w927 apb282 cpb283 d272.b) ∧ (Sl (rInt .i64) X928 w927 apn285 cpn286 d272.n) ∧ (RO X928 w927 b274 [(.slice apa279 d272.a.length cpa280), (.slice apb282 d272.b.length cpb283), (.slice apn285 d272.n.length cpn286)] 177) ∧ (inR .i64 i919) ∧ (inR .i64 j921) ∧ (line923.size ≤ maxLen) ∧ (k925 i919 j921 line923)) (fun Kj929 hJ930 => ?_) ?_
        ·
          refine wp_block ?_
          refine seq_ (fun _ K952 => ?_)
          refine wp_block ?_
          refine seq_ (fun _ K953 => ?_)
          obtain ⟨k967, hk968, hp⟩ := hp
          refine ground_ ?_
          refine join_ 35046933136384 (fun lq w969 => ∃ (X970 : List Nat) (j965 : Int), (lq = [(10, (.int .i64 j965))]) ∧ (Evo [] w w969) ∧ (Old X970 w969) ∧ (Sub X X970) ∧ (Sl rStr X970 w969 aa1 ca2 a) ∧ (Sl rStr X970 w969 ab4 cb5 b) ∧ (OS r_diff_Edit ([]) w.heap.size X970 w969 100 a530 n531 c532 out529) ∧ (Sl rStr X970 w969 apa279 cpa280 d272.a) ∧ (Sl rStr X970 w969 apb282 cpb283 d272.b) ∧ (Sl (rInt .i64) X970 w969 apn285 cpn286 d272.n) ∧ (RO X970 w969 b274 [(.slice apa279 d272.a.length cpa280), (.slice apb282 d272.b.length cpb283), (.slice apn285 d272.n.length cpn286)] 177) ∧ (inR .i64 j965) ∧ (k967 j965)) (fun Kj971 hJ972 => ?_) ?_
          ·
            refine wp_block ?_
            refine seq_ (fun _ K984 => ?_)
            refine wp_block ?_
            refine seq_ (fun _ K985 => ?_)
            refine seq_ (fun _ K986 => ?_)
            refine seq_ (fun _ K987 => ?_)
            refine reg_ ?_
            refine sq (o_pv (.bool (decide (r831 = (1 : Int)))) rfl (by kernel_rfl) ?_)
            refine sq (o_pv (.bool (decide (r831 = (1 : Int)))) rfl (by kernel_rfl) ?_)
            refine nil_ ?_
            refine then_normal (K987 _ _ _ _ ?_)
            refine cond_d (r831 = (1 : Int)) (by kernel_rfl) (fun h988 => ?_) (fun h988 => ?_)
            ·
              replace hp := hp.1 h988
              refine wp_exit ?_
              refine then_exit ?_
              refine then_exit ?_
              refine blk_exit ?_
              refine then_normal (K984 _ _ _ _ ?_)
              refine reg_ ?_
              refine sq (o_pv (.int .i64 j536) rfl (by kernel_rfl) ?_)
              obtain ⟨h989, hp⟩ := hp
              refine sq (o_pv (.int .i64 (j536 + (1 : Int))) rfl (x_add2 (k := .i64) (a := j536) (b := (1 : Int)) (j536 + (1 : Int)) (by kernel_rfl) (by kernel_rfl) (wrap_inR h989)) ?_)
              refine sq (o_pv (.int .i64 (j536 + (1 : Int))) rfl (by kernel_rfl) ?_)
              refine nil_ ?_
              refine blk_normal ?_
              refine then_normal (hJ972 _ _ _ ⟨[(10, (.int .i64 (j536 + (1 : Int))))], fit_mk (fun _ _ => rfl) (by kernel_rfl) (vs_cons (by kernel_rfl) vs_nil), ?_⟩)
              exact ⟨X813, (j536 + (1 : Int)), rfl, E932, hXo933, hS934, ha935, hb936, O937, hpa938, hpb939, hpn940, k941, h989, hp⟩
            ·
              replace hp := hp.2 h988
              refine wp_skip ?_
              refine then_normal (K986 _ _ _ _ ?_)
              refine seq_ (fun _ K990 => ?_)
              refine seq_ (fun _ K991 => ?_)
              refine reg_ ?_
              refine sq (o_pv (.bool (decide (r831 = (2 : Int)))) rfl (by kernel_rfl) ?_)
              refine sq (o_pv (.bool (decide (r831 = (2 : Int)))) rfl (by kernel_rfl) ?_)
              refine nil_ ?_
              refine then_normal (K991 _ _ _ _ ?_)
              refine cond_d (r831 = (2 : Int)) (by kernel_rfl) (fun h992 => ?_) (fun h992 => ?_)
              ·
                replace hp := hp.1 h992
                refine wp_exit ?_
                refine then_exit ?_
                refine then_exit ?_
                refine blk_exit_ne rfl ?_
                refine then_exit ?_
                refine blk_exit ?_
                refine then_normal (hJ972 _ _ _ ⟨[(10, (.int .i64 j536))], fit_mk (fun _ _ => rfl) (by kernel_rfl) (vs_cons (by kernel_rfl) vs_nil), ?_⟩)
                exact ⟨X813, j536, rfl, E932, hXo933, hS934, ha935, hb936, O937, hpa938, hpb939, hpn940, k941, rj537, hp⟩
              ·
                replace hp := hp.2 h992
                refine wp_skip ?_
                refine then_normal (K990 _ _ _ _ ?_)
                refine seq_ (fun _ K993 => ?_)
                refine reg_ ?_
                refine sq (o_pv (.bool (decide (r831 = (3 : Int)))) rfl (by kernel_rfl) ?_)
                refine sq (o_pv (.bool (decide (r831 = (3 : Int)))) rfl (by kernel_rfl) ?_)
                refine nil_ ?_
                refine then_normal (K993 _ _ _ _ ?_)
                refine cond_d (r831 = (3 : Int)) (by kernel_rfl) (fun h994 => ?_) (fun h994 => ?_)
                ·
                  replace hp := hp.1 h994
                  refine wp_exit ?_
                  refine then_exit ?_
                  refine blk_exit_ne rfl ?_
                  refine then_exit ?_
                  refine blk_exit_ne rfl ?_
                  refine then_exit ?_
                  refine then_exit ?_
                  refine blk_exit ?_
                  refine then_normal (K952 _ _ _ _ ?_)
                  refine seq_ (fun _ K995 => ?_)
                  refine seq_ (fun _ K996 => ?_)
                  refine reg_ ?_
                  refine sq (o_pv (.slice ab4 b.length cb5) rfl (by kernel_rfl) ?_)
                  refine sq (o_pv (.int .i64 j536) rfl (by kernel_rfl) ?_)
                  obtain ⟨h997, hp⟩ := hp
                  obtain ⟨b998, o999, cs1000, ha1001, nx1002, lt1003, ok1004, hc1005⟩ := Sl.atI hb936 j536 h997
                  obtain ⟨rfl, ze1006⟩ := ok1004
                  replace hp := hp ze1006
                  refine sq (o_pv (.pointer (some ⟨b998, o999 + j536.toNat * 1, none⟩)) rfl (x_ixA (m := b.length) (c := cb5) (k := .i64) (i := j536) Tryd.underlying22 Tryd.sizeOf9 (by rw [← ha1001]; kernel_rfl) (by kernel_rfl) h997) ?_)
                  refine sq (o_pv (.string (lget b j536)) rfl (x_load1 (by kernel_rfl) Tryd.isAgg9 (hc1005 0 _ rfl)) ?_)
                  refine sq (o_pv (.string (lget b j536)) rfl (by kernel_rfl) ?_)
                  refine nil_ ?_
                  refine then_normal (K996 _ _ _ _ ?_)
                  refine reg_ ?_
                  refine sq (o_pv (.int .i64 j536) rfl (by kernel_rfl) ?_)
                  obtain ⟨h1007, hp⟩ := hp
                  refine sq (o_pv (.int .i64 (j536 + (1 : Int))) rfl (x_add2 (k := .i64) (a := j536) (b := (1 : Int)) (j536 + (1 : Int)) (by kernel_rfl) (by kernel_rfl) (wrap_inR h1007)) ?_)
                  refine sq (o_pv (.int .i64 (j536 + (1 : Int))) rfl (by kernel_rfl) ?_)
                  refine nil_ ?_
                  refine then_normal (K995 _ _ _ _ ?_)
                  refine wp_exit ?_
                  refine blk_exit ?_
                  refine then_normal (hJ930 _ _ _ ⟨[(9, (.int .i64 i534)), (10, (.int .i64 (j536 + (1 : Int)))), (12, (.string (lget b j536)))], fit_mk (AgB.look (fun _ _ => rfl) (by kernel_rfl)) (by kernel_rfl) (vs_cons (by kernel_rfl) (vs_cons (by kernel_rfl) (vs_cons (by kernel_rfl) vs_nil))), ?_⟩)
                  exact ⟨X813, i534, (j536 + (1 : Int)), (lget b j536), rfl, E932, hXo933, hS934, ha935, hb936, O937, hpa938, hpb939, hpn940, k941, ri535, h1007, ze1006, hp⟩
                ·
                  replace hp := hp.2 h994
                  refine wp_skip ?_
                  refine then_normal (K985 _ _ _ _ ?_)
                  refine wp_exit ?_
                  refine blk_exit_ne rfl ?_
                  refine then_exit ?_
                  refine blk_exit_ne rfl ?_
                  refine then_exit ?_
                  refine then_exit ?_
                  refine blk_exit_ne rfl ?_
                  refine then_exit ?_
                  refine blk_exit ?_
                  refine then_normal (hJ930 _ _ _ ⟨[(9, (.int .i64 i534)), (10, (.int .i64 j536)), (12, (.string (ByteArray.mk #[])))], fit_mk (AgB.look (fun _ _ => rfl) (by kernel_rfl)) (by kernel_rfl) (vs_cons (by kernel_rfl) (vs_cons (by kernel_rfl) (vs_cons (by kernel_rfl) vs_nil))), ?_⟩)
                  exact ⟨X813, i534, j536, (ByteArray.mk #[]), rfl, E932, hXo933, hS934, ha935, hb936, O937, hpa938, hpb939, hpn940, k941, ri535, rj537, (by decide : (ByteArray.mk #[]).size ≤ maxLen), hp⟩
          ·
            rintro _ w969 g1008 ⟨X970, j965, rfl, E974, hXo975, hS976, ha977, hb978, O979, hpa980, hpb981, hpn982, k983, rj966, hv973⟩
            replace hp := hk968 j965 hv973 rj966
            refine then_normal (K953 _ _ _ _ ?_)
            refine seq_ (fun _ K1009 => ?_)
            refine seq_ (fun _ K1010 => ?_)
            refine reg_ ?_
            refine sq (o_pv (.slice aa1 a.length ca2) rfl (by kernel_rfl) ?_)
            refine sq (o_pv (.int .i64 i534) rfl (by kernel_rfl) ?_)
            obtain ⟨h1011, hp⟩ := hp
            obtain ⟨b1012, o1013, cs1014, ha1015, nx1016, lt1017, ok1018, hc1019⟩ := Sl.atI ha977 i534 h1011
            obtain ⟨rfl, ze1020⟩ := ok1018
            replace hp := hp ze1020
            refine sq (o_pv (.pointer (some ⟨b1012, o1013 + i534.toNat * 1, none⟩)) rfl (x_ixA (m := a.length) (c := ca2) (k := .i64) (i := i534) Tryd.underlying22 Tryd.sizeOf9 (by rw [← ha1015]; kernel_rfl) (by kernel_rfl) h1011) ?_)
            refine sq (o_pv (.string (lget a i534)) rfl (x_load1 (by kernel_rfl) Tryd.isAgg9 (hc1019 0 _ rfl)) ?_)
            refine sq (o_pv (.string (lget a i534)) rfl (by kernel_rfl) ?_)
            refine nil_ ?_
            refine then_normal (K1010 _ _ _ _ ?_)
            refine reg_ ?_
            refine sq (o_pv (.int .i64 i534) rfl (by kernel_rfl) ?_)
            obtain ⟨h1021, hp⟩ := hp
            refine sq (o_pv (.int .i64 (i534 + (1 : Int))) rfl (x_add2 (k := .i64) (a := i534) (b := (1 : Int)) (i534 + (1 : Int)) (by kernel_rfl) (by kernel_rfl) (wrap_inR h1021)) ?_)
            refine sq (o_pv (.int .i64 (i534 + (1 : Int))) rfl (by kernel_rfl) ?_)
            refine nil_ ?_
            refine then_normal (K1009 _ _ _ _ ?_)
            refine wp_exit ?_
            refine blk_exit_ne rfl ?_
            refine then_exit ?_
            refine blk_exit ?_
            refine then_normal (hJ930 _ _ _ ⟨[(9, (.int .i64 (i534 + (1 : Int)))), (10, (.int .i64 j965)), (12, (.string (lget a i534)))], fit_mk (AgB.nest (AgB.look (fun _ _ => rfl) (by kernel_rfl)) (by kernel_rfl) (by kernel_rfl)) (by kernel_rfl) (vs_cons (by kernel_rfl) (vs_cons (by kernel_rfl) (vs_cons (by kernel_rfl) vs_nil))), ?_⟩)
            exact ⟨X970, (i534 + (1 : Int)), j965, (lget a i534), rfl, E974, hXo975, hS976, ha977, hb978, O979, hpa980, hpb981, hpn982, k983, h1021, rj966, ze1020, hp⟩
        ·
          rintro _ w927 g1022 ⟨X928, i919, j921, line923, rfl, E942, hXo943, hS944, ha945, hb946, O947, hpa948, hpb949, hpn950, k951, ri920, rj922, zline924, hv931⟩
          replace hp := hk926 i919 j921 line923 hv931 ri920 rj922 zline924
          refine then_normal (K837 _ _ _ _ ?_)
          refine reg_ ?_
          refine sq (o_pv (.slice a530 n531 c532) rfl (by kernel_rfl) ?_)
          refine sq (o_pv (.int .i64 r831) rfl (by kernel_rfl) ?_)
          refine sq (o_pv (.string line923) rfl (by kernel_rfl) ?_)
          refine sq (o_pv (.agg #[(.int .i64 r831), (.string line923)]) rfl (by kernel_rfl) ?_)
          refine sq (o_rowX (R := r_diff_Edit) [(.int .i64 r831), (.string line923)] [(S_diff_Edit.mk r831 line923)] 100 1 (X := X928) (B := w.heap.size) E942.size rfl (by kernel_rfl) (Flat.cons (cs := [(.int .i64 r831), (.string line923)]) (r_diff_Edit_mk rr835 zline924) Flat.nil) rfl (by decide) ?_)
          intro b1023 w1024 X1025 s1026 O1027 n1028
          have p1029 := n1028 _ (OS.old O947)
          obtain ⟨h1030, hp⟩ := hp
          have O1031 := (OS.step0 O947 s1026)
          have E1032 := (Evo.then0 E942 (Step.evo s1026))
          refine sq (o_appX (R := r_diff_Edit) (X := X1025) (B := w.heap.size) (L := out529) (M := [(S_diff_Edit.mk r831 line923)]) rfl elT33 rfl E1032.size O1031 (OS.src O1027) O1027.1 (by kernel_rfl) (by kernel_rfl) h1030 ?_)
          intro a1033 n1034 c1035 w1036 X1037 s1038 O1039 gr1040
          refine sq (o_pv (.slice a1033 n1034 c1035) rfl (by kernel_rfl) ?_)
          refine nil_ ?_
          refine blk_normal ?_
          have E1041 := (Evo.thenW E1032 (Step.evo s1038) O1031.2.2)
          have hXo1042 := (Old.step (Old.step hXo943 s1026) s1038)
          have hS1043 := (Sub.trans (Sub.trans hS944 (Step.up s1026)) (Step.up s1038))
          have ha1044 := (Sl.step (Sl.step ha945 s1026) s1038)
          have hb1045 := (Sl.step (Sl.step hb946 s1026) s1038)
          have hpa1046 := (Sl.step (Sl.step hpa948 s1026) s1038)
          have hpb1047 := (Sl.step (Sl.step hpb949 s1026) s1038)
          have hpn1048 := (Sl.step (Sl.step hpn950 s1026) s1038)
          have k1049 := (RO.step (RO.step k951 s1026) s1038)
          refine then_normal (hA791 _ _ _ ⟨_, [(8, (.slice a1033 n1034 c1035)), (9, (.int .i64 i919)), (10, (.int .i64 j921))], hp.2, fit_mk (AgB.nest (AgB.look (AgB.nest (AgB.look (AgB.mix _ _ _) (by kernel_rfl)) (by kernel_rfl) (by kernel_rfl)) (by kernel_rfl)) (by kernel_rfl) (by kernel_rfl)) (by kernel_rfl) (vs_cons (by kernel_rfl) (vs_cons (by kernel_rfl) (vs_cons (by kernel_rfl) vs_nil))), ?_⟩)
          exact ⟨X1037, (out529 ++ ([(S_diff_Edit.mk r831 line923)])), i919, j921, a1033, n1034, c1035, rfl, rfl, E1041, hXo1042, hS1043, ha1044, hb1045, hpa1046, hpb1047, hpn1048, k1049, O1039, ri920, rj922, hp.1⟩
      ·
        replace hp := hp.2 h829
        refine wp_exit ?_
        refine then_exit ?_
        refine then_exit ?_
        refine blk_exit ?_
        refine then_normal (K25 _ _ _ _ ?_)
        refine seq_ (fun _ K1050 => ?_)
        refine reg_ ?_
        refine sq (o_pv (.slice a530 n531 c532) rfl (by kernel_rfl) ?_)
        have ax1055 := OS.apold O822 hX0
        obtain ⟨X1051, u1052, r1053, hm1054⟩ := OS.release O822
        obtain rfl : n531 = out529.length := O822.1
        have hXo1056 := (Old.less hXo818 u1052)
        refine sq (o_call 79 #[(.slice a530 out529.length c532)] rfl (x_call Tryd.call79 (by kernel_rfl)) (slices_Clip_diff_Edit_diff_Edit_w (X := X1051) (s := out529) hXo1056 r1053 hp) ?_)
        rintro _ w1058 ⟨r1057, hp, e1059, ar1061, rfl, hr1062⟩
        have s1060 := Step.of0 X1051 e1059
        replace hp := hp (Sl.len hr1062)
        refine sq (o_pv (.slice ar1061 r1057.length r1057.length) rfl (by kernel_rfl) ?_)
        refine sq (o_pv .nilIface rfl (by kernel_rfl) ?_)
        refine nil_ ?_
        refine then_normal (K1050 _ _ _ _ ?_)
        refine wp_ret ?_
        have hS1063 := (Sub.trans (hm1054 _ ax1055 hS819) (Step.up s1060))
        have E1064 := (Evo.then0 E817 e1059)
        refine end_ret hQ (.tuple #[(.slice ar1061 r1057.length r1057.length), .nilIface]) (by kernel_rfl) ?_
        exact ⟨r1057, PErr.nil, hp, E1064, ar1061, r1057.length, .nilIface, rfl, (Sl.less hr1062 hS1063), rErr_nil⟩

def slices_Clip_diff_Match_diff_Match_p (s : (List S_diff_Match)) (Q : (List S_diff_Match) → Prop) : Prop :=
  ((s.length ≤ 9223372036854775807) → ((0 ≤ (s.length : Int) ∧ (s.length : Int) ≤ (s.length : Int)) ∧ Q s))
set_option maxRecDepth 20000 in
set_option maxHeartbeats 4000000 in
theorem slices_Clip_diff_Match_diff_Match_w {X : List Nat} {w : World} {s : (List S_diff_Match)} {as1 : Option Addr} {cs2 : Nat} {Q : (List S_diff_Match) → Prop} (hX0 : Old X w) (hs3 : Sl r_diff_Match X w as1 cs2 s) (hp : slices_Clip_diff_Match_diff_Match_p s Q) :
    Calls Tryd.prog 80 #[(.slice as1 s.length cs2)] w (Ret fun v w' => ∃ (r0 : (List S_diff_Match)), Q r0 ∧ Evo [] w w' ∧ ∃ (aq01 : Option Addr), v = (.slice aq01 r0.length r0.length) ∧ Sl r_diff_Match X w' aq01 r0.length r0) := by
  have hXo := hX0
  have E0 : Evo [] w w := RB.refl _ _ _
  have hS : Sub X X := Sub.refl _
  unfold slices_Clip_diff_Match_diff_Match_p at hp
  refine enter_ Tryd.func80 rfl 9 [(0, (.slice as1 s.length cs2))] (by kernel_rfl) (fun Qe hQ => ?_)
  replace hp := hp (Sl.len hs3)
  refine seq_ (fun _ K4 => ?_)
  refine reg_ ?_
  refine sq (o_pv (.slice none 0 0) rfl (by kernel_rfl) ?_)
  refine nil_ ?_
  refine then_normal (K4 _ _ _ _ ?_)
  refine seq_ (fun _ K5 => ?_)
  refine reg_ ?_
  refine sq (o_pv (.slice as1 s.length cs2) rfl (by kernel_rfl) ?_)
  refine sq (o_pv (.slice as1 s.length cs2) rfl (by kernel_rfl) ?_)
  refine sq (o_pv (.int .i64 (s.length : Int)) rfl (by kernel_rfl) ?_)
  refine sq (o_pv (.slice as1 s.length cs2) rfl (by kernel_rfl) ?_)
  refine sq (o_pv (.int .i64 (s.length : Int)) rfl (by kernel_rfl) ?_)
  obtain ⟨h9, hp⟩ := hp
  refine sq (o_slice3F (R := r_diff_Match) (k := .i64) (k' := .i64) (X := X) (L := s) (s.length : Int) Tryd.underlying73 Tryd.sizeOf85 hs3 (by kernel_rfl) rfl rfl (by kernel_rfl) (by kernel_rfl) h9 ?_)
  intro a6 h8
  rw [take_len] at h8
  rw [take_len]
  refine sq (o_pv (.slice a6 s.length s.length) rfl (by kernel_rfl) ?_)
  refine nil_ ?_
  refine then_normal (K5 _ _ _ _ ?_)
  refine wp_ret ?_
  refine end_ret hQ (.slice a6 s.length s.length) (by kernel_rfl) ?_
  exact ⟨s, hp, E0, a6, rfl, (Sl.less h8 hS)⟩
theorem slices_Clip_diff_Match_diff_Match_keep {w : World} {a : Option Addr} {m c : Nat} (hmc : m ≤ c) : Calls Tryd.prog 80 #[(.slice a m c)] w (Ret fun v w' => v = (.slice a m m) ∧ w' = w) := by
  refine enter_ Tryd.func80 rfl 9 [(0, (.slice a m c))] (by kernel_rfl) (fun Qe hQ => ?_)
  refine seq_ (fun _ K4 => ?_)
  refine reg_ ?_
  refine sq (o_pv (.slice none 0 0) rfl (by kernel_rfl) ?_)
  refine nil_ ?_
  refine then_normal (K4 _ _ _ _ ?_)
  refine seq_ (fun _ K5 => ?_)
  refine reg_ ?_
  refine sq (o_pv (.slice a m c) rfl (by kernel_rfl) ?_)
  refine sq (o_pv (.slice a m c) rfl (by kernel_rfl) ?_)
  refine sq (o_pv (.int .i64 (m : Int)) rfl (by kernel_rfl) ?_)
  refine sq (o_pv (.slice a m c) rfl (by kernel_rfl) ?_)
  refine sq (o_pv (.int .i64 (m : Int)) rfl (by kernel_rfl) ?_)
  refine sq (o_slice3K (a := a) (m := m) (c := c) (k := .i64) (k' := .i64) Tryd.underlying73 Tryd.sizeOf85 (by kernel_rfl) hmc rfl (by kernel_rfl) (by kernel_rfl) ?_)
  refine sq (o_pv (.slice a m m) rfl (by kernel_rfl) ?_)
  refine nil_ ?_
  refine then_normal (K5 _ _ _ _ ?_)
  refine wp_ret ?_
  refine end_ret hQ (.slice a m m) (by kernel_rfl) ?_
  exact ⟨rfl, rfl⟩

end Go.Proofs.YtkmenljohhngjaaDoor
