/- Walks of functions: what each asks and computes, as a plain predicate, and the contract from it. -/
import Derived.Test.YtaolmfepdmgohaaDoorChecked
import Derived.Test.YtaolmfepdmgohaaDoorStEq
import Derived.Test.YtaolmfepdmgohaaDoorLib
import Derived.Test.YtaolmfepdmgohaaDoorLibS
import Derived.Test.YtaolmfepdmgohaaDoorShelf
namespace Go.Proofs.YtaolmfepdmgohaaDoor
open Go
structure S_simfs_file where
  mode : Int
  time : Int
  inode : Int
  b : (List Int)
instance : Inhabited S_simfs_file := ⟨⟨default, default, default, default⟩⟩
def r_simfs_file : Rep S_simfs_file := rMap (fun d => (d.mode, (d.time, (d.inode, d.b)))) (rPair (rInt .i64) (rPair (rInt .i64) (rPair (rInt .i64) (rSl (rInt .u8)))))
theorem r_simfs_file_open {X : List Nat} {w : World} {cs : List Value} {d : S_simfs_file} (h : r_simfs_file.ok X w cs d) : ∃ (a4 : Option Addr) (c5 : Nat), cs = [.int .i64 d.mode, .int .i64 d.time, .int .i64 d.inode, .slice a4 d.b.length c5] ∧ inR .i64 d.mode ∧ inR .i64 d.time ∧ inR .i64 d.inode ∧ Sl (rInt .u8) X w a4 c5 d.b := by
  obtain ⟨c11, t12, rfl, ⟨rfl, h1⟩, ⟨c9, t10, rfl, ⟨rfl, h2⟩, ⟨c7, t8, rfl, ⟨rfl, h3⟩, ⟨a4, c5, rfl, h6⟩⟩⟩⟩ := h
  exact ⟨a4, c5, rfl, h1, h2, h3, h6⟩
theorem r_simfs_file_mk {X : List Nat} {w : World} {modeq : Int} {timeq : Int} {inodeq : Int} {bq : (List Int)} {a4 : Option Addr} {c5 : Nat} {m7 : Nat} (h1 : inR .i64 modeq) (h2 : inR .i64 timeq) (h3 : inR .i64 inodeq) (h6 : Sl (rInt .u8) X w a4 c5 bq) (h6n : m7 = bq.length) : r_simfs_file.ok X w [.int .i64 modeq, .int .i64 timeq, .int .i64 inodeq, .slice a4 m7 c5] ⟨modeq, timeq, inodeq, bq⟩ :=
  (rMap_mk _ (rPair_mk (rInt_mk h1) (rPair_mk (rInt_mk h2) (rPair_mk (rInt_mk h3) (rSl_mk' h6 h6n)))))
structure S_simfs_op where
  kind : Int
  path : ByteArray
  to_ : ByteArray
  file : S_simfs_file
instance : Inhabited S_simfs_op := ⟨⟨default, default, default, default⟩⟩
def r_simfs_op : Rep S_simfs_op := rMap (fun d => (d.kind, (d.path, (d.to_, d.file)))) (rPair (rInt .i64) (rPair rStr (rPair rStr r_simfs_file)))
theorem r_simfs_op_open {X : List Nat} {w : World} {cs : List Value} {d : S_simfs_op} (h : r_simfs_op.ok X w cs d) : ∃ (a7 : Option Addr) (c8 : Nat), cs = [.int .i64 d.kind, .string d.path, .string d.to_, .int .i64 d.file.mode, .int .i64 d.file.time, .int .i64 d.file.inode, .slice a7 d.file.b.length c8] ∧ inR .i64 d.kind ∧ d.path.size ≤ maxLen ∧ d.to_.size ≤ maxLen ∧ inR .i64 d.file.mode ∧ inR .i64 d.file.time ∧ inR .i64 d.file.inode ∧ Sl (rInt .u8) X w a7 c8 d.file.b := by
  obtain ⟨c20, t21, rfl, ⟨rfl, h1⟩, ⟨c18, t19, rfl, ⟨rfl, h2⟩, ⟨c16, t17, rfl, ⟨rfl, h3⟩, ⟨c14, t15, rfl, ⟨rfl, h4⟩, ⟨c12, t13, rfl, ⟨rfl, h5⟩, ⟨c10, t11, rfl, ⟨rfl, h6⟩, ⟨a7, c8, rfl, h9⟩⟩⟩⟩⟩⟩⟩ := h
  exact ⟨a7, c8, rfl, h1, h2, h3, h4, h5, h6, h9⟩
theorem r_simfs_op_mk {X : List Nat} {w : World} {kindq : Int} {pathq : ByteArray} {to_q : ByteArray} {fileq : S_simfs_file} {a7 : Option Addr} {c8 : Nat} {m10 : Nat} (h1 : inR .i64 kindq) (h2 : pathq.size ≤ maxLen) (h3 : to_q.size ≤ maxLen) (h4 : inR .i64 fileq.mode) (h5 : inR .i64 fileq.time) (h6 : inR .i64 fileq.inode) (h9 : Sl (rInt .u8) X w a7 c8 fileq.b) (h9n : m10 = fileq.b.length) : r_simfs_op.ok X w [.int .i64 kindq, .string pathq, .string to_q, .int .i64 fileq.mode, .int .i64 fileq.time, .int .i64 fileq.inode, .slice a7 m10 c8] ⟨kindq, pathq, to_q, fileq⟩ :=
  (rMap_mk _ (rPair_mk (rInt_mk h1) (rPair_mk (rStr_mk h2) (rPair_mk (rStr_mk h3) (rMap_mk _ (rPair_mk (rInt_mk h4) (rPair_mk (rInt_mk h5) (rPair_mk (rInt_mk h6) (rSl_mk' h9 h9n)))))))))
structure S_simfs_FS where
  kept : (List (ByteArray × S_simfs_file))
  files : (List (ByteArray × S_simfs_file))
  pending : (List S_simfs_op)
  quota : Int
  now : Int
  inodes : Int
  ops_ : Int
  off : Bool
  armed : Bool
  left : Int
  keep : (List Bool)
instance : Inhabited S_simfs_FS := ⟨⟨default, default, default, default, default, default, default, default, default, default, default⟩⟩
def o_simfs_FS : Obj S_simfs_FS := oMap (fun d => (d.kept, (d.files, (d.pending, (d.quota, (d.now, (d.inodes, (d.ops_, (d.off, (d.armed, (d.left, d.keep))))))))))) (oPair (oMp r_simfs_file true) (oPair (oMp r_simfs_file true) (oPair (oOwn r_simfs_op 56) (oPair (oRd (rInt .i64)) (oPair (oRd (rInt .i64)) (oPair (oRd (rInt .i64)) (oPair (oRd (rInt .i64)) (oPair (oRd rBool) (oPair (oRd rBool) (oPair (oRd (rInt .i64)) (oRd (rSl rBool))))))))))))
theorem o_simfs_FS_open {X F G : List Nat} {w : World} {B b : Nat} {d : S_simfs_FS} (h : MO o_simfs_FS 50 G B X w F b d) : ∃ (r1 : Nat) (r3 : Nat) (a5 : Option Addr) (n6 : Nat) (c7 : Nat) (a14 : Option Addr) (c15 : Nat), OB G B X w b [.map (some r1), .map (some r3), .slice a5 n6 c7, .int .i64 d.quota, .int .i64 d.now, .int .i64 d.inodes, .int .i64 d.ops_, .bool d.off, .bool d.armed, .int .i64 d.left, .slice a14 d.keep.length c15] 50 ∧ OM r_simfs_file true G B X w r1 d.kept ∧ OM r_simfs_file true G B X w r3 d.files ∧ OS r_simfs_op G B X w 56 a5 n6 c7 d.pending ∧ inR .i64 d.quota ∧ inR .i64 d.now ∧ inR .i64 d.inodes ∧ inR .i64 d.ops_ ∧ inR .i64 d.left ∧ Sl rBool X w a14 c15 d.keep ∧ Sub [b] F ∧ Sub ([r1]) F ∧ Sub ([r3]) F ∧ Sub (blkL a5) F ∧ Ap [b] ([r1]) ∧ Ap [b] ([r3]) ∧ Ap [b] (blkL a5) ∧ Ap ([r1]) ([r3]) ∧ Ap ([r1]) (blkL a5) ∧ Ap ([r3]) (blkL a5) := by
  obtain ⟨⟨cs, F1, rfl, hb, hn, hk, hO⟩, hw⟩ := h
  obtain ⟨_, _, _, _, rfl, rfl, ap0, ⟨r1, rfl, rfl, h2⟩, ⟨_, _, _, _, rfl, rfl, ap1, ⟨r3, rfl, rfl, h4⟩, ⟨_, _, _, _, rfl, rfl, ap2, ⟨a5, c7, rfl, rfl, h8⟩, ⟨_, _, _, _, rfl, rfl, ap3, ⟨rfl, ⟨rfl, h9⟩⟩, ⟨_, _, _, _, rfl, rfl, ap4, ⟨rfl, ⟨rfl, h10⟩⟩, ⟨_, _, _, _, rfl, rfl, ap5, ⟨rfl, ⟨rfl, h11⟩⟩, ⟨_, _, _, _, rfl, rfl, ap6, ⟨rfl, ⟨rfl, h12⟩⟩, ⟨_, _, _, _, rfl, rfl, ap7, ⟨rfl, rfl⟩, ⟨_, _, _, _, rfl, rfl, ap8, ⟨rfl, rfl⟩, ⟨_, _, _, _, rfl, rfl, ap9, ⟨rfl, ⟨rfl, h13⟩⟩, ⟨rfl, ⟨a14, c15, rfl, h16⟩⟩⟩⟩⟩⟩⟩⟩⟩⟩⟩⟩ := hO
  exact ⟨r1, r3, a5, _, c7, a14, c15, ⟨hb, hk, hw.sub (Sub.hd _ _)⟩, ⟨h2.1, h2.2, hw.sub (Sub.trans (Sub.inl _ _) (Sub.tl _ _))⟩, ⟨h4.1, h4.2, hw.sub (Sub.trans (Sub.trans (Sub.inl _ _) (Sub.inr _ _)) (Sub.tl _ _))⟩, ⟨rfl, h8, hw.sub (Sub.trans (Sub.trans (Sub.trans (Sub.inl _ _) (Sub.inr _ _)) (Sub.inr _ _)) (Sub.tl _ _))⟩, h9, h10, h11, h12, h13, h16, Sub.hd _ _, (Sub.trans (Sub.inl _ _) (Sub.tl _ _)), (Sub.trans (Sub.trans (Sub.inl _ _) (Sub.inr _ _)) (Sub.tl _ _)), (Sub.trans (Sub.trans (Sub.trans (Sub.inl _ _) (Sub.inr _ _)) (Sub.inr _ _)) (Sub.tl _ _)), (of_notin hn).subr (Sub.inl _ _), (of_notin hn).subr (Sub.trans (Sub.inl _ _) (Sub.inr _ _)), (of_notin hn).subr (Sub.trans (Sub.trans (Sub.inl _ _) (Sub.inr _ _)) (Sub.inr _ _)), ap0.subr (Sub.inl _ _), ap0.subr (Sub.trans (Sub.inl _ _) (Sub.inr _ _)), ap1.subr (Sub.inl _ _)⟩
theorem o_simfs_FS_mk {X G : List Nat} {w : World} {B b : Nat} {keptq : (List (ByteArray × S_simfs_file))} {filesq : (List (ByteArray × S_simfs_file))} {pendingq : (List S_simfs_op)} {quotaq : Int} {nowq : Int} {inodesq : Int} {ops_q : Int} {offq : Bool} {armedq : Bool} {leftq : Int} {keepq : (List Bool)} {r1 : Nat} {r3 : Nat} {a5 : Option Addr} {m6 : Nat} {c7 : Nat} {a14 : Option Addr} {c15 : Nat} {m17 : Nat} (hb : OB G B X w b [.map (some r1), .map (some r3), .slice a5 m6 c7, .int .i64 quotaq, .int .i64 nowq, .int .i64 inodesq, .int .i64 ops_q, .bool offq, .bool armedq, .int .i64 leftq, .slice a14 m17 c15] 50) (h2 : OM r_simfs_file true G B X w r1 keptq) (h4 : OM r_simfs_file true G B X w r3 filesq) (h8 : OS r_simfs_op G B X w 56 a5 m6 c7 pendingq) (h9 : inR .i64 quotaq) (h10 : inR .i64 nowq) (h11 : inR .i64 inodesq) (h12 : inR .i64 ops_q) (h13 : inR .i64 leftq) (h16 : Sl rBool X w a14 c15 keepq) (h16n : m17 = keepq.length) (pb0 : Ap [b] ([r1])) (pb1 : Ap [b] ([r3])) (pb2 : Ap [b] (blkL a5)) (p0_1 : Ap ([r1]) ([r3])) (p0_2 : Ap ([r1]) (blkL a5)) (p1_2 : Ap ([r3]) (blkL a5)) : MO o_simfs_FS 50 G B X w (b :: ([r1] ++ ([r3] ++ (blkL a5 ++ ([] ++ ([] ++ ([] ++ ([] ++ ([] ++ ([] ++ ([] ++ ([])))))))))))) b ⟨keptq, filesq, pendingq, quotaq, nowq, inodesq, ops_q, offq, armedq, leftq, keepq⟩ :=
  MO.mk (O := o_simfs_FS) hb (Ap.app pb0 (Ap.app pb1 (Ap.app pb2 (Ap.app (Ap.nil_r _) (Ap.app (Ap.nil_r _) (Ap.app (Ap.nil_r _) (Ap.app (Ap.nil_r _) (Ap.app (Ap.nil_r _) (Ap.app (Ap.nil_r _) (Ap.app (Ap.nil_r _) (Ap.nil_r _))))))))))) (show o_simfs_FS.ok _ X w _ _ from (oPair_mk (Ap.app p0_1 (Ap.app p0_2 (Ap.app (Ap.nil_r _) (Ap.app (Ap.nil_r _) (Ap.app (Ap.nil_r _) (Ap.app (Ap.nil_r _) (Ap.app (Ap.nil_r _) (Ap.app (Ap.nil_r _) (Ap.app (Ap.nil_r _) (Ap.nil_r _)))))))))) (oMp_mk h2) (oPair_mk (Ap.app p1_2 (Ap.app (Ap.nil_r _) (Ap.app (Ap.nil_r _) (Ap.app (Ap.nil_r _) (Ap.app (Ap.nil_r _) (Ap.app (Ap.nil_r _) (Ap.app (Ap.nil_r _) (Ap.app (Ap.nil_r _) (Ap.nil_r _))))))))) (oMp_mk h4) (oPair_mk (Ap.app (Ap.nil_r _) (Ap.app (Ap.nil_r _) (Ap.app (Ap.nil_r _) (Ap.app (Ap.nil_r _) (Ap.app (Ap.nil_r _) (Ap.app (Ap.nil_r _) (Ap.app (Ap.nil_r _) (Ap.nil_r _)))))))) (oOwn_mk h8) (oPair_mk (Ap.nil_l _) (oRd_mk (rInt_mk h9)) (oPair_mk (Ap.nil_l _) (oRd_mk (rInt_mk h10)) (oPair_mk (Ap.nil_l _) (oRd_mk (rInt_mk h11)) (oPair_mk (Ap.nil_l _) (oRd_mk (rInt_mk h12)) (oPair_mk (Ap.nil_l _) (oRd_mk rBool_mk) (oPair_mk (Ap.nil_l _) (oRd_mk rBool_mk) (oPair_mk (Ap.nil_l _) (oRd_mk (rInt_mk h13)) (oRd_mk (rSl_mk' h16 h16n))))))))))))) (Wr.app h2.wr (Wr.app h4.wr (Wr.app h8.wr (Wr.app (Wr.nil _ _) (Wr.app (Wr.nil _ _) (Wr.app (Wr.nil _ _) (Wr.app (Wr.nil _ _) (Wr.app (Wr.nil _ _) (Wr.app (Wr.nil _ _) (Wr.app (Wr.nil _ _) (Wr.nil _ _)))))))))))
structure S_simfs_Stat where
  Size : Int
  Time : Int
  Inode : Int
  Mode : Int
instance : Inhabited S_simfs_Stat := ⟨⟨default, default, default, default⟩⟩
def r_simfs_Stat : Rep S_simfs_Stat := rMap (fun d => (d.Size, (d.Time, (d.Inode, d.Mode)))) (rPair (rInt .i64) (rPair (rInt .i64) (rPair (rInt .i64) (rInt .i64))))
theorem r_simfs_Stat_open {X : List Nat} {w : World} {cs : List Value} {d : S_simfs_Stat} (h : r_simfs_Stat.ok X w cs d) : cs = [.int .i64 d.Size, .int .i64 d.Time, .int .i64 d.Inode, .int .i64 d.Mode] ∧ inR .i64 d.Size ∧ inR .i64 d.Time ∧ inR .i64 d.Inode ∧ inR .i64 d.Mode := by
  obtain ⟨c9, t10, rfl, ⟨rfl, h1⟩, ⟨c7, t8, rfl, ⟨rfl, h2⟩, ⟨c5, t6, rfl, ⟨rfl, h3⟩, ⟨rfl, h4⟩⟩⟩⟩ := h
  exact ⟨rfl, h1, h2, h3, h4⟩
theorem r_simfs_Stat_mk {X : List Nat} {w : World} {Sizeq : Int} {Timeq : Int} {Inodeq : Int} {Modeq : Int} (h1 : inR .i64 Sizeq) (h2 : inR .i64 Timeq) (h3 : inR .i64 Inodeq) (h4 : inR .i64 Modeq) : r_simfs_Stat.ok X w [.int .i64 Sizeq, .int .i64 Timeq, .int .i64 Inodeq, .int .i64 Modeq] ⟨Sizeq, Timeq, Inodeq, Modeq⟩ :=
  (rMap_mk _ (rPair_mk (rInt_mk h1) (rPair_mk (rInt_mk h2) (rPair_mk (rInt_mk h3) (rInt_mk h4)))))

def simfs_New_p (quota : Int) (Q : S_simfs_FS → Prop) : Prop :=
  ((inR .i64 quota) → Q (S_simfs_FS.mk ([] : (List (ByteArray × S_simfs_file))) ([] : (List (ByteArray × S_simfs_file))) ([] : List S_simfs_op) quota (0 : Int) (0 : Int) (0 : Int) false false (0 : Int) ([] : List Bool)))
set_option maxRecDepth 20000 in
set_option maxHeartbeats 4000000 in
theorem simfs_New_w {X : List Nat} {w : World} {quota : Int} {Q : S_simfs_FS → Prop} (hX0 : Old X w) (rquota1 : inR .i64 quota) (hp : simfs_New_p quota Q) :
    Calls Tryd.prog 7 #[(.int .i64 quota)] w (Ret fun v w' => ∃ (r0 : S_simfs_FS), Q r0 ∧ ∃ (X' : List Nat) (bq01 : Nat) (Fq02 : List Nat), Step X w ([]) X' w' ∧ v = (.pointer (some ⟨bq01, 0, none⟩)) ∧ MO o_simfs_FS 50 ([]) w.heap.size X' w' Fq02 bq01 r0) := by
  have hXo := hX0
  have E0 : Evo [] w w := RB.refl _ _ _
  have hS : Sub X X := Sub.refl _
  have hN : News X w X w := News.refl _ _
  have hF0 : Sub [] X := Sub.nil _
  unfold simfs_New_p at hp
  refine enter_ Tryd.func7 rfl 8 [(0, (.int .i64 quota))] (by kernel_rfl) (fun Qe hQ => ?_)
  replace hp := hp rquota1
  refine seq_ (fun _ K2 => ?_)
  refine reg_ ?_
  refine sq (o_pv (.pointer none) rfl (by kernel_rfl) ?_)
  refine nil_ ?_
  refine then_normal (K2 _ _ _ _ ?_)
  refine seq_ (fun _ K3 => ?_)
  refine reg_ ?_
  refine sq (o_mkmap (R := r_simfs_file) (ag := true) (X := X) (B := w.heap.size) E0.size rfl ?_)
  intro r4 w5 X6 s7 m8 n9
  have E16 := (Evo.then0 E0 (Step.evo s7))
  refine sq (o_mkmap (R := r_simfs_file) (ag := true) (X := X6) (B := w.heap.size) E16.size rfl ?_)
  intro r10 w11 X12 s13 m14 n15
  have p17 := n15 _ (OM.old m8)
  refine sq (o_pv (.int .i64 quota) rfl (by kernel_rfl) ?_)
  refine sq (o_pv (.agg #[(.map (some r4)), (.map (some r10)), (.slice none 0 0), (.int .i64 quota), (.int .i64 (0 : Int)), (.int .i64 (0 : Int)), (.int .i64 (0 : Int)), (.bool false), (.bool false), (.int .i64 (0 : Int)), (.slice none 0 0)]) rfl (by kernel_rfl) ?_)
  have m24 := (OM.step0 m8 s13)
  have E25 := (Evo.then0 E16 (Step.evo s13))
  refine sq (o_newX [(.map (some r4)), (.map (some r10)), (.slice none 0 0), (.int .i64 quota), (.int .i64 (0 : Int)), (.int .i64 (0 : Int)), (.int .i64 (0 : Int)), (.bool false), (.bool false), (.int .i64 (0 : Int)), (.slice none 0 0)] 50 (X := X12) (B := w.heap.size) E25.size rfl (by kernel_rfl) ?_)
  intro b18 w19 X20 s21 k22 n23
  have p26 := n23 _ (OM.old m24)
  have p27 := n23 _ (OM.old m14)
  refine sq (o_pv (.pointer (some ⟨b18, 0, none⟩)) rfl (by kernel_rfl) ?_)
  refine nil_ ?_
  refine then_normal (K3 _ _ _ _ ?_)
  refine wp_ret ?_
  have hXo28 := (Old.step (Old.step (Old.step hXo s7) s13) s21)
  have E29 := (Evo.then0 E25 (Step.evo s21))
  have hS30 := (Sub.trans (Sub.trans (Sub.trans hS (Step.up s7)) (Step.up s13)) (Step.up s21))
  have hN31 := (News.step (News.step (News.step hN s7) s13) s21)
  have m32 := (OM.step0 m24 s21)
  have m33 := (OM.step0 m14 s21)
  obtain ⟨F34, m35, hs36⟩ := MO.pack (o_simfs_FS_mk k22 m32 m33 (OS.nil2 _ _ _ _ _) rquota1 (by decide : inR .i64 (0 : Int)) (by decide : inR .i64 (0 : Int)) (by decide : inR .i64 (0 : Int)) (by decide : inR .i64 (0 : Int)) (Sl.nil) rfl (Ap.symm p26) (Ap.symm p27) (Ap.nil_r _) p17 (Ap.nil_r _) (Ap.nil_r _))
  refine end_ret hQ (.pointer (some ⟨b18, 0, none⟩)) (by kernel_rfl) ?_
  exact ⟨(S_simfs_FS.mk ([] : (List (ByteArray × S_simfs_file))) ([] : (List (ByteArray × S_simfs_file))) ([] : List S_simfs_op) quota (0 : Int) (0 : Int) (0 : Int) false false (0 : Int) ([] : List Bool)), hp, X20, b18, F34, step_of E29 hF0 hS30 hN31, rfl, m35⟩

/-- strings.genSplit: all parts, at a separator of one byte. -/
def strings_genSplit_p (s sep : ByteArray) (sepSave n : Int) (Q : List ByteArray → Prop) : Prop := ∃ c : UInt8, sep = ByteArray.mk #[c] ∧ sepSave = 0 ∧ n = -1 ∧ s.size < 4294967281 ∧ Q (partsB s c)
theorem strings_genSplit_w {X : List Nat} {w : World} {s sep : ByteArray} {sepSave n_ : Int} {Q : List ByteArray → Prop} (hX0 : Old X w) (_hs : s.size ≤ maxLen) (_ht : sep.size ≤ maxLen) (_h1 : inR .i64 sepSave) (_h2 : inR .i64 n_) (hp : strings_genSplit_p s sep sepSave n_ Q) :
    Calls Tryd.prog 51 #[(.string s), (.string sep), (.int .i64 sepSave), (.int .i64 n_)] w (Ret fun v w' => ∃ r0 : List ByteArray, Q r0 ∧ Evo [] w w' ∧ ∃ (aq01 : Option Addr) (cq02 : Nat), v = (.slice aq01 r0.length cq02) ∧ Sl rStr X w' aq01 cq02 r0) := by
  obtain ⟨c, rfl, rfl, rfl, hs, hq⟩ := hp
  have L := Tryd.lays146
  refine (genSplit_one (ρ := Tryd.lays146_ren) { L with } (by kernel_rfl) s c w hs).mono ?_
  rintro e w' ⟨rfl, rfl⟩
  obtain ⟨hE, hS⟩ := parts_sl (s := s) (c := c) (t := Tryd.lays146_ren.t 9) hX0 hs
  exact ⟨_, rfl, _, hq, hE, _, _, rfl, hS⟩

def strings_Split_p (s : ByteArray) (sep : ByteArray) (Q : (List ByteArray) → Prop) : Prop :=
  ((s.size ≤ maxLen) → ((sep.size ≤ maxLen) → (strings_genSplit_p s sep (0 : Int) (-1 : Int) (fun (r5 : (List ByteArray)) => ((r5.length ≤ 9223372036854775807) → Q r5)))))
set_option maxRecDepth 20000 in
set_option maxHeartbeats 4000000 in
theorem strings_Split_w {X : List Nat} {w : World} {s : ByteArray} {sep : ByteArray} {Q : (List ByteArray) → Prop} (hX0 : Old X w) (zs1 : s.size ≤ maxLen) (zsep2 : sep.size ≤ maxLen) (hp : strings_Split_p s sep Q) :
    Calls Tryd.prog 45 #[(.string s), (.string sep)] w (Ret fun v w' => ∃ (r0 : (List ByteArray)), Q r0 ∧ Evo [] w w' ∧ ∃ (aq01 : Option Addr) (cq02 : Nat), v = (.slice aq01 r0.length cq02) ∧ Sl rStr X w' aq01 cq02 r0) := by
  have hXo := hX0
  have E0 : Evo [] w w := RB.refl _ _ _
  have hS : Sub X X := Sub.refl _
  unfold strings_Split_p at hp
  refine enter_ Tryd.func45 rfl 8 [(0, (.string s)), (1, (.string sep))] (by kernel_rfl) (fun Qe hQ => ?_)
  replace hp := hp zs1
  replace hp := hp zsep2
  refine seq_ (fun _ K3 => ?_)
  refine reg_ ?_
  refine sq (o_pv (.slice none 0 0) rfl (by kernel_rfl) ?_)
  refine nil_ ?_
  refine then_normal (K3 _ _ _ _ ?_)
  refine seq_ (fun _ K4 => ?_)
  refine reg_ ?_
  refine sq (o_pv (.string s) rfl (by kernel_rfl) ?_)
  refine sq (o_pv (.string sep) rfl (by kernel_rfl) ?_)
  refine sq (o_call 51 #[(.string s), (.string sep), (.int .i64 (0 : Int)), (.int .i64 (-1 : Int))] rfl (x_call Tryd.call51 (by kernel_rfl)) (strings_genSplit_w (X := X) (s := s) (sep := sep) (sepSave := (0 : Int)) (n_ := (-1 : Int)) hXo zs1 zsep2 (by decide : inR .i64 (0 : Int)) (by decide : inR .i64 (-1 : Int)) hp) ?_)
  rintro _ w6 ⟨r5, hp, e7, ar9, cr10, rfl, hr11⟩
  have s8 := Step.of0 X e7
  replace hp := hp (Sl.len hr11)
  refine sq (o_pv (.slice ar9 r5.length cr10) rfl (by kernel_rfl) ?_)
  refine nil_ ?_
  refine then_normal (K4 _ _ _ _ ?_)
  refine wp_ret ?_
  have hS12 := (Sub.trans hS (Step.up s8))
  have E13 := (Evo.then0 E0 e7)
  refine end_ret hQ (.slice ar9 r5.length cr10) (by kernel_rfl) ?_
  exact ⟨r5, hp, E13, ar9, cr10, rfl, (Sl.less hr11 hS12)⟩

def path_good_p (c : Int) (Q : Bool → Prop) : Prop :=
  ((inR .u8 c) → (∃ k15 : Prop, (k15 → Q true) ∧ (((c = (46 : Int)) → (k15)) ∧ ((¬ (c = (46 : Int))) → (((c = (45 : Int)) → (k15)) ∧ ((¬ (c = (45 : Int))) → (((c = (95 : Int)) → (k15)) ∧ ((¬ (c = (95 : Int))) → Q (decide (((c ≥ (97 : Int)) ∧ ((c ≤ (122 : Int)) ∨ ((c ≥ (48 : Int)) ∧ (c ≤ (57 : Int))))) ∨ ((¬ (c ≥ (97 : Int))) ∧ ((c ≥ (48 : Int)) ∧ (c ≤ (57 : Int))))))))))))))
set_option maxRecDepth 20000 in
set_option maxHeartbeats 4000000 in
theorem path_good_w {X : List Nat} {w : World} {c : Int} {Q : Bool → Prop} (hX0 : Old X w) (rc1 : inR .u8 c) (hp : path_good_p c Q) :
    Calls Tryd.prog 52 #[(.int .u8 c)] w (Ret fun v w' => ∃ (r0 : Bool), Q r0 ∧ Evo [] w w' ∧ v = (.bool r0)) := by
  have hXo := hX0
  have E0 : Evo [] w w := RB.refl _ _ _
  have hS : Sub X X := Sub.refl _
  unfold path_good_p at hp
  refine enter_ Tryd.func52 rfl 24 [(0, (.int .u8 c))] (by kernel_rfl) (fun Qe hQ => ?_)
  replace hp := hp rc1
  refine seq_ (fun _ K2 => ?_)
  refine reg_ ?_
  refine sq (o_pv (.bool false) rfl (by kernel_rfl) ?_)
  refine nil_ ?_
  refine then_normal (K2 _ _ _ _ ?_)
  refine seq_ (fun _ K3 => ?_)
  refine seq_ (fun _ K4 => ?_)
  refine reg_ ?_
  refine sq (o_pv (.int .u8 c) rfl (by kernel_rfl) ?_)
  refine nil_ ?_
  refine then_normal (K4 _ _ _ _ ?_)
  refine wp_block ?_
  refine seq_ (fun _ K5 => ?_)
  obtain ⟨k15, hk16, hp⟩ := hp
  refine ground_ ?_
  refine join_ 1008 (fun lq w17 => ∃ (X18 : List Nat), (lq = []) ∧ (Evo [] w w17) ∧ (Old X18 w17) ∧ (Sub X X18) ∧ (k15)) (fun Kj19 hJ20 => ?_) ?_
  ·
    refine wp_block ?_
    refine wp_block ?_
    refine wp_block ?_
    refine seq_ (fun _ K25 => ?_)
    refine seq_ (fun _ K26 => ?_)
    refine seq_ (fun _ K27 => ?_)
    refine reg_ ?_
    refine sq (o_pv (.bool (decide (c = (46 : Int)))) rfl (by kernel_rfl) ?_)
    refine sq (o_pv (.bool (decide (c = (46 : Int)))) rfl (by kernel_rfl) ?_)
    refine nil_ ?_
    refine then_normal (K27 _ _ _ _ ?_)
    refine cond_d (c = (46 : Int)) (by kernel_rfl) (fun h28 => ?_) (fun h28 => ?_)
    ·
      replace hp := hp.1 h28
      refine wp_exit ?_
      refine then_exit ?_
      refine then_exit ?_
      refine blk_exit ?_
      refine blk_normal ?_
      refine blk_normal ?_
      refine then_normal (hJ20 _ _ _ ⟨[], fit_mk (fun _ _ => rfl) (by kernel_rfl) vs_nil, ?_⟩)
      exact ⟨X, rfl, E0, hXo, hS, hp⟩
    ·
      replace hp := hp.2 h28
      refine wp_skip ?_
      refine then_normal (K26 _ _ _ _ ?_)
      refine seq_ (fun _ K29 => ?_)
      refine seq_ (fun _ K30 => ?_)
      refine reg_ ?_
      refine sq (o_pv (.bool (decide (c = (45 : Int)))) rfl (by kernel_rfl) ?_)
      refine sq (o_pv (.bool (decide (c = (45 : Int)))) rfl (by kernel_rfl) ?_)
      refine nil_ ?_
      refine then_normal (K30 _ _ _ _ ?_)
      refine cond_d (c = (45 : Int)) (by kernel_rfl) (fun h31 => ?_) (fun h31 => ?_)
      ·
        replace hp := hp.1 h31
        refine wp_exit ?_
        refine then_exit ?_
        refine then_exit ?_
        refine blk_exit_ne rfl ?_
        refine blk_exit ?_
        refine blk_normal ?_
        refine then_normal (hJ20 _ _ _ ⟨[], fit_mk (fun _ _ => rfl) (by kernel_rfl) vs_nil, ?_⟩)
        exact ⟨X, rfl, E0, hXo, hS, hp⟩
      ·
        replace hp := hp.2 h31
        refine wp_skip ?_
        refine then_normal (K29 _ _ _ _ ?_)
        refine seq_ (fun _ K32 => ?_)
        refine reg_ ?_
        refine sq (o_pv (.bool (decide (c = (95 : Int)))) rfl (by kernel_rfl) ?_)
        refine sq (o_pv (.bool (decide (c = (95 : Int)))) rfl (by kernel_rfl) ?_)
        refine nil_ ?_
        refine then_normal (K32 _ _ _ _ ?_)
        refine cond_d (c = (95 : Int)) (by kernel_rfl) (fun h33 => ?_) (fun h33 => ?_)
        ·
          replace hp := hp.1 h33
          refine wp_exit ?_
          refine then_exit ?_
          refine blk_exit_ne rfl ?_
          refine blk_exit_ne rfl ?_
          refine blk_exit ?_
          refine then_normal (hJ20 _ _ _ ⟨[], fit_mk (fun _ _ => rfl) (by kernel_rfl) vs_nil, ?_⟩)
          exact ⟨X, rfl, E0, hXo, hS, hp⟩
        ·
          replace hp := hp.2 h33
          refine wp_skip ?_
          refine then_normal (K25 _ _ _ _ ?_)
          refine wp_exit ?_
          refine blk_exit_ne rfl ?_
          refine blk_exit_ne rfl ?_
          refine blk_exit_ne rfl ?_
          refine then_exit ?_
          refine then_exit ?_
          refine blk_exit ?_
          refine then_normal (K3 _ _ _ _ ?_)
          refine seq_ (fun _ K34 => ?_)
          refine ground_ ?_
          refine join_ 16776196 (fun lq w41 => lq = [(2, (.bool (decide (((c ≥ (97 : Int)) ∧ ((c ≤ (122 : Int)) ∨ ((c ≥ (48 : Int)) ∧ (c ≤ (57 : Int))))) ∨ ((¬ (c ≥ (97 : Int))) ∧ ((c ≥ (48 : Int)) ∧ (c ≤ (57 : Int))))))))] ∧ w = w41) (fun Kj39 hJ40 => ?_) ?_
          ·
            refine reg_ ?_
            refine sq (o_pv (.int .u8 c) rfl (by kernel_rfl) ?_)
            by_cases h43 : c ≥ (97 : Int)
            ·
              refine sq (o_pv (.bool true) rfl (x_dt (p := c ≥ (97 : Int)) (by kernel_rfl) h43) ?_)
              refine sq (o_pv (.bool true) rfl (by kernel_rfl) ?_)
              refine sq (o_pv (.int .u8 c) (by kernel_rfl) (by kernel_rfl) ?_)
              by_cases h44 : c ≤ (122 : Int)
              ·
                refine sq (o_pv (.bool true) (by kernel_rfl) (x_dt (p := c ≤ (122 : Int)) (by kernel_rfl) h44) ?_)
                refine sq (o_pv (.bool true) rfl (by kernel_rfl) ?_)
                refine sq (o_pv (.bool true) rfl (by kernel_rfl) ?_)
                refine sq (o_not (by kernel_rfl) ?_)
                refine sq (o_not (by kernel_rfl) ?_)
                refine sq (o_not (by kernel_rfl) ?_)
                refine sq (o_not (by kernel_rfl) ?_)
                refine sq (o_not (by kernel_rfl) ?_)
                refine sq (o_not (by kernel_rfl) ?_)
                refine sq (o_pv (.bool true) rfl (by kernel_rfl) ?_)
                refine sq (o_pv (.bool true) rfl (by kernel_rfl) ?_)
                refine nil_ ?_
                refine then_normal (hJ40 _ _ _ ⟨[(2, (.bool (decide (((c ≥ (97 : Int)) ∧ ((c ≤ (122 : Int)) ∨ ((c ≥ (48 : Int)) ∧ (c ≤ (57 : Int))))) ∨ ((¬ (c ≥ (97 : Int))) ∧ ((c ≥ (48 : Int)) ∧ (c ≤ (57 : Int))))))))], fit_mk (fun _ _ => rfl) (by kernel_rfl) (vs_cons (Eq.trans (b := (.bool true)) (by kernel_rfl) (dec_t (by simp [h43, h44])).symm) vs_nil), rfl, rfl⟩)
              ·
                refine sq (o_pv (.bool false) (by kernel_rfl) (x_df (p := c ≤ (122 : Int)) (by kernel_rfl) h44) ?_)
                refine sq (o_pv (.bool false) rfl (by kernel_rfl) ?_)
                refine sq (o_pv (.bool false) rfl (by kernel_rfl) ?_)
                refine sq (o_pv (.int .u8 c) (by kernel_rfl) (by kernel_rfl) ?_)
                by_cases h45 : c ≥ (48 : Int)
                ·
                  refine sq (o_pv (.bool true) (by kernel_rfl) (x_dt (p := c ≥ (48 : Int)) (by kernel_rfl) h45) ?_)
                  refine sq (o_pv (.bool true) (by kernel_rfl) (by kernel_rfl) ?_)
                  refine sq (o_pv (.int .u8 c) (by kernel_rfl) (by kernel_rfl) ?_)
                  refine sq (o_pv (.bool (decide (c ≤ (57 : Int)))) (by kernel_rfl) (by kernel_rfl) ?_)
                  refine sq (o_pv (.bool (decide (c ≤ (57 : Int)))) (by kernel_rfl) (by kernel_rfl) ?_)
                  refine sq (o_pv (.bool (decide (c ≤ (57 : Int)))) rfl (by kernel_rfl) ?_)
                  refine sq (o_pv (.bool (decide (c ≤ (57 : Int)))) rfl (by kernel_rfl) ?_)
                  refine nil_ ?_
                  refine then_normal (hJ40 _ _ _ ⟨[(2, (.bool (decide (((c ≥ (97 : Int)) ∧ ((c ≤ (122 : Int)) ∨ ((c ≥ (48 : Int)) ∧ (c ≤ (57 : Int))))) ∨ ((¬ (c ≥ (97 : Int))) ∧ ((c ≥ (48 : Int)) ∧ (c ≤ (57 : Int))))))))], fit_mk (fun _ _ => rfl) (by kernel_rfl) (vs_cons (Eq.trans (b := (.bool (decide (c ≤ (57 : Int))))) (by kernel_rfl) (dec_d (by simp [h43, h44, h45])).symm) vs_nil), rfl, rfl⟩)
                ·
                  refine sq (o_pv (.bool false) (by kernel_rfl) (x_df (p := c ≥ (48 : Int)) (by kernel_rfl) h45) ?_)
                  refine sq (o_pv (.bool false) (by kernel_rfl) (by kernel_rfl) ?_)
                  refine sq (o_not (by kernel_rfl) ?_)
                  refine sq (o_not (by kernel_rfl) ?_)
                  refine sq (o_pv (.bool false) (by kernel_rfl) (by kernel_rfl) ?_)
                  refine sq (o_pv (.bool false) rfl (by kernel_rfl) ?_)
                  refine sq (o_pv (.bool false) rfl (by kernel_rfl) ?_)
                  refine nil_ ?_
                  refine then_normal (hJ40 _ _ _ ⟨[(2, (.bool (decide (((c ≥ (97 : Int)) ∧ ((c ≤ (122 : Int)) ∨ ((c ≥ (48 : Int)) ∧ (c ≤ (57 : Int))))) ∨ ((¬ (c ≥ (97 : Int))) ∧ ((c ≥ (48 : Int)) ∧ (c ≤ (57 : Int))))))))], fit_mk (fun _ _ => rfl) (by kernel_rfl) (vs_cons (Eq.trans (b := (.bool false)) (by kernel_rfl) (dec_f (by simp [h43, h44, h45])).symm) vs_nil), rfl, rfl⟩)
            ·
              refine sq (o_pv (.bool false) rfl (x_df (p := c ≥ (97 : Int)) (by kernel_rfl) h43) ?_)
              refine sq (o_pv (.bool false) rfl (by kernel_rfl) ?_)
              refine sq (o_not (by kernel_rfl) ?_)
              refine sq (o_not (by kernel_rfl) ?_)
              refine sq (o_pv (.bool false) rfl (by kernel_rfl) ?_)
              refine sq (o_pv (.bool false) rfl (by kernel_rfl) ?_)
              refine sq (o_pv (.int .u8 c) (by kernel_rfl) (by kernel_rfl) ?_)
              by_cases h46 : c ≥ (48 : Int)
              ·
                refine sq (o_pv (.bool true) (by kernel_rfl) (x_dt (p := c ≥ (48 : Int)) (by kernel_rfl) h46) ?_)
                refine sq (o_pv (.bool true) (by kernel_rfl) (by kernel_rfl) ?_)
                refine sq (o_pv (.int .u8 c) (by kernel_rfl) (by kernel_rfl) ?_)
                refine sq (o_pv (.bool (decide (c ≤ (57 : Int)))) (by kernel_rfl) (by kernel_rfl) ?_)
                refine sq (o_pv (.bool (decide (c ≤ (57 : Int)))) (by kernel_rfl) (by kernel_rfl) ?_)
                refine sq (o_pv (.bool (decide (c ≤ (57 : Int)))) rfl (by kernel_rfl) ?_)
                refine sq (o_pv (.bool (decide (c ≤ (57 : Int)))) rfl (by kernel_rfl) ?_)
                refine nil_ ?_
                refine then_normal (hJ40 _ _ _ ⟨[(2, (.bool (decide (((c ≥ (97 : Int)) ∧ ((c ≤ (122 : Int)) ∨ ((c ≥ (48 : Int)) ∧ (c ≤ (57 : Int))))) ∨ ((¬ (c ≥ (97 : Int))) ∧ ((c ≥ (48 : Int)) ∧ (c ≤ (57 : Int))))))))], fit_mk (fun _ _ => rfl) (by kernel_rfl) (vs_cons (Eq.trans (b := (.bool (decide (c ≤ (57 : Int))))) (by kernel_rfl) (dec_d (by simp [h43, h46])).symm) vs_nil), rfl, rfl⟩)
              ·
                refine sq (o_pv (.bool false) (by kernel_rfl) (x_df (p := c ≥ (48 : Int)) (by kernel_rfl) h46) ?_)
                refine sq (o_pv (.bool false) (by kernel_rfl) (by kernel_rfl) ?_)
                refine sq (o_not (by kernel_rfl) ?_)
                refine sq (o_not (by kernel_rfl) ?_)
                refine sq (o_pv (.bool false) (by kernel_rfl) (by kernel_rfl) ?_)
                refine sq (o_pv (.bool false) rfl (by kernel_rfl) ?_)
                refine sq (o_pv (.bool false) rfl (by kernel_rfl) ?_)
                refine nil_ ?_
                refine then_normal (hJ40 _ _ _ ⟨[(2, (.bool (decide (((c ≥ (97 : Int)) ∧ ((c ≤ (122 : Int)) ∨ ((c ≥ (48 : Int)) ∧ (c ≤ (57 : Int))))) ∨ ((¬ (c ≥ (97 : Int))) ∧ ((c ≥ (48 : Int)) ∧ (c ≤ (57 : Int))))))))], fit_mk (fun _ _ => rfl) (by kernel_rfl) (vs_cons (Eq.trans (b := (.bool false)) (by kernel_rfl) (dec_f (by simp [h43, h46])).symm) vs_nil), rfl, rfl⟩)
          ·
            rintro _ w41 g42 ⟨rfl, hw⟩
            subst hw
            refine then_normal (K34 _ _ _ _ ?_)
            refine wp_ret ?_
            refine end_ret hQ (.bool (decide (((c ≥ (97 : Int)) ∧ ((c ≤ (122 : Int)) ∨ ((c ≥ (48 : Int)) ∧ (c ≤ (57 : Int))))) ∨ ((¬ (c ≥ (97 : Int))) ∧ ((c ≥ (48 : Int)) ∧ (c ≤ (57 : Int))))))) (by kernel_rfl) ?_
            exact ⟨(decide (((c ≥ (97 : Int)) ∧ ((c ≤ (122 : Int)) ∨ ((c ≥ (48 : Int)) ∧ (c ≤ (57 : Int))))) ∨ ((¬ (c ≥ (97 : Int))) ∧ ((c ≥ (48 : Int)) ∧ (c ≤ (57 : Int)))))), hp, E0, rfl⟩
  ·
    rintro _ w17 g47 ⟨X18, rfl, E22, hXo23, hS24, hv21⟩
    replace hp := hk16 hv21
    refine then_normal (K5 _ _ _ _ ?_)
    refine seq_ (fun _ K48 => ?_)
    refine seq_ (fun _ K49 => ?_)
    refine reg_ ?_
    refine sq (o_pv (.bool true) rfl (by kernel_rfl) ?_)
    refine nil_ ?_
    refine then_normal (K49 _ _ _ _ ?_)
    refine wp_ret ?_
    refine then_ret ?_
    refine blk_ret ?_
    refine then_ret ?_
    refine end_ret hQ (.bool true) (by kernel_rfl) ?_
    exact ⟨true, hp, E22, rfl⟩

def path_part_p (s : ByteArray) (Q : Bool → Prop) : Prop :=
  ((s.size ≤ maxLen) → (((((s : ByteArray) = (ByteArray.mk #[])) ∨ (((s : ByteArray) = (ByteArray.mk #[46])) ∨ ((s : ByteArray) = (ByteArray.mk #[46, 46])))) → Q false) ∧ ((¬ (((s : ByteArray) = (ByteArray.mk #[])) ∨ (((s : ByteArray) = (ByteArray.mk #[46])) ∨ ((s : ByteArray) = (ByteArray.mk #[46, 46]))))) → (∃ (I49 : Int → Prop) (m50 : Int → Nat), (I49 (0 : Int)) ∧ (∀ (s22 : Int), (I49 s22) → (inR .i64 s22) → (((s22 < ((bytesL s).length : Int)) → ((inL (bytesL s) s22) ∧ ((inR .u8 (lget (bytesL s) s22)) → (path_good_p (lget (bytesL s) s22) (fun (r82 : Bool) => ((((!r82) = true) → Q false) ∧ (((!r82) = false) → ((inR .i64 (s22 + (1 : Int))) ∧ ((I49 (s22 + (1 : Int))) ∧ m50 (s22 + (1 : Int)) < m50 s22))))))))) ∧ ((¬ (s22 < ((bytesL s).length : Int))) → Q true)))))))
set_option maxRecDepth 20000 in
set_option maxHeartbeats 4000000 in
theorem path_part_w {X : List Nat} {w : World} {s : ByteArray} {Q : Bool → Prop} (hX0 : Old X w) (zs1 : s.size ≤ maxLen) (hp : path_part_p s Q) :
    Calls Tryd.prog 46 #[(.string s)] w (Ret fun v w' => ∃ (r0 : Bool), Q r0 ∧ Evo [] w w' ∧ v = (.bool r0)) := by
  have hXo := hX0
  have E0 : Evo [] w w := RB.refl _ _ _
  have hS : Sub X X := Sub.refl _
  unfold path_part_p at hp
  refine enter_ Tryd.func46 rfl 26 [(0, (.string s))] (by kernel_rfl) (fun Qe hQ => ?_)
  replace hp := hp zs1
  refine seq_ (fun _ K2 => ?_)
  refine reg_ ?_
  refine sq (o_pv (.bool false) rfl (by kernel_rfl) ?_)
  refine nil_ ?_
  refine then_normal (K2 _ _ _ _ ?_)
  refine seq_ (fun _ K3 => ?_)
  refine seq_ (fun _ K4 => ?_)
  refine ground_ ?_
  refine join_ 32736 (fun lq w9 => lq = [(14, (.bool (decide (((s : ByteArray) = (ByteArray.mk #[])) ∨ (((s : ByteArray) = (ByteArray.mk #[46])) ∨ ((s : ByteArray) = (ByteArray.mk #[46, 46])))))))] ∧ w = w9) (fun Kj7 hJ8 => ?_) ?_
  ·
    refine reg_ ?_
    refine sq (o_pv (.string s) rfl (by kernel_rfl) ?_)
    by_cases h11 : (s : ByteArray) = (ByteArray.mk #[])
    ·
      refine sq (o_pv (.bool true) rfl (x_dt (p := (s : ByteArray) = (ByteArray.mk #[])) (x_streq (by kernel_rfl) (by kernel_rfl)) h11) ?_)
      refine sq (o_pv (.bool true) rfl (by kernel_rfl) ?_)
      refine sq (o_not (by kernel_rfl) ?_)
      refine sq (o_not (by kernel_rfl) ?_)
      refine sq (o_pv (.bool true) rfl (by kernel_rfl) ?_)
      refine sq (o_pv (.bool true) rfl (by kernel_rfl) ?_)
      refine sq (o_not (by kernel_rfl) ?_)
      refine sq (o_not (by kernel_rfl) ?_)
      refine sq (o_pv (.bool true) rfl (by kernel_rfl) ?_)
      refine nil_ ?_
      refine then_normal (hJ8 _ _ _ ⟨[(14, (.bool (decide (((s : ByteArray) = (ByteArray.mk #[])) ∨ (((s : ByteArray) = (ByteArray.mk #[46])) ∨ ((s : ByteArray) = (ByteArray.mk #[46, 46])))))))], fit_mk (fun _ _ => rfl) (by kernel_rfl) (vs_cons (Eq.trans (b := (.bool true)) (by kernel_rfl) (dec_t (iff_true_intro (Or.inl h11))).symm) vs_nil), rfl, rfl⟩)
    ·
      refine sq (o_pv (.bool false) rfl (x_df (p := (s : ByteArray) = (ByteArray.mk #[])) (x_streq (by kernel_rfl) (by kernel_rfl)) h11) ?_)
      refine sq (o_pv (.bool false) rfl (by kernel_rfl) ?_)
      refine sq (o_pv (.string s) (by kernel_rfl) (by kernel_rfl) ?_)
      by_cases h12 : (s : ByteArray) = (ByteArray.mk #[46])
      ·
        refine sq (o_pv (.bool true) (by kernel_rfl) (x_dt (p := (s : ByteArray) = (ByteArray.mk #[46])) (x_streq (by kernel_rfl) (by kernel_rfl)) h12) ?_)
        refine sq (o_pv (.bool true) rfl (by kernel_rfl) ?_)
        refine sq (o_pv (.bool true) rfl (by kernel_rfl) ?_)
        refine sq (o_not (by kernel_rfl) ?_)
        refine sq (o_not (by kernel_rfl) ?_)
        refine sq (o_pv (.bool true) rfl (by kernel_rfl) ?_)
        refine nil_ ?_
        refine then_normal (hJ8 _ _ _ ⟨[(14, (.bool (decide (((s : ByteArray) = (ByteArray.mk #[])) ∨ (((s : ByteArray) = (ByteArray.mk #[46])) ∨ ((s : ByteArray) = (ByteArray.mk #[46, 46])))))))], fit_mk (fun _ _ => rfl) (by kernel_rfl) (vs_cons (Eq.trans (b := (.bool true)) (by kernel_rfl) (dec_t ((or_iff_right h11).trans (iff_true_intro (Or.inl h12)))).symm) vs_nil), rfl, rfl⟩)
      ·
        refine sq (o_pv (.bool false) (by kernel_rfl) (x_df (p := (s : ByteArray) = (ByteArray.mk #[46])) (x_streq (by kernel_rfl) (by kernel_rfl)) h12) ?_)
        refine sq (o_pv (.bool false) rfl (by kernel_rfl) ?_)
        refine sq (o_pv (.bool false) rfl (by kernel_rfl) ?_)
        refine sq (o_pv (.string s) (by kernel_rfl) (by kernel_rfl) ?_)
        refine sq (o_pv (.bool (decide ((s : ByteArray) = (ByteArray.mk #[46, 46])))) (by kernel_rfl) (x_streq (by kernel_rfl) (by kernel_rfl)) ?_)
        refine sq (o_pv (.bool (decide ((s : ByteArray) = (ByteArray.mk #[46, 46])))) rfl (by kernel_rfl) ?_)
        refine nil_ ?_
        refine then_normal (hJ8 _ _ _ ⟨[(14, (.bool (decide (((s : ByteArray) = (ByteArray.mk #[])) ∨ (((s : ByteArray) = (ByteArray.mk #[46])) ∨ ((s : ByteArray) = (ByteArray.mk #[46, 46])))))))], fit_mk (fun _ _ => rfl) (by kernel_rfl) (vs_cons (Eq.trans (b := (.bool (decide ((s : ByteArray) = (ByteArray.mk #[46, 46]))))) (by kernel_rfl) (dec_d ((or_iff_right h11).trans ((or_iff_right h12).trans Iff.rfl))).symm) vs_nil), rfl, rfl⟩)
  ·
    rintro _ w9 g10 ⟨rfl, hw⟩
    subst hw
    refine then_normal (K4 _ _ _ _ ?_)
    refine cond_d (((s : ByteArray) = (ByteArray.mk #[])) ∨ (((s : ByteArray) = (ByteArray.mk #[46])) ∨ ((s : ByteArray) = (ByteArray.mk #[46, 46])))) (by kernel_rfl) (fun h13 => ?_) (fun h13 => ?_)
    ·
      replace hp := hp.1 h13
      refine seq_ (fun _ K14 => ?_)
      refine reg_ ?_
      refine sq (o_pv (.bool false) rfl (by kernel_rfl) ?_)
      refine nil_ ?_
      refine then_normal (K14 _ _ _ _ ?_)
      refine wp_ret ?_
      refine then_ret ?_
      refine end_ret hQ (.bool false) (by kernel_rfl) ?_
      exact ⟨false, hp, E0, rfl⟩
    ·
      replace hp := hp.2 h13
      refine wp_skip ?_
      refine then_normal (K3 _ _ _ _ ?_)
      refine seq_ (fun _ K15 => ?_)
      refine seq_ (fun _ K16 => ?_)
      refine reg_ ?_
      refine sq (o_pv (.string s) rfl (by kernel_rfl) ?_)
      refine sq (o_s2b (X := X) (sv := s) hXo rfl Tryd.underlying9 Tryd.underlying28 Tryd.underlying5 (by kernel_rfl) zs1 ?_)
      intro a17 c18 w19 s20 h21
      refine sq (o_pv (.int .i64 ((bytesL s).length : Int)) rfl (by kernel_rfl) ?_)
      refine sq (o_pv (.int .i64 (0 : Int)) rfl (by kernel_rfl) ?_)
      refine nil_ ?_
      refine then_normal (K16 _ _ _ _ ?_)
      refine wp_block ?_
      have hXo59 := (Old.step hXo s20)
      have E60 := (Evo.then0 E0 (Step.evo s20))
      have hS61 := (Sub.trans hS (Step.up s20))
      obtain ⟨I49, m50, hI51, hp⟩ := hp
      refine loop_ 66846740 (fun kq lq w53 => ∃ (X54 : List Nat) (s22 : Int), (lq = [(18, (.int .i64 s22))]) ∧ (kq = m50 s22) ∧ (Evo [] w w53) ∧ (Old X54 w53) ∧ (Sub X X54) ∧ (Sl (rInt .u8) X54 w53 a17 c18 (bytesL s)) ∧ (inR .i64 s22) ∧ (I49 s22)) (m50 (0 : Int)) [(18, (.int .i64 (0 : Int)))] (vs_cons (by kernel_rfl) vs_nil) ⟨X, (0 : Int), rfl, rfl, E60, hXo59, hS61, h21, (by decide : inR .i64 (0 : Int)), hI51⟩ ?_
      rintro _ _ w53 g56 ⟨X54, s22, rfl, rfl, E62, hXo63, hS64, h65, rs23, hI52⟩ Kl57 hA58
      replace hp := hp s22 hI52 rs23
      refine seq_ (fun _ K66 => ?_)
      refine reg_ ?_
      refine sq (o_pv (.bool (decide (s22 < ((bytesL s).length : Int)))) rfl (by kernel_rfl) ?_)
      refine nil_ ?_
      refine then_normal (K66 _ _ _ _ ?_)
      refine seq_ (fun _ K67 => ?_)
      refine cond_d (s22 < ((bytesL s).length : Int)) (by kernel_rfl) (fun h68 => ?_) (fun h68 => ?_)
      ·
        replace hp := hp.1 h68
        refine wp_skip ?_
        refine then_normal (K67 _ _ _ _ ?_)
        refine seq_ (fun _ K69 => ?_)
        refine wp_block ?_
        refine seq_ (fun _ K70 => ?_)
        refine reg_ ?_
        obtain ⟨h71, hp⟩ := hp
        obtain ⟨b72, o73, cs74, ha75, nx76, lt77, ok78, hc79⟩ := Sl.atI h65 s22 h71
        obtain ⟨rfl, re80⟩ := ok78
        replace hp := hp re80
        refine sq (o_pv (.pointer (some ⟨b72, o73 + s22.toNat * 1, none⟩)) rfl (x_ixA (m := (bytesL s).length) (c := c18) (k := .i64) (i := s22) Tryd.underlying28 Tryd.sizeOf5 (by rw [← ha75]; kernel_rfl) (by kernel_rfl) h71) ?_)
        refine sq (o_pv (.int .u8 (lget (bytesL s) s22)) rfl (x_load1 (by kernel_rfl) Tryd.isAgg5 (hc79 0 _ rfl)) ?_)
        refine sq (o_pv (.int .u8 (lget (bytesL s) s22)) rfl (by kernel_rfl) ?_)
        refine nil_ ?_
        refine then_normal (K70 _ _ _ _ ?_)
        refine seq_ (fun _ K81 => ?_)
        refine reg_ ?_
        refine sq (o_pv (.int .u8 (lget (bytesL s) s22)) rfl (by kernel_rfl) ?_)
        refine sq (o_call 52 #[(.int .u8 (lget (bytesL s) s22))] rfl (x_call Tryd.call52 (by kernel_rfl)) (path_good_w (X := []) (c := lget (bytesL s) s22) (Old.nil _) re80 hp) ?_)
        rintro _ w83 ⟨r82, hp, e84, rfl⟩
        have s85 := Step.of0 X54 e84
        refine sq (o_pv (.bool (!r82)) rfl (by kernel_rfl) ?_)
        refine nil_ ?_
        refine then_normal (K81 _ _ _ _ ?_)
        refine cond_b (!r82) (by kernel_rfl) (fun h86 => ?_) (fun h86 => ?_)
        ·
          replace hp := hp.1 h86
          refine seq_ (fun _ K87 => ?_)
          refine reg_ ?_
          refine sq (o_pv (.bool false) rfl (by kernel_rfl) ?_)
          refine nil_ ?_
          refine then_normal (K87 _ _ _ _ ?_)
          refine wp_ret ?_
          refine blk_ret ?_
          refine then_ret ?_
          refine then_ret ?_
          refine blk_ret ?_
          refine then_ret ?_
          have E88 := (Evo.then0 E62 e84)
          refine end_ret hQ (.bool false) (by kernel_rfl) ?_
          exact ⟨false, hp, E88, rfl⟩
        ·
          replace hp := hp.2 h86
          refine wp_skip ?_
          refine blk_normal ?_
          refine then_normal (K69 _ _ _ _ ?_)
          refine reg_ ?_
          obtain ⟨h89, hp⟩ := hp
          refine sq (o_pv (.int .i64 (s22 + (1 : Int))) rfl (x_add2 (k := .i64) (a := s22) (b := (1 : Int)) (s22 + (1 : Int)) (by kernel_rfl) (by kernel_rfl) (wrap_inR h89)) ?_)
          refine sq (o_pv (.int .i64 (s22 + (1 : Int))) rfl (by kernel_rfl) ?_)
          refine nil_ ?_
          have E90 := (Evo.then0 E62 e84)
          have hXo91 := (Old.step hXo63 s85)
          have hS92 := (Sub.trans hS64 (Step.up s85))
          have h93 := (Sl.step h65 s85)
          refine then_normal (hA58 _ _ _ ⟨_, [(18, (.int .i64 (s22 + (1 : Int))))], hp.2, fit_mk (AgB.mix _ _ _) (by kernel_rfl) (vs_cons (by kernel_rfl) vs_nil), ?_⟩)
          exact ⟨X54, (s22 + (1 : Int)), rfl, rfl, E90, hXo91, hS92, h93, h89, hp.1⟩
      ·
        replace hp := hp.2 h68
        refine wp_exit ?_
        refine then_exit ?_
        refine then_exit ?_
        refine blk_exit ?_
        refine then_normal (K15 _ _ _ _ ?_)
        refine seq_ (fun _ K94 => ?_)
        refine reg_ ?_
        refine sq (o_pv (.bool true) rfl (by kernel_rfl) ?_)
        refine nil_ ?_
        refine then_normal (K94 _ _ _ _ ?_)
        refine wp_ret ?_
        refine end_ret hQ (.bool true) (by kernel_rfl) ?_
        exact ⟨true, hp, E62, rfl⟩

def path_Check_p (p : ByteArray) (Q : Int → Prop) : Prop :=
  ((p.size ≤ maxLen) → ((((p.size : Int) > (64 : Int)) → Q (4 : Int)) ∧ ((¬ ((p.size : Int) > (64 : Int))) → (strings_Split_p p (ByteArray.mk #[47]) (fun (r9 : (List ByteArray)) => ((r9.length ≤ 9223372036854775807) → (∃ (I43 : Int → Prop) (m44 : Int → Nat), (I43 (0 : Int)) ∧ (∀ (s16 : Int), (I43 s16) → (inR .i64 s16) → (((s16 < (r9.length : Int)) → ((inL r9 s16) ∧ (((lget r9 s16).size ≤ maxLen) → (path_part_p (lget r9 s16) (fun (r76 : Bool) => ((((!r76) = true) → Q (5 : Int)) ∧ (((!r76) = false) → ((inR .i64 (s16 + (1 : Int))) ∧ ((I43 (s16 + (1 : Int))) ∧ m44 (s16 + (1 : Int)) < m44 s16))))))))) ∧ ((¬ (s16 < (r9.length : Int))) → Q (0 : Int)))))))))))
set_option maxRecDepth 20000 in
set_option maxHeartbeats 4000000 in
theorem path_Check_w {X : List Nat} {w : World} {p : ByteArray} {Q : Int → Prop} (hX0 : Old X w) (zp1 : p.size ≤ maxLen) (hp : path_Check_p p Q) :
    Calls Tryd.prog 37 #[(.string p)] w (Ret fun v w' => ∃ (r0 : Int), Q r0 ∧ Evo [] w w' ∧ v = (.int .i64 r0) ∧ inR .i64 r0) := by
  have hXo := hX0
  have E0 : Evo [] w w := RB.refl _ _ _
  have hS : Sub X X := Sub.refl _
  unfold path_Check_p at hp
  refine enter_ Tryd.func37 rfl 19 [(0, (.string p))] (by kernel_rfl) (fun Qe hQ => ?_)
  replace hp := hp zp1
  refine seq_ (fun _ K2 => ?_)
  refine reg_ ?_
  refine sq (o_pv (.int .i64 (0 : Int)) rfl (by kernel_rfl) ?_)
  refine nil_ ?_
  refine then_normal (K2 _ _ _ _ ?_)
  refine seq_ (fun _ K3 => ?_)
  refine seq_ (fun _ K4 => ?_)
  refine reg_ ?_
  refine sq (o_pv (.string p) rfl (by kernel_rfl) ?_)
  refine sq (o_pv (.int .i64 (p.size : Int)) rfl (by kernel_rfl) ?_)
  refine sq (o_pv (.bool (decide ((p.size : Int) > (64 : Int)))) rfl (by kernel_rfl) ?_)
  refine nil_ ?_
  refine then_normal (K4 _ _ _ _ ?_)
  refine cond_d ((p.size : Int) > (64 : Int)) (by kernel_rfl) (fun h5 => ?_) (fun h5 => ?_)
  ·
    replace hp := hp.1 h5
    refine seq_ (fun _ K6 => ?_)
    refine reg_ ?_
    refine sq (o_pv (.int .i64 (4 : Int)) rfl (by kernel_rfl) ?_)
    refine nil_ ?_
    refine then_normal (K6 _ _ _ _ ?_)
    refine wp_ret ?_
    refine then_ret ?_
    refine end_ret hQ (.int .i64 (4 : Int)) (by kernel_rfl) ?_
    exact ⟨(4 : Int), hp, E0, rfl, (by decide : inR .i64 (4 : Int))⟩
  ·
    replace hp := hp.2 h5
    refine wp_skip ?_
    refine then_normal (K3 _ _ _ _ ?_)
    refine seq_ (fun _ K7 => ?_)
    refine seq_ (fun _ K8 => ?_)
    refine reg_ ?_
    refine sq (o_pv (.string p) rfl (by kernel_rfl) ?_)
    refine sq (o_call 45 #[(.string p), (.string (ByteArray.mk #[47]))] rfl (x_call Tryd.call45 (by kernel_rfl)) (strings_Split_w (X := X) (s := p) (sep := (ByteArray.mk #[47])) hXo zp1 (by decide : (ByteArray.mk #[47]).size ≤ maxLen) hp) ?_)
    rintro _ w10 ⟨r9, hp, e11, ar13, cr14, rfl, hr15⟩
    have s12 := Step.of0 X e11
    replace hp := hp (Sl.len hr15)
    refine sq (o_pv (.int .i64 (r9.length : Int)) rfl (by kernel_rfl) ?_)
    refine sq (o_pv (.int .i64 (0 : Int)) rfl (by kernel_rfl) ?_)
    refine nil_ ?_
    refine then_normal (K8 _ _ _ _ ?_)
    refine wp_block ?_
    have hXo53 := (Old.step hXo s12)
    have E54 := (Evo.then0 E0 e11)
    have hS55 := (Sub.trans hS (Step.up s12))
    obtain ⟨I43, m44, hI45, hp⟩ := hp
    refine loop_ 522260 (fun kq lq w47 => ∃ (X48 : List Nat) (s16 : Int), (lq = [(11, (.int .i64 s16))]) ∧ (kq = m44 s16) ∧ (Evo [] w w47) ∧ (Old X48 w47) ∧ (Sub X X48) ∧ (Sl rStr X48 w47 ar13 cr14 r9) ∧ (inR .i64 s16) ∧ (I43 s16)) (m44 (0 : Int)) [(11, (.int .i64 (0 : Int)))] (vs_cons (by kernel_rfl) vs_nil) ⟨X, (0 : Int), rfl, rfl, E54, hXo53, hS55, hr15, (by decide : inR .i64 (0 : Int)), hI45⟩ ?_
    rintro _ _ w47 g50 ⟨X48, s16, rfl, rfl, E56, hXo57, hS58, hr59, rs17, hI46⟩ Kl51 hA52
    replace hp := hp s16 hI46 rs17
    refine seq_ (fun _ K60 => ?_)
    refine reg_ ?_
    refine sq (o_pv (.bool (decide (s16 < (r9.length : Int)))) rfl (by kernel_rfl) ?_)
    refine nil_ ?_
    refine then_normal (K60 _ _ _ _ ?_)
    refine seq_ (fun _ K61 => ?_)
    refine cond_d (s16 < (r9.length : Int)) (by kernel_rfl) (fun h62 => ?_) (fun h62 => ?_)
    ·
      replace hp := hp.1 h62
      refine wp_skip ?_
      refine then_normal (K61 _ _ _ _ ?_)
      refine seq_ (fun _ K63 => ?_)
      refine wp_block ?_
      refine seq_ (fun _ K64 => ?_)
      refine reg_ ?_
      obtain ⟨h65, hp⟩ := hp
      obtain ⟨b66, o67, cs68, ha69, nx70, lt71, ok72, hc73⟩ := Sl.atI hr59 s16 h65
      obtain ⟨rfl, ze74⟩ := ok72
      replace hp := hp ze74
      refine sq (o_pv (.pointer (some ⟨b66, o67 + s16.toNat * 1, none⟩)) rfl (x_ixA (m := r9.length) (c := cr14) (k := .i64) (i := s16) Tryd.underlying29 Tryd.sizeOf9 (by rw [← ha69]; kernel_rfl) (by kernel_rfl) h65) ?_)
      refine sq (o_pv (.string (lget r9 s16)) rfl (x_load1 (by kernel_rfl) Tryd.isAgg9 (hc73 0 _ rfl)) ?_)
      refine sq (o_pv (.string (lget r9 s16)) rfl (by kernel_rfl) ?_)
      refine nil_ ?_
      refine then_normal (K64 _ _ _ _ ?_)
      refine seq_ (fun _ K75 => ?_)
      refine reg_ ?_
      refine sq (o_pv (.string (lget r9 s16)) rfl (by kernel_rfl) ?_)
      refine sq (o_call 46 #[(.string (lget r9 s16))] rfl (x_call Tryd.call46 (by kernel_rfl)) (path_part_w (X := []) (s := lget r9 s16) (Old.nil _) ze74 hp) ?_)
      rintro _ w77 ⟨r76, hp, e78, rfl⟩
      have s79 := Step.of0 X48 e78
      refine sq (o_pv (.bool (!r76)) rfl (by kernel_rfl) ?_)
      refine nil_ ?_
      refine then_normal (K75 _ _ _ _ ?_)
      refine cond_b (!r76) (by kernel_rfl) (fun h80 => ?_) (fun h80 => ?_)
      ·
        replace hp := hp.1 h80
        refine seq_ (fun _ K81 => ?_)
        refine reg_ ?_
        refine sq (o_pv (.int .i64 (5 : Int)) rfl (by kernel_rfl) ?_)
        refine nil_ ?_
        refine then_normal (K81 _ _ _ _ ?_)
        refine wp_ret ?_
        refine blk_ret ?_
        refine then_ret ?_
        refine then_ret ?_
        refine blk_ret ?_
        refine then_ret ?_
        have E82 := (Evo.then0 E56 e78)
        refine end_ret hQ (.int .i64 (5 : Int)) (by kernel_rfl) ?_
        exact ⟨(5 : Int), hp, E82, rfl, (by decide : inR .i64 (5 : Int))⟩
      ·
        replace hp := hp.2 h80
        refine wp_skip ?_
        refine blk_normal ?_
        refine then_normal (K63 _ _ _ _ ?_)
        refine reg_ ?_
        obtain ⟨h83, hp⟩ := hp
        refine sq (o_pv (.int .i64 (s16 + (1 : Int))) rfl (x_add2 (k := .i64) (a := s16) (b := (1 : Int)) (s16 + (1 : Int)) (by kernel_rfl) (by kernel_rfl) (wrap_inR h83)) ?_)
        refine sq (o_pv (.int .i64 (s16 + (1 : Int))) rfl (by kernel_rfl) ?_)
        refine nil_ ?_
        have E84 := (Evo.then0 E56 e78)
        have hXo85 := (Old.step hXo57 s79)
        have hS86 := (Sub.trans hS58 (Step.up s79))
        have hr87 := (Sl.step hr59 s79)
        refine then_normal (hA52 _ _ _ ⟨_, [(11, (.int .i64 (s16 + (1 : Int))))], hp.2, fit_mk (AgB.mix _ _ _) (by kernel_rfl) (vs_cons (by kernel_rfl) vs_nil), ?_⟩)
        exact ⟨X48, (s16 + (1 : Int)), rfl, rfl, E84, hXo85, hS86, hr87, h83, hp.1⟩
    ·
      replace hp := hp.2 h62
      refine wp_exit ?_
      refine then_exit ?_
      refine then_exit ?_
      refine blk_exit ?_
      refine then_normal (K7 _ _ _ _ ?_)
      refine seq_ (fun _ K88 => ?_)
      refine reg_ ?_
      refine sq (o_pv (.int .i64 (0 : Int)) rfl (by kernel_rfl) ?_)
      refine nil_ ?_
      refine then_normal (K88 _ _ _ _ ?_)
      refine wp_ret ?_
      refine end_ret hQ (.int .i64 (0 : Int)) (by kernel_rfl) ?_
      exact ⟨(0 : Int), hp, E56, rfl, (by decide : inR .i64 (0 : Int))⟩

def internal_stringslite_HasPrefix_p (s : ByteArray) (prefix_ : ByteArray) (Q : Bool → Prop) : Prop :=
  ((s.size ≤ maxLen) → ((prefix_.size ≤ maxLen) → (((((s.size : Int) ≥ (prefix_.size : Int)) → ((0 ≤ (0 : Int) ∧ (0 : Int) ≤ (prefix_.size : Int) ∧ (prefix_.size : Int) ≤ (s.size : Int)) ∧ True)) ∧ ((¬ ((s.size : Int) ≥ (prefix_.size : Int))) → True)) ∧ Q (decide (((s.size : Int) ≥ (prefix_.size : Int)) ∧ ((bsub s (0 : Int) (prefix_.size : Int) : ByteArray) = prefix_))))))
set_option maxRecDepth 20000 in
set_option maxHeartbeats 4000000 in
theorem internal_stringslite_HasPrefix_w {X : List Nat} {w : World} {s : ByteArray} {prefix_ : ByteArray} {Q : Bool → Prop} (hX0 : Old X w) (zs1 : s.size ≤ maxLen) (zprefix_2 : prefix_.size ≤ maxLen) (hp : internal_stringslite_HasPrefix_p s prefix_ Q) :
    Calls Tryd.prog 79 #[(.string s), (.string prefix_)] w (Ret fun v w' => ∃ (r0 : Bool), Q r0 ∧ Evo [] w w' ∧ v = (.bool r0)) := by
  have hXo := hX0
  have E0 : Evo [] w w := RB.refl _ _ _
  have hS : Sub X X := Sub.refl _
  unfold internal_stringslite_HasPrefix_p at hp
  refine enter_ Tryd.func79 rfl 18 [(0, (.string s)), (1, (.string prefix_))] (by kernel_rfl) (fun Qe hQ => ?_)
  replace hp := hp zs1
  replace hp := hp zprefix_2
  refine seq_ (fun _ K3 => ?_)
  refine reg_ ?_
  refine sq (o_pv (.bool false) rfl (by kernel_rfl) ?_)
  refine nil_ ?_
  refine then_normal (K3 _ _ _ _ ?_)
  refine seq_ (fun _ K4 => ?_)
  obtain ⟨hp, hq⟩ := hp
  refine ground_ ?_
  refine join_ 262128 (fun lq w9 => lq = [(4, (.bool (decide (((s.size : Int) ≥ (prefix_.size : Int)) ∧ ((bsub s (0 : Int) (prefix_.size : Int) : ByteArray) = prefix_)))))] ∧ w = w9) (fun Kj7 hJ8 => ?_) ?_
  ·
    refine reg_ ?_
    refine sq (o_pv (.string s) rfl (by kernel_rfl) ?_)
    refine sq (o_pv (.int .i64 (s.size : Int)) rfl (by kernel_rfl) ?_)
    refine sq (o_pv (.string prefix_) rfl (by kernel_rfl) ?_)
    refine sq (o_pv (.int .i64 (prefix_.size : Int)) rfl (by kernel_rfl) ?_)
    by_cases h11 : (s.size : Int) ≥ (prefix_.size : Int)
    ·
      replace hp := hp.1 h11
      refine sq (o_pv (.bool true) rfl (x_dt (p := (s.size : Int) ≥ (prefix_.size : Int)) (by kernel_rfl) h11) ?_)
      refine sq (o_pv (.bool true) rfl (by kernel_rfl) ?_)
      refine sq (o_pv (.string s) (by kernel_rfl) (by kernel_rfl) ?_)
      refine sq (o_pv (.string prefix_) (by kernel_rfl) (by kernel_rfl) ?_)
      refine sq (o_pv (.int .i64 (prefix_.size : Int)) (by kernel_rfl) (by kernel_rfl) ?_)
      obtain ⟨h12, hp⟩ := hp
      refine sq (o_pv (.string (bsub s (0 : Int) (prefix_.size : Int))) (by kernel_rfl) (x_sub01 (k := .i64) (by kernel_rfl)  (by kernel_rfl) Tryd.underlying9 h12) ?_)
      refine sq (o_pv (.string prefix_) (by kernel_rfl) (by kernel_rfl) ?_)
      refine sq (o_pv (.bool (decide ((bsub s (0 : Int) (prefix_.size : Int) : ByteArray) = prefix_))) (by kernel_rfl) (x_streq (by kernel_rfl) (by kernel_rfl)) ?_)
      refine sq (o_pv (.bool (decide ((bsub s (0 : Int) (prefix_.size : Int) : ByteArray) = prefix_))) rfl (by kernel_rfl) ?_)
      refine sq (o_pv (.bool (decide ((bsub s (0 : Int) (prefix_.size : Int) : ByteArray) = prefix_))) rfl (by kernel_rfl) ?_)
      refine nil_ ?_
      refine then_normal (hJ8 _ _ _ ⟨[(4, (.bool (decide (((s.size : Int) ≥ (prefix_.size : Int)) ∧ ((bsub s (0 : Int) (prefix_.size : Int) : ByteArray) = prefix_)))))], fit_mk (fun _ _ => rfl) (by kernel_rfl) (vs_cons (Eq.trans (b := (.bool (decide ((bsub s (0 : Int) (prefix_.size : Int) : ByteArray) = prefix_)))) (by kernel_rfl) (dec_d ((and_iff_right h11).trans Iff.rfl)).symm) vs_nil), rfl, rfl⟩)
    ·
      replace hp := hp.2 h11
      refine sq (o_pv (.bool false) rfl (x_df (p := (s.size : Int) ≥ (prefix_.size : Int)) (by kernel_rfl) h11) ?_)
      refine sq (o_pv (.bool false) rfl (by kernel_rfl) ?_)
      refine sq (o_not (by kernel_rfl) ?_)
      refine sq (o_not (by kernel_rfl) ?_)
      refine sq (o_not (by kernel_rfl) ?_)
      refine sq (o_not (by kernel_rfl) ?_)
      refine sq (o_not (by kernel_rfl) ?_)
      refine sq (o_not (by kernel_rfl) ?_)
      refine sq (o_pv (.bool false) rfl (by kernel_rfl) ?_)
      refine sq (o_pv (.bool false) rfl (by kernel_rfl) ?_)
      refine nil_ ?_
      refine then_normal (hJ8 _ _ _ ⟨[(4, (.bool (decide (((s.size : Int) ≥ (prefix_.size : Int)) ∧ ((bsub s (0 : Int) (prefix_.size : Int) : ByteArray) = prefix_)))))], fit_mk (fun _ _ => rfl) (by kernel_rfl) (vs_cons (Eq.trans (b := (.bool false)) (by kernel_rfl) (dec_f (iff_false_intro (fun h => h11 h.1))).symm) vs_nil), rfl, rfl⟩)
  ·
    rintro _ w9 g10 ⟨rfl, hw⟩
    subst hw
    have hp := hq
    refine then_normal (K4 _ _ _ _ ?_)
    refine wp_ret ?_
    refine end_ret hQ (.bool (decide (((s.size : Int) ≥ (prefix_.size : Int)) ∧ ((bsub s (0 : Int) (prefix_.size : Int) : ByteArray) = prefix_)))) (by kernel_rfl) ?_
    exact ⟨(decide (((s.size : Int) ≥ (prefix_.size : Int)) ∧ ((bsub s (0 : Int) (prefix_.size : Int) : ByteArray) = prefix_))), hp, E0, rfl⟩

def strings_HasPrefix_p (s : ByteArray) (prefix_ : ByteArray) (Q : Bool → Prop) : Prop :=
  ((s.size ≤ maxLen) → ((prefix_.size ≤ maxLen) → (internal_stringslite_HasPrefix_p s prefix_ (fun (r5 : Bool) => Q r5))))
set_option maxRecDepth 20000 in
set_option maxHeartbeats 4000000 in
theorem strings_HasPrefix_w {X : List Nat} {w : World} {s : ByteArray} {prefix_ : ByteArray} {Q : Bool → Prop} (hX0 : Old X w) (zs1 : s.size ≤ maxLen) (zprefix_2 : prefix_.size ≤ maxLen) (hp : strings_HasPrefix_p s prefix_ Q) :
    Calls Tryd.prog 68 #[(.string s), (.string prefix_)] w (Ret fun v w' => ∃ (r0 : Bool), Q r0 ∧ Evo [] w w' ∧ v = (.bool r0)) := by
  have hXo := hX0
  have E0 : Evo [] w w := RB.refl _ _ _
  have hS : Sub X X := Sub.refl _
  unfold strings_HasPrefix_p at hp
  refine enter_ Tryd.func68 rfl 8 [(0, (.string s)), (1, (.string prefix_))] (by kernel_rfl) (fun Qe hQ => ?_)
  replace hp := hp zs1
  replace hp := hp zprefix_2
  refine seq_ (fun _ K3 => ?_)
  refine reg_ ?_
  refine sq (o_pv (.bool false) rfl (by kernel_rfl) ?_)
  refine nil_ ?_
  refine then_normal (K3 _ _ _ _ ?_)
  refine seq_ (fun _ K4 => ?_)
  refine reg_ ?_
  refine sq (o_pv (.string s) rfl (by kernel_rfl) ?_)
  refine sq (o_pv (.string prefix_) rfl (by kernel_rfl) ?_)
  refine sq (o_call 79 #[(.string s), (.string prefix_)] rfl (x_call Tryd.call79 (by kernel_rfl)) (internal_stringslite_HasPrefix_w (X := []) (s := s) (prefix_ := prefix_) (Old.nil _) zs1 zprefix_2 hp) ?_)
  rintro _ w6 ⟨r5, hp, e7, rfl⟩
  have s8 := Step.of0 X e7
  refine sq (o_pv (.bool r5) rfl (by kernel_rfl) ?_)
  refine nil_ ?_
  refine then_normal (K4 _ _ _ _ ?_)
  refine wp_ret ?_
  have E9 := (Evo.then0 E0 e7)
  refine end_ret hQ (.bool r5) (by kernel_rfl) ?_
  exact ⟨r5, hp, E9, rfl⟩

def path_Under_p (p : ByteArray) (dir : ByteArray) (Q : Bool → Prop) : Prop :=
  ((p.size ≤ maxLen) → ((dir.size ≤ maxLen) → ((((dir : ByteArray) = (ByteArray.mk #[])) → Q (!decide ((p : ByteArray) = (ByteArray.mk #[])))) ∧ ((¬ ((dir : ByteArray) = (ByteArray.mk #[]))) → (∃ k17 : Bool → Prop, (∀ (s16 : Bool), k17 s16 → Q s16) ∧ ((inR .i64 ((dir.size : Int) + (1 : Int))) ∧ ((((p.size : Int) > ((dir.size : Int) + (1 : Int))) → (((dir ++ (ByteArray.mk #[47])).size ≤ maxLen) ∧ (strings_HasPrefix_p p (dir ++ (ByteArray.mk #[47])) (fun (r30 : Bool) => (k17 r30))))) ∧ ((¬ ((p.size : Int) > ((dir.size : Int) + (1 : Int)))) → (k17 false)))))))))
set_option maxRecDepth 20000 in
set_option maxHeartbeats 4000000 in
theorem path_Under_w {X : List Nat} {w : World} {p : ByteArray} {dir : ByteArray} {Q : Bool → Prop} (hX0 : Old X w) (zp1 : p.size ≤ maxLen) (zdir2 : dir.size ≤ maxLen) (hp : path_Under_p p dir Q) :
    Calls Tryd.prog 53 #[(.string p), (.string dir)] w (Ret fun v w' => ∃ (r0 : Bool), Q r0 ∧ Evo [] w w' ∧ v = (.bool r0)) := by
  have hXo := hX0
  have E0 : Evo [] w w := RB.refl _ _ _
  have hS : Sub X X := Sub.refl _
  unfold path_Under_p at hp
  refine enter_ Tryd.func53 rfl 21 [(0, (.string p)), (1, (.string dir))] (by kernel_rfl) (fun Qe hQ => ?_)
  replace hp := hp zp1
  replace hp := hp zdir2
  refine seq_ (fun _ K3 => ?_)
  refine reg_ ?_
  refine sq (o_pv (.bool false) rfl (by kernel_rfl) ?_)
  refine nil_ ?_
  refine then_normal (K3 _ _ _ _ ?_)
  refine seq_ (fun _ K4 => ?_)
  refine seq_ (fun _ K5 => ?_)
  refine reg_ ?_
  refine sq (o_pv (.string dir) rfl (by kernel_rfl) ?_)
  refine sq (o_pv (.bool (decide ((dir : ByteArray) = (ByteArray.mk #[])))) rfl (x_streq (by kernel_rfl) (by kernel_rfl)) ?_)
  refine nil_ ?_
  refine then_normal (K5 _ _ _ _ ?_)
  refine cond_d ((dir : ByteArray) = (ByteArray.mk #[])) (by kernel_rfl) (fun h6 => ?_) (fun h6 => ?_)
  ·
    replace hp := hp.1 h6
    refine seq_ (fun _ K7 => ?_)
    refine reg_ ?_
    refine sq (o_pv (.string p) rfl (by kernel_rfl) ?_)
    refine sq (o_pv (.bool (!decide ((p : ByteArray) = (ByteArray.mk #[])))) rfl (x_strne (by kernel_rfl) (by kernel_rfl)) ?_)
    refine sq (o_pv (.bool (!decide ((p : ByteArray) = (ByteArray.mk #[])))) rfl (by kernel_rfl) ?_)
    refine nil_ ?_
    refine then_normal (K7 _ _ _ _ ?_)
    refine wp_ret ?_
    refine then_ret ?_
    refine end_ret hQ (.bool (!decide ((p : ByteArray) = (ByteArray.mk #[])))) (by kernel_rfl) ?_
    exact ⟨(!decide ((p : ByteArray) = (ByteArray.mk #[]))), hp, E0, rfl⟩
  ·
    replace hp := hp.2 h6
    refine wp_skip ?_
    refine then_normal (K4 _ _ _ _ ?_)
    refine seq_ (fun _ K8 => ?_)
    obtain ⟨k17, hk18, hp⟩ := hp
    refine ground_ ?_
    refine join_ 2096656 (fun lq w19 => ∃ (X20 : List Nat) (s16 : Bool), (lq = [(4, (.bool s16))]) ∧ (Evo [] w w19) ∧ (Old X20 w19) ∧ (Sub X X20) ∧ (k17 s16)) (fun Kj21 hJ22 => ?_) ?_
    ·
      refine reg_ ?_
      refine sq (o_pv (.string p) rfl (by kernel_rfl) ?_)
      refine sq (o_pv (.int .i64 (p.size : Int)) rfl (by kernel_rfl) ?_)
      refine sq (o_pv (.string dir) rfl (by kernel_rfl) ?_)
      refine sq (o_pv (.int .i64 (dir.size : Int)) rfl (by kernel_rfl) ?_)
      obtain ⟨h27, hp⟩ := hp
      refine sq (o_pv (.int .i64 ((dir.size : Int) + (1 : Int))) rfl (x_add2 (k := .i64) (a := (dir.size : Int)) (b := (1 : Int)) ((dir.size : Int) + (1 : Int)) (by kernel_rfl) (by kernel_rfl) (wrap_inR h27)) ?_)
      by_cases h28 : (p.size : Int) > ((dir.size : Int) + (1 : Int))
      ·
        replace hp := hp.1 h28
        refine sq (o_pv (.bool true) rfl (x_dt (p := (p.size : Int) > ((dir.size : Int) + (1 : Int))) (by kernel_rfl) h28) ?_)
        refine sq (o_pv (.bool true) rfl (by kernel_rfl) ?_)
        refine sq (o_pv (.string p) (by kernel_rfl) (by kernel_rfl) ?_)
        refine sq (o_pv (.string dir) (by kernel_rfl) (by kernel_rfl) ?_)
        obtain ⟨h29, hp⟩ := hp
        refine sq (o_pv (.string (dir ++ (ByteArray.mk #[47]))) (by kernel_rfl) (x_cat (by kernel_rfl) (by kernel_rfl) h29) ?_)
        refine sq (o_call 68 #[(.string p), (.string (dir ++ (ByteArray.mk #[47])))] (by kernel_rfl) (x_call Tryd.call68 (by kernel_rfl)) (strings_HasPrefix_w (X := []) (s := p) (prefix_ := dir ++ (ByteArray.mk #[47])) (Old.nil _) zp1 h29 hp) ?_)
        rintro _ w31 ⟨r30, hp, e32, rfl⟩
        have s33 := Step.of0 X e32
        refine sq (o_pv (.bool r30) rfl (by kernel_rfl) ?_)
        refine sq (o_pv (.bool r30) rfl (by kernel_rfl) ?_)
        refine nil_ ?_
        have E34 := (Evo.then0 E0 e32)
        have hXo35 := (Old.step hXo s33)
        have hS36 := (Sub.trans hS (Step.up s33))
        refine then_normal (hJ22 _ _ _ ⟨[(4, (.bool r30))], fit_mk (fun _ _ => rfl) (by kernel_rfl) (vs_cons (by kernel_rfl) vs_nil), ?_⟩)
        exact ⟨X, r30, rfl, E34, hXo35, hS36, hp⟩
      ·
        replace hp := hp.2 h28
        refine sq (o_pv (.bool false) rfl (x_df (p := (p.size : Int) > ((dir.size : Int) + (1 : Int))) (by kernel_rfl) h28) ?_)
        refine sq (o_pv (.bool false) rfl (by kernel_rfl) ?_)
        refine sq (o_not (by kernel_rfl) ?_)
        refine sq (o_not (by kernel_rfl) ?_)
        refine sq (o_not (by kernel_rfl) ?_)
        refine sq (o_not (by kernel_rfl) ?_)
        refine sq (o_pv (.bool false) rfl (by kernel_rfl) ?_)
        refine sq (o_pv (.bool false) rfl (by kernel_rfl) ?_)
        refine nil_ ?_
        refine then_normal (hJ22 _ _ _ ⟨[(4, (.bool false))], fit_mk (fun _ _ => rfl) (by kernel_rfl) (vs_cons (by kernel_rfl) vs_nil), ?_⟩)
        exact ⟨X, false, rfl, E0, hXo, hS, hp⟩
    ·
      rintro _ w19 g37 ⟨X20, s16, rfl, E24, hXo25, hS26, hv23⟩
      replace hp := hk18 s16 hv23
      refine then_normal (K8 _ _ _ _ ?_)
      refine wp_ret ?_
      refine end_ret hQ (.bool s16) (by kernel_rfl) ?_
      exact ⟨s16, hp, E24, rfl⟩

def path_Clash_p (a : ByteArray) (b : ByteArray) (Q : Bool → Prop) : Prop :=
  ((a.size ≤ maxLen) → ((b.size ≤ maxLen) → (∃ k16 : Bool → Prop, (∀ (s15 : Bool), k16 s15 → Q s15) ∧ ((((a : ByteArray) = (ByteArray.mk #[])) → (k16 false)) ∧ ((¬ ((a : ByteArray) = (ByteArray.mk #[]))) → ((((b : ByteArray) = (ByteArray.mk #[])) → (k16 false)) ∧ ((¬ ((b : ByteArray) = (ByteArray.mk #[]))) → (path_Under_p a b (fun (r28 : Bool) => (((r28 = true) → (k16 true)) ∧ ((r28 = false) → (path_Under_p b a (fun (r32 : Bool) => (k16 r32))))))))))))))
set_option maxRecDepth 20000 in
set_option maxHeartbeats 4000000 in
theorem path_Clash_w {X : List Nat} {w : World} {a : ByteArray} {b : ByteArray} {Q : Bool → Prop} (hX0 : Old X w) (za1 : a.size ≤ maxLen) (zb2 : b.size ≤ maxLen) (hp : path_Clash_p a b Q) :
    Calls Tryd.prog 47 #[(.string a), (.string b)] w (Ret fun v w' => ∃ (r0 : Bool), Q r0 ∧ Evo [] w w' ∧ v = (.bool r0)) := by
  have hXo := hX0
  have E0 : Evo [] w w := RB.refl _ _ _
  have hS : Sub X X := Sub.refl _
  unfold path_Clash_p at hp
  refine enter_ Tryd.func47 rfl 21 [(0, (.string a)), (1, (.string b))] (by kernel_rfl) (fun Qe hQ => ?_)
  replace hp := hp za1
  replace hp := hp zb2
  refine seq_ (fun _ K3 => ?_)
  refine reg_ ?_
  refine sq (o_pv (.bool false) rfl (by kernel_rfl) ?_)
  refine nil_ ?_
  refine then_normal (K3 _ _ _ _ ?_)
  refine seq_ (fun _ K4 => ?_)
  obtain ⟨k16, hk17, hp⟩ := hp
  refine ground_ ?_
  refine join_ 2097136 (fun lq w18 => ∃ (X19 : List Nat) (s15 : Bool), (lq = [(4, (.bool s15))]) ∧ (Evo [] w w18) ∧ (Old X19 w18) ∧ (Sub X X19) ∧ (k16 s15)) (fun Kj20 hJ21 => ?_) ?_
  ·
    refine reg_ ?_
    refine sq (o_pv (.string a) rfl (by kernel_rfl) ?_)
    by_cases h26 : (a : ByteArray) = (ByteArray.mk #[])
    ·
      replace hp := hp.1 h26
      refine sq (o_pv (.bool false) rfl (x_ndf (p := (a : ByteArray) = (ByteArray.mk #[])) (x_strne (by kernel_rfl) (by kernel_rfl)) h26) ?_)
      refine sq (o_pv (.bool false) rfl (by kernel_rfl) ?_)
      refine sq (o_not (by kernel_rfl) ?_)
      refine sq (o_not (by kernel_rfl) ?_)
      refine sq (o_pv (.bool false) rfl (by kernel_rfl) ?_)
      refine sq (o_pv (.bool false) rfl (by kernel_rfl) ?_)
      refine sq (o_not (by kernel_rfl) ?_)
      refine sq (o_not (by kernel_rfl) ?_)
      refine sq (o_not (by kernel_rfl) ?_)
      refine sq (o_not (by kernel_rfl) ?_)
      refine sq (o_not (by kernel_rfl) ?_)
      refine sq (o_not (by kernel_rfl) ?_)
      refine sq (o_not (by kernel_rfl) ?_)
      refine sq (o_not (by kernel_rfl) ?_)
      refine sq (o_pv (.bool false) rfl (by kernel_rfl) ?_)
      refine sq (o_pv (.bool false) rfl (by kernel_rfl) ?_)
      refine nil_ ?_
      refine then_normal (hJ21 _ _ _ ⟨[(4, (.bool false))], fit_mk (fun _ _ => rfl) (by kernel_rfl) (vs_cons (by kernel_rfl) vs_nil), ?_⟩)
      exact ⟨X, false, rfl, E0, hXo, hS, hp⟩
    ·
      replace hp := hp.2 h26
      refine sq (o_pv (.bool true) rfl (x_ndt (p := (a : ByteArray) = (ByteArray.mk #[])) (x_strne (by kernel_rfl) (by kernel_rfl)) h26) ?_)
      refine sq (o_pv (.bool true) rfl (by kernel_rfl) ?_)
      refine sq (o_pv (.string b) (by kernel_rfl) (by kernel_rfl) ?_)
      by_cases h27 : (b : ByteArray) = (ByteArray.mk #[])
      ·
        replace hp := hp.1 h27
        refine sq (o_pv (.bool false) (by kernel_rfl) (x_ndf (p := (b : ByteArray) = (ByteArray.mk #[])) (x_strne (by kernel_rfl) (by kernel_rfl)) h27) ?_)
        refine sq (o_pv (.bool false) rfl (by kernel_rfl) ?_)
        refine sq (o_pv (.bool false) rfl (by kernel_rfl) ?_)
        refine sq (o_not (by kernel_rfl) ?_)
        refine sq (o_not (by kernel_rfl) ?_)
        refine sq (o_not (by kernel_rfl) ?_)
        refine sq (o_not (by kernel_rfl) ?_)
        refine sq (o_not (by kernel_rfl) ?_)
        refine sq (o_not (by kernel_rfl) ?_)
        refine sq (o_not (by kernel_rfl) ?_)
        refine sq (o_not (by kernel_rfl) ?_)
        refine sq (o_pv (.bool false) rfl (by kernel_rfl) ?_)
        refine sq (o_pv (.bool false) rfl (by kernel_rfl) ?_)
        refine nil_ ?_
        refine then_normal (hJ21 _ _ _ ⟨[(4, (.bool false))], fit_mk (fun _ _ => rfl) (by kernel_rfl) (vs_cons (by kernel_rfl) vs_nil), ?_⟩)
        exact ⟨X, false, rfl, E0, hXo, hS, hp⟩
      ·
        replace hp := hp.2 h27
        refine sq (o_pv (.bool true) (by kernel_rfl) (x_ndt (p := (b : ByteArray) = (ByteArray.mk #[])) (x_strne (by kernel_rfl) (by kernel_rfl)) h27) ?_)
        refine sq (o_pv (.bool true) rfl (by kernel_rfl) ?_)
        refine sq (o_pv (.bool true) rfl (by kernel_rfl) ?_)
        refine sq (o_pv (.string a) (by kernel_rfl) (by kernel_rfl) ?_)
        refine sq (o_pv (.string b) (by kernel_rfl) (by kernel_rfl) ?_)
        refine sq (o_call 53 #[(.string a), (.string b)] (by kernel_rfl) (x_call Tryd.call53 (by kernel_rfl)) (path_Under_w (X := []) (p := a) (dir := b) (Old.nil _) za1 zb2 hp) ?_)
        rintro _ w29 ⟨r28, hp, e30, rfl⟩
        have s31 := Step.of0 X e30
        cases r28
        ·
          replace hp := hp.2 rfl
          refine sq (o_pv (.bool false) (by kernel_rfl) (by kernel_rfl) ?_)
          refine sq (o_pv (.string b) (by kernel_rfl) (by kernel_rfl) ?_)
          refine sq (o_pv (.string a) (by kernel_rfl) (by kernel_rfl) ?_)
          refine sq (o_call 53 #[(.string b), (.string a)] (by kernel_rfl) (x_call Tryd.call53 (by kernel_rfl)) (path_Under_w (X := []) (p := b) (dir := a) (Old.nil _) zb2 za1 hp) ?_)
          rintro _ w33 ⟨r32, hp, e34, rfl⟩
          have s35 := Step.of0 X e34
          refine sq (o_pv (.bool r32) (by kernel_rfl) (by kernel_rfl) ?_)
          refine sq (o_pv (.bool r32) rfl (by kernel_rfl) ?_)
          refine sq (o_pv (.bool r32) rfl (by kernel_rfl) ?_)
          refine nil_ ?_
          have E36 := (Evo.then0 (Evo.then0 E0 e30) e34)
          have hXo37 := (Old.step (Old.step hXo s31) s35)
          have hS38 := (Sub.trans (Sub.trans hS (Step.up s31)) (Step.up s35))
          refine then_normal (hJ21 _ _ _ ⟨[(4, (.bool r32))], fit_mk (fun _ _ => rfl) (by kernel_rfl) (vs_cons (by kernel_rfl) vs_nil), ?_⟩)
          exact ⟨X, r32, rfl, E36, hXo37, hS38, hp⟩
        ·
          replace hp := hp.1 rfl
          refine sq (o_pv (.bool true) (by kernel_rfl) (by kernel_rfl) ?_)
          refine sq (o_not (by kernel_rfl) ?_)
          refine sq (o_not (by kernel_rfl) ?_)
          refine sq (o_not (by kernel_rfl) ?_)
          refine sq (o_pv (.bool true) (by kernel_rfl) (by kernel_rfl) ?_)
          refine sq (o_pv (.bool true) rfl (by kernel_rfl) ?_)
          refine sq (o_pv (.bool true) rfl (by kernel_rfl) ?_)
          refine nil_ ?_
          have E39 := (Evo.then0 E0 e30)
          have hXo40 := (Old.step hXo s31)
          have hS41 := (Sub.trans hS (Step.up s31))
          refine then_normal (hJ21 _ _ _ ⟨[(4, (.bool true))], fit_mk (fun _ _ => rfl) (by kernel_rfl) (vs_cons (by kernel_rfl) vs_nil), ?_⟩)
          exact ⟨X, true, rfl, E39, hXo40, hS41, hp⟩
  ·
    rintro _ w18 g42 ⟨X19, s15, rfl, E23, hXo24, hS25, hv22⟩
    replace hp := hk17 s15 hv22
    refine then_normal (K4 _ _ _ _ ?_)
    refine wp_ret ?_
    refine end_ret hQ (.bool s15) (by kernel_rfl) ?_
    exact ⟨s15, hp, E23, rfl⟩

def simfs_clash_p (l : (List (ByteArray × S_simfs_file))) (p : ByteArray) (but : ByteArray) (Q : Bool → Prop) : Prop :=
  ((p.size ≤ maxLen) → ((but.size ≤ maxLen) → (∃ (I130 : (List (ByteArray × S_simfs_file)) → Prop) (m131 : (List (ByteArray × S_simfs_file)) → Nat), (I130 l) ∧ (∀ (rest71 : (List (ByteArray × S_simfs_file))), (I130 rest71) → ((rest71 = [] → Q false) ∧ (∀ (pr149 : List (ByteArray × S_simfs_file)) (key150 : ByteArray) (val151 : S_simfs_file) (po152 : List (ByteArray × S_simfs_file)), rest71 = pr149 ++ (key150, val151) :: po152 → ((key150.size ≤ maxLen) → ((inR .i64 val151.mode) → ((inR .i64 val151.time) → ((inR .i64 val151.inode) → ((val151.b.length ≤ 9223372036854775807) → (∃ k178 : (List (ByteArray × S_simfs_file)) → Bool → Prop, (∀ (rest175 : (List (ByteArray × S_simfs_file))) (s177 : Bool), k178 rest175 s177 → (((s177 = true) → Q true) ∧ ((s177 = false) → ((I130 rest175) ∧ m131 rest175 < m131 rest71)))) ∧ ((((key150 : ByteArray) = but) → (k178 (pr149 ++ po152) false)) ∧ ((¬ ((key150 : ByteArray) = but)) → (path_Clash_p p key150 (fun (r192 : Bool) => (k178 (pr149 ++ po152) r192)))))))))))))))))
set_option maxRecDepth 20000 in
set_option maxHeartbeats 4000000 in
theorem simfs_clash_w {X : List Nat} {w : World} {l : (List (ByteArray × S_simfs_file))} {p : ByteArray} {but : ByteArray} {rl1 : Nat} {Q : Bool → Prop} (hX0 : Old X w) (ml2 : RM r_simfs_file true X w rl1 l) (zp3 : p.size ≤ maxLen) (zbut4 : but.size ≤ maxLen) (hp : simfs_clash_p l p but Q) :
    Calls Tryd.prog 38 #[(.map (some rl1)), (.string p), (.string but)] w (Ret fun v w' => ∃ (r0 : Bool), Q r0 ∧ Evo [] w w' ∧ v = (.bool r0)) := by
  have hXo := hX0
  have E0 : Evo [] w w := RB.refl _ _ _
  have hS : Sub X X := Sub.refl _
  unfold simfs_clash_p at hp
  refine enter_ Tryd.func38 rfl 22 [(0, (.map (some rl1))), (1, (.string p)), (2, (.string but))] (by kernel_rfl) (fun Qe hQ => ?_)
  replace hp := hp zp3
  replace hp := hp zbut4
  refine seq_ (fun _ K5 => ?_)
  refine reg_ ?_
  refine sq (o_pv (.bool false) rfl (by kernel_rfl) ?_)
  refine nil_ ?_
  refine then_normal (K5 _ _ _ _ ?_)
  refine seq_ (fun _ K6 => ?_)
  refine seq_ (fun _ K7 => ?_)
  refine reg_ ?_
  refine sq (o_pv (.map (some rl1)) rfl (by kernel_rfl) ?_)
  refine sq (o_rangeR (X := X) (B := w.heap.size) E0.size rfl ml2 Tryd.underlying47 (by kernel_rfl) ?_)
  intro it8 w9 X10 s11 i12 n13
  refine nil_ ?_
  refine then_normal (K7 _ _ _ _ ?_)
  refine wp_block ?_
  have ml140 := (RM.step ml2 s11)
  have hXo141 := (Old.step hXo s11)
  have E142 := (Evo.then0 E0 (Step.evo s11))
  have hS143 := (Sub.trans hS (Step.up s11))
  obtain ⟨I130, m131, hI132, hp⟩ := hp
  refine loop_ 4193472 (fun kq lq w134 => ∃ (X135 : List Nat) (rest71 : (List (ByteArray × S_simfs_file))), (lq = []) ∧ (kq = m131 rest71) ∧ (Evo [] w w134) ∧ (Old X135 w134) ∧ (Sub X X135) ∧ (ITR r_simfs_file true X135 w134 ([]) w.heap.size it8 rl1 l rest71 none) ∧ (I130 rest71)) (m131 l) [] vs_nil ⟨X10, l, rfl, rfl, E142, hXo141, hS143, (ITR.drop i12), hI132⟩ ?_
  rintro _ _ w134 g137 ⟨X135, rest71, rfl, rfl, E144, hXo145, hS146, it72, hI133⟩ Kl138 hA139
  replace hp := hp rest71 hI133
  refine seq_ (fun _ K147 => ?_)
  refine reg_ ?_
  refine sq (o_nextR rfl it72 (by kernel_rfl) (fun hr148 => ?_) (fun pr149 key150 val151 po152 cs153 w154 hr148 s155 i156 ok157 z158 => ?_))
  ·
    replace hp := hp.1 hr148
    refine sq (o_pv (.bool false) rfl (by kernel_rfl) ?_)
    refine nil_ ?_
    refine then_normal (K147 _ _ _ _ ?_)
    refine seq_ (fun _ K159 => ?_)
    refine cond_f (by kernel_rfl) ?_
    refine wp_exit ?_
    refine then_exit ?_
    refine then_exit ?_
    refine blk_exit ?_
    refine then_normal (K6 _ _ _ _ ?_)
    refine seq_ (fun _ K160 => ?_)
    refine reg_ ?_
    refine sq (o_pv (.bool false) rfl (by kernel_rfl) ?_)
    refine nil_ ?_
    refine then_normal (K160 _ _ _ _ ?_)
    refine wp_ret ?_
    refine end_ret hQ (.bool false) (by kernel_rfl) ?_
    exact ⟨false, hp, E144, rfl⟩
  ·
    replace hp := hp.2 pr149 key150 val151 po152 hr148
    replace hp := hp z158
    obtain ⟨aeb164, ceb165, rfl, remode161, retime162, reinode163, heb166⟩ := r_simfs_file_open ok157
    replace hp := hp remode161
    replace hp := hp retime162
    replace hp := hp reinode163
    replace hp := hp (Sl.len heb166)
    refine sq (o_pv (.bool true) rfl (by kernel_rfl) ?_)
    refine nil_ ?_
    refine then_normal (K147 _ _ _ _ ?_)
    refine seq_ (fun _ K167 => ?_)
    refine cond_t (by kernel_rfl) ?_
    refine wp_skip ?_
    refine then_normal (K167 _ _ _ _ ?_)
    refine wp_block ?_
    refine seq_ (fun _ K168 => ?_)
    refine reg_ ?_
    refine sq (o_pv (.tuple #[(.string key150), (.agg #[(.int .i64 val151.mode), (.int .i64 val151.time), (.int .i64 val151.inode), (.slice aeb164 val151.b.length ceb165)])]) rfl (x_entryR i156 (by kernel_rfl)) ?_)
    refine sq (o_pv (.string key150) rfl (by kernel_rfl) ?_)
    refine sq (o_pv (.string key150) rfl (by kernel_rfl) ?_)
    refine nil_ ?_
    refine then_normal (K168 _ _ _ _ ?_)
    refine seq_ (fun _ K169 => ?_)
    have E185 := (Evo.thenW E144 (Step.evo s155) it72.wr)
    have hXo186 := (Old.step hXo145 s155)
    have hS187 := (Sub.trans hS146 (Step.up s155))
    obtain ⟨k178, hk179, hp⟩ := hp
    refine ground_ ?_
    refine join_ 4177920 (fun lq w180 => ∃ (X181 : List Nat) (rest175 : (List (ByteArray × S_simfs_file))) (s177 : Bool), (lq = [(21, (.bool s177))]) ∧ (Evo [] w w180) ∧ (Old X181 w180) ∧ (Sub X X181) ∧ (ITR r_simfs_file true X181 w180 ([]) w.heap.size it8 rl1 l rest175 none) ∧ (k178 rest175 s177)) (fun Kj182 hJ183 => ?_) ?_
    ·
      refine reg_ ?_
      refine sq (o_pv (.string key150) rfl (by kernel_rfl) ?_)
      refine sq (o_pv (.string but) rfl (by kernel_rfl) ?_)
      by_cases h191 : (key150 : ByteArray) = but
      ·
        replace hp := hp.1 h191
        refine sq (o_pv (.bool false) rfl (x_ndf (p := (key150 : ByteArray) = but) (x_strne (by kernel_rfl) (by kernel_rfl)) h191) ?_)
        refine sq (o_pv (.bool false) rfl (by kernel_rfl) ?_)
        refine sq (o_not (by kernel_rfl) ?_)
        refine sq (o_not (by kernel_rfl) ?_)
        refine sq (o_not (by kernel_rfl) ?_)
        refine sq (o_pv (.bool false) rfl (by kernel_rfl) ?_)
        refine nil_ ?_
        refine then_normal (hJ183 _ _ _ ⟨[(21, (.bool false))], fit_mk (fun _ _ => rfl) (by kernel_rfl) (vs_cons (by kernel_rfl) vs_nil), ?_⟩)
        exact ⟨X135, (pr149 ++ po152), false, rfl, E185, hXo186, hS187, (ITR.drop i156), hp⟩
      ·
        replace hp := hp.2 h191
        refine sq (o_pv (.bool true) rfl (x_ndt (p := (key150 : ByteArray) = but) (x_strne (by kernel_rfl) (by kernel_rfl)) h191) ?_)
        refine sq (o_pv (.bool true) rfl (by kernel_rfl) ?_)
        refine sq (o_pv (.string p) (by kernel_rfl) (by kernel_rfl) ?_)
        refine sq (o_pv (.string key150) (by kernel_rfl) (by kernel_rfl) ?_)
        refine sq (o_call 47 #[(.string p), (.string key150)] (by kernel_rfl) (x_call Tryd.call47 (by kernel_rfl)) (path_Clash_w (X := []) (a := p) (b := key150) (Old.nil _) zp3 z158 hp) ?_)
        rintro _ w193 ⟨r192, hp, e194, rfl⟩
        have s195 := Step.of0 X135 e194
        refine sq (o_pv (.bool r192) rfl (by kernel_rfl) ?_)
        refine nil_ ?_
        have E196 := (Evo.then0 E185 e194)
        have hXo197 := (Old.step hXo186 s195)
        have hS198 := (Sub.trans hS187 (Step.up s195))
        have i199 := (ITR.step0 i156 s195)
        refine then_normal (hJ183 _ _ _ ⟨[(21, (.bool r192))], fit_mk (fun _ _ => rfl) (by kernel_rfl) (vs_cons (by kernel_rfl) vs_nil), ?_⟩)
        exact ⟨X135, (pr149 ++ po152), r192, rfl, E196, hXo197, hS198, (ITR.drop i199), hp⟩
    ·
      rintro _ w180 g200 ⟨X181, rest175, s177, rfl, E188, hXo189, hS190, it176, hv184⟩
      replace hp := hk179 rest175 s177 hv184
      refine then_normal (K169 _ _ _ _ ?_)
      refine cond_b s177 (by kernel_rfl) (fun h201 => ?_) (fun h201 => ?_)
      ·
        replace hp := hp.1 h201
        refine seq_ (fun _ K202 => ?_)
        refine reg_ ?_
        refine sq (o_pv (.bool true) rfl (by kernel_rfl) ?_)
        refine nil_ ?_
        refine then_normal (K202 _ _ _ _ ?_)
        refine wp_ret ?_
        refine blk_ret ?_
        refine then_ret ?_
        refine blk_ret ?_
        refine then_ret ?_
        refine end_ret hQ (.bool true) (by kernel_rfl) ?_
        exact ⟨true, hp, E188, rfl⟩
      ·
        replace hp := hp.2 h201
        refine wp_skip ?_
        refine blk_normal ?_
        refine then_normal (hA139 _ _ _ ⟨_, [], hp.2, fit_mk (AgB.nest (AgB.look (AgB.mix _ _ _) (by kernel_rfl)) (by kernel_rfl) (by kernel_rfl)) (by kernel_rfl) vs_nil, ?_⟩)
        exact ⟨X181, rest175, rfl, rfl, E188, hXo189, hS190, (ITR.drop it176), hp.1⟩

def simfs_sum_p (l : (List (ByteArray × S_simfs_file))) (Q : Int → Prop) : Prop :=
  (∃ (I97 : Int → (List (ByteArray × S_simfs_file)) → Prop) (m98 : Int → (List (ByteArray × S_simfs_file)) → Nat), (I97 (0 : Int) l) ∧ (∀ (n_54 : Int) (rest56 : (List (ByteArray × S_simfs_file))), (I97 n_54 rest56) → (inR .i64 n_54) → ((rest56 = [] → Q n_54) ∧ (∀ (pr116 : List (ByteArray × S_simfs_file)) (key117 : ByteArray) (val118 : S_simfs_file) (po119 : List (ByteArray × S_simfs_file)), rest56 = pr116 ++ (key117, val118) :: po119 → ((key117.size ≤ maxLen) → ((inR .i64 val118.mode) → ((inR .i64 val118.time) → ((inR .i64 val118.inode) → ((val118.b.length ≤ 9223372036854775807) → ((inR .i64 (n_54 + (val118.b.length : Int))) ∧ ((I97 (n_54 + (val118.b.length : Int)) (pr116 ++ po119)) ∧ m98 (n_54 + (val118.b.length : Int)) (pr116 ++ po119) < m98 n_54 rest56)))))))))))
set_option maxRecDepth 20000 in
set_option maxHeartbeats 4000000 in
theorem simfs_sum_w {X : List Nat} {w : World} {l : (List (ByteArray × S_simfs_file))} {rl1 : Nat} {Q : Int → Prop} (hX0 : Old X w) (ml2 : RM r_simfs_file true X w rl1 l) (hp : simfs_sum_p l Q) :
    Calls Tryd.prog 39 #[(.map (some rl1))] w (Ret fun v w' => ∃ (r0 : Int), Q r0 ∧ Evo [] w w' ∧ v = (.int .i64 r0) ∧ inR .i64 r0) := by
  have hXo := hX0
  have E0 : Evo [] w w := RB.refl _ _ _
  have hS : Sub X X := Sub.refl _
  unfold simfs_sum_p at hp
  refine enter_ Tryd.func39 rfl 18 [(0, (.map (some rl1)))] (by kernel_rfl) (fun Qe hQ => ?_)
  refine seq_ (fun _ K3 => ?_)
  refine reg_ ?_
  refine sq (o_pv (.int .i64 (0 : Int)) rfl (by kernel_rfl) ?_)
  refine nil_ ?_
  refine then_normal (K3 _ _ _ _ ?_)
  refine seq_ (fun _ K4 => ?_)
  refine reg_ ?_
  refine sq (o_pv (.int .i64 (0 : Int)) rfl (by kernel_rfl) ?_)
  refine nil_ ?_
  refine then_normal (K4 _ _ _ _ ?_)
  refine seq_ (fun _ K5 => ?_)
  refine seq_ (fun _ K6 => ?_)
  refine reg_ ?_
  refine sq (o_pv (.map (some rl1)) rfl (by kernel_rfl) ?_)
  refine sq (o_rangeR (X := X) (B := w.heap.size) E0.size rfl ml2 Tryd.underlying47 (by kernel_rfl) ?_)
  intro it7 w8 X9 s10 i11 n12
  refine nil_ ?_
  refine then_normal (K6 _ _ _ _ ?_)
  refine wp_block ?_
  have ml107 := (RM.step ml2 s10)
  have hXo108 := (Old.step hXo s10)
  have E109 := (Evo.then0 E0 (Step.evo s10))
  have hS110 := (Sub.trans hS (Step.up s10))
  obtain ⟨I97, m98, hI99, hp⟩ := hp
  refine loop_ 130856 (fun kq lq w101 => ∃ (X102 : List Nat) (n_54 : Int) (rest56 : (List (ByteArray × S_simfs_file))), (lq = [(3, (.int .i64 n_54))]) ∧ (kq = m98 n_54 rest56) ∧ (Evo [] w w101) ∧ (Old X102 w101) ∧ (Sub X X102) ∧ (ITR r_simfs_file true X102 w101 ([]) w.heap.size it7 rl1 l rest56 none) ∧ (inR .i64 n_54) ∧ (I97 n_54 rest56)) (m98 (0 : Int) l) [(3, (.int .i64 (0 : Int)))] (vs_cons (by kernel_rfl) vs_nil) ⟨X9, (0 : Int), l, rfl, rfl, E109, hXo108, hS110, (ITR.drop i11), (by decide : inR .i64 (0 : Int)), hI99⟩ ?_
  rintro _ _ w101 g104 ⟨X102, n_54, rest56, rfl, rfl, E111, hXo112, hS113, it57, rn_55, hI100⟩ Kl105 hA106
  replace hp := hp n_54 rest56 hI100 rn_55
  refine seq_ (fun _ K114 => ?_)
  refine reg_ ?_
  refine sq (o_nextR rfl it57 (by kernel_rfl) (fun hr115 => ?_) (fun pr116 key117 val118 po119 cs120 w121 hr115 s122 i123 ok124 z125 => ?_))
  ·
    replace hp := hp.1 hr115
    refine sq (o_pv (.bool false) rfl (by kernel_rfl) ?_)
    refine nil_ ?_
    refine then_normal (K114 _ _ _ _ ?_)
    refine seq_ (fun _ K126 => ?_)
    refine cond_f (by kernel_rfl) ?_
    refine wp_exit ?_
    refine then_exit ?_
    refine then_exit ?_
    refine blk_exit ?_
    refine then_normal (K5 _ _ _ _ ?_)
    refine seq_ (fun _ K127 => ?_)
    refine reg_ ?_
    refine sq (o_pv (.int .i64 n_54) rfl (by kernel_rfl) ?_)
    refine sq (o_pv (.int .i64 n_54) rfl (by kernel_rfl) ?_)
    refine nil_ ?_
    refine then_normal (K127 _ _ _ _ ?_)
    refine wp_ret ?_
    refine end_ret hQ (.int .i64 n_54) (by kernel_rfl) ?_
    exact ⟨n_54, hp, E111, rfl, rn_55⟩
  ·
    replace hp := hp.2 pr116 key117 val118 po119 hr115
    replace hp := hp z125
    obtain ⟨aeb131, ceb132, rfl, remode128, retime129, reinode130, heb133⟩ := r_simfs_file_open ok124
    replace hp := hp remode128
    replace hp := hp retime129
    replace hp := hp reinode130
    replace hp := hp (Sl.len heb133)
    refine sq (o_pv (.bool true) rfl (by kernel_rfl) ?_)
    refine nil_ ?_
    refine then_normal (K114 _ _ _ _ ?_)
    refine seq_ (fun _ K134 => ?_)
    refine cond_t (by kernel_rfl) ?_
    refine wp_skip ?_
    refine then_normal (K134 _ _ _ _ ?_)
    refine wp_block ?_
    refine seq_ (fun _ K135 => ?_)
    refine reg_ ?_
    refine sq (o_pv (.tuple #[(.string key117), (.agg #[(.int .i64 val118.mode), (.int .i64 val118.time), (.int .i64 val118.inode), (.slice aeb131 val118.b.length ceb132)])]) rfl (x_entryR i123 (by kernel_rfl)) ?_)
    refine sq (o_pv (.agg #[(.int .i64 val118.mode), (.int .i64 val118.time), (.int .i64 val118.inode), (.slice aeb131 val118.b.length ceb132)]) rfl (by kernel_rfl) ?_)
    have E142 := (Evo.thenW E111 (Step.evo s122) it57.wr)
    refine sq (o_newX [(.int .i64 (0 : Int)), (.int .i64 (0 : Int)), (.int .i64 (0 : Int)), (.slice none 0 0)] 54 (X := X102) (B := w.heap.size) E142.size rfl (by kernel_rfl) ?_)
    intro b136 w137 X138 s139 k140 n141
    have p143 := n141 _ (ITR.old i123)
    have i144 := (ITR.step0 i123 s139)
    have E145 := (Evo.then0 E142 (Step.evo s139))
    refine sq (o_stB (o := 0) (v := (.agg #[(.int .i64 val118.mode), (.int .i64 val118.time), (.int .i64 val118.inode), (.slice aeb131 val118.b.length ceb132)])) [(.int .i64 val118.mode), (.int .i64 val118.time), (.int .i64 val118.inode), (.slice aeb131 val118.b.length ceb132)] rfl k140 (by kernel_rfl) (by kernel_rfl) Tryd.sizeOf54 rfl rfl rfl ?_)
    intro w146 s147 k148
    refine nil_ ?_
    refine then_normal (K135 _ _ _ _ ?_)
    refine reg_ ?_
    refine sq (o_pv (.int .i64 n_54) rfl (by kernel_rfl) ?_)
    refine sq (o_pv (.pointer (some ⟨b136, 3, none⟩)) rfl (by kernel_rfl) ?_)
    refine sq (o_pv (.slice aeb131 val118.b.length ceb132) rfl (x_load1 (by kernel_rfl) Tryd.isAgg28 (k148.2.1.cell' 3 rfl)) ?_)
    refine sq (o_pv (.int .i64 (val118.b.length : Int)) rfl (by kernel_rfl) ?_)
    obtain ⟨h149, hp⟩ := hp
    refine sq (o_pv (.int .i64 (n_54 + (val118.b.length : Int))) rfl (x_add2 (k := .i64) (a := n_54) (b := (val118.b.length : Int)) (n_54 + (val118.b.length : Int)) (by kernel_rfl) (by kernel_rfl) (wrap_inR h149)) ?_)
    refine sq (o_pv (.int .i64 (n_54 + (val118.b.length : Int))) rfl (by kernel_rfl) ?_)
    refine nil_ ?_
    refine blk_normal ?_
    have E150 := (Evo.thenW E145 (Step.evo s147) k140.2.2)
    have hXo151 := (Old.step (Old.step (Old.step hXo112 s122) s139) s147)
    have hS152 := (Sub.trans (Sub.trans (Sub.trans hS113 (Step.up s122)) (Step.up s139)) (Step.up s147))
    have i153 := (ITR.step i144 s147 p143)
    refine then_normal (hA106 _ _ _ ⟨_, [(3, (.int .i64 (n_54 + (val118.b.length : Int))))], hp.2, fit_mk (AgB.mix _ _ _) (by kernel_rfl) (vs_cons (by kernel_rfl) vs_nil), ?_⟩)
    exact ⟨X138, (n_54 + (val118.b.length : Int)), (pr116 ++ po119), rfl, rfl, E150, hXo151, hS152, (ITR.drop i153), h149, hp.1⟩

def simfs_FS_room_p (f_ : S_simfs_FS) (p : ByteArray) (n_ : Int) (Q : S_simfs_FS → Bool → Prop) : Prop :=
  ((p.size ≤ maxLen) → ((inR .i64 n_) → ((f_.pending.length ≤ 9223372036854775807) → ((inR .i64 f_.quota) → ((inR .i64 f_.now) → ((inR .i64 f_.inodes) → ((inR .i64 f_.ops_) → ((inR .i64 f_.left) → ((f_.keep.length ≤ 9223372036854775807) → ((inR .i64 ((mgetD f_.files p).mode)) → ((inR .i64 ((mgetD f_.files p).time)) → ((inR .i64 ((mgetD f_.files p).inode)) → ((((mgetD f_.files p).b).length ≤ 9223372036854775807) → (∃ k111 : Bool → Prop, (∀ (s110 : Bool), k111 s110 → Q f_ s110) ∧ (((f_.quota ≤ (0 : Int)) → (k111 true)) ∧ ((¬ (f_.quota ≤ (0 : Int))) → (((n_ = (0 : Int)) → (k111 true)) ∧ ((¬ (n_ = (0 : Int))) → ((((mhas f_.files p) = true) → (((n_ ≤ (((mgetD f_.files p).b).length : Int)) → (k111 true)) ∧ ((¬ (n_ ≤ (((mgetD f_.files p).b).length : Int))) → (simfs_sum_p f_.files (fun (r158 : Int) => ((inR .i64 r158) → ((inR .i64 (r158 - (((mgetD f_.files p).b).length : Int))) ∧ ((inR .i64 ((r158 - (((mgetD f_.files p).b).length : Int)) + n_)) ∧ (k111 (decide (((r158 - (((mgetD f_.files p).b).length : Int)) + n_) ≤ f_.quota))))))))))) ∧ ((¬ ((mhas f_.files p) = true)) → (simfs_sum_p f_.files (fun (r175 : Int) => ((inR .i64 r175) → ((inR .i64 (r175 - (((mgetD f_.files p).b).length : Int))) ∧ ((inR .i64 ((r175 - (((mgetD f_.files p).b).length : Int)) + n_)) ∧ (k111 (decide (((r175 - (((mgetD f_.files p).b).length : Int)) + n_) ≤ f_.quota))))))))))))))))))))))))))))
set_option maxRecDepth 20000 in
set_option maxHeartbeats 4000000 in
theorem simfs_FS_room_w {X : List Nat} {w : World} {f_ : S_simfs_FS} {p : ByteArray} {n_ : Int} {bf_1 : Nat} {Ff_2 : List Nat} {Q : S_simfs_FS → Bool → Prop} (hX0 : Old X w) (mf_3 : MO o_simfs_FS 50 Ff_2 w.heap.size X w Ff_2 bf_1 f_) (zp4 : p.size ≤ maxLen) (rn_5 : inR .i64 n_) (hp : simfs_FS_room_p f_ p n_ Q) :
    Calls Tryd.prog 40 #[(.pointer (some ⟨bf_1, 0, none⟩)), (.string p), (.int .i64 n_)] w (Ret fun v w' => ∃ (m0 : S_simfs_FS) (r0 : Bool), Q m0 r0 ∧ ∃ (X' : List Nat) (Fm0 : List Nat), Step X w Ff_2 X' w' ∧ v = (.bool r0) ∧ MO o_simfs_FS 50 Ff_2 w.heap.size X' w' Fm0 bf_1 m0) := by
  have hXo := hX0
  have E0 : Evo Ff_2 w w := RB.refl _ _ _
  have hS : Sub X X := Sub.refl _
  have hN : News X w X w := News.refl _ _
  have hF0 : Sub Ff_2 X := MO.mem mf_3
  unfold simfs_FS_room_p at hp
  refine enter_ Tryd.func40 rfl 55 [(0, (.pointer (some ⟨bf_1, 0, none⟩))), (1, (.string p)), (2, (.int .i64 n_))] (by kernel_rfl) (fun Qe hQ => ?_)
  replace hp := hp zp4
  replace hp := hp rn_5
  refine seq_ (fun _ K6 => ?_)
  refine reg_ ?_
  refine sq (o_pv (.bool false) rfl (by kernel_rfl) ?_)
  refine nil_ ?_
  refine then_normal (K6 _ _ _ _ ?_)
  refine seq_ (fun _ K7 => ?_)
  refine reg_ ?_
  refine sq (o_pv (.pointer (some ⟨bf_1, 0, none⟩)) rfl (by kernel_rfl) ?_)
  refine sq (o_pv (.pointer (some ⟨bf_1, 0, none⟩)) rfl (by kernel_rfl) ?_)
  obtain ⟨rokept8, rofiles10, ao12, no13, co14, aokeep21, cokeep22, k24, mokept9, mofiles11, Oo15, roquota16, ronow17, roinodes18, roops_19, roleft20, hokeep23, sb25, sb26, sb27, sb28, p29, p30, p31, p32, p33, p34⟩ := o_simfs_FS_open mf_3
  replace hp := hp (OS.len Oo15)
  replace hp := hp roquota16
  replace hp := hp ronow17
  replace hp := hp roinodes18
  replace hp := hp roops_19
  replace hp := hp roleft20
  replace hp := hp (Sl.len hokeep23)
  refine sq (o_pv (.pointer (some ⟨bf_1, 1, none⟩)) rfl (by kernel_rfl) ?_)
  refine sq (o_pv (.map (some rofiles10)) rfl (x_load1 (by kernel_rfl) Tryd.isAgg47 (k24.2.1.cell' 1 rfl)) ?_)
  refine sq (o_pv (.string p) rfl (by kernel_rfl) ?_)
  obtain ⟨cs35, ok36, lk37⟩ := MapAt.look mofiles11.2.1 p [(.int .i64 (0 : Int)), (.int .i64 (0 : Int)), (.int .i64 (0 : Int)), (.slice none 0 0)] (fun _ _ => (r_simfs_file_mk (by decide : inR .i64 (0 : Int)) (by decide : inR .i64 (0 : Int)) (by decide : inR .i64 (0 : Int)) (Sl.nil) rfl))
  obtain ⟨alb41, clb42, rfl, rlmode38, rltime39, rlinode40, hlb43⟩ := r_simfs_file_open ok36
  replace hp := hp rlmode38
  replace hp := hp rltime39
  replace hp := hp rlinode40
  replace hp := hp (Sl.len hlb43)
  refine sq (o_pv (.tuple #[(.agg #[(.int .i64 ((mgetD f_.files p).mode)), (.int .i64 ((mgetD f_.files p).time)), (.int .i64 ((mgetD f_.files p).inode)), (.slice alb41 (((mgetD f_.files p).b).length) clb42)]), (.bool (mhas f_.files p))]) rfl (x_lookup2 (w0 := w) (k := p) (v := (.agg #[(.int .i64 ((mgetD f_.files p).mode)), (.int .i64 ((mgetD f_.files p).time)), (.int .i64 ((mgetD f_.files p).inode)), (.slice alb41 (((mgetD f_.files p).b).length) clb42)])) (z := (.agg #[(.int .i64 (0 : Int)), (.int .i64 (0 : Int)), (.int .i64 (0 : Int)), (.slice none 0 0)])) (b := mhas f_.files p) (s := 4) (bts := 48) (by kernel_rfl) (by kernel_rfl) lk37 rfl Tryd.underlying47 Tryd.underlying9 (by kernel_rfl)) ?_)
  refine sq (o_pv (.tuple #[(.agg #[(.int .i64 ((mgetD f_.files p).mode)), (.int .i64 ((mgetD f_.files p).time)), (.int .i64 ((mgetD f_.files p).inode)), (.slice alb41 (((mgetD f_.files p).b).length) clb42)]), (.bool (mhas f_.files p))]) rfl (by kernel_rfl) ?_)
  refine sq (o_pv (.agg #[(.int .i64 ((mgetD f_.files p).mode)), (.int .i64 ((mgetD f_.files p).time)), (.int .i64 ((mgetD f_.files p).inode)), (.slice alb41 (((mgetD f_.files p).b).length) clb42)]) rfl (by kernel_rfl) ?_)
  refine sq (o_pv (.bool (mhas f_.files p)) rfl (by kernel_rfl) ?_)
  refine sq (o_newX [(.int .i64 (0 : Int)), (.int .i64 (0 : Int)), (.int .i64 (0 : Int)), (.slice none 0 0)] 54 (X := X) (B := w.heap.size) E0.size rfl (by kernel_rfl) ?_)
  intro b44 w45 X46 s47 k48 n49
  have p50 := n49 _ (OB.old k24)
  have p51 := n49 _ (OM.old mokept9)
  have p52 := n49 _ (OM.old mofiles11)
  have p53 := n49 _ (OS.old Oo15)
  have k54 := (OB.step0 k24 s47)
  have mokept55 := (OM.step0 mokept9 s47)
  have mofiles56 := (OM.step0 mofiles11 s47)
  have Oo57 := (OS.step0 Oo15 s47)
  have E58 := (Evo.then0 E0 (Step.evo s47))
  refine sq (o_stB (o := 0) (v := (.agg #[(.int .i64 ((mgetD f_.files p).mode)), (.int .i64 ((mgetD f_.files p).time)), (.int .i64 ((mgetD f_.files p).inode)), (.slice alb41 (((mgetD f_.files p).b).length) clb42)])) [(.int .i64 ((mgetD f_.files p).mode)), (.int .i64 ((mgetD f_.files p).time)), (.int .i64 ((mgetD f_.files p).inode)), (.slice alb41 (((mgetD f_.files p).b).length) clb42)] rfl k48 (by kernel_rfl) (by kernel_rfl) Tryd.sizeOf54 rfl rfl rfl ?_)
  intro w59 s60 k61
  refine sq (o_pv (.bool (mhas f_.files p)) rfl (by kernel_rfl) ?_)
  refine nil_ ?_
  refine then_normal (K7 _ _ _ _ ?_)
  refine seq_ (fun _ K62 => ?_)
  have hXo118 := (Old.step (Old.step hXo s47) s60)
  have E119 := (Evo.thenW E58 (Step.evo s60) (Wr.of k48.2.2))
  have hS120 := (Sub.trans (Sub.trans hS (Step.up s47)) (Step.up s60))
  have hN121 := (News.step (News.step hN s47) s60)
  have k122 := (OB.step k54 s60 p50)
  have mokept123 := (OM.step mokept55 s60 p51)
  have mofiles124 := (OM.step mofiles56 s60 p52)
  have Oo125 := (OS.step Oo57 s60 p53)
  have hokeep126 := (Sl.step (Sl.step hokeep23 s47) s60)
  have hlb127 := (Sl.step (Sl.step hlb43 s47) s60)
  obtain ⟨k111, hk112, hp⟩ := hp
  refine ground_ ?_
  refine join_ 36028797018701888 (fun lq w113 => ∃ (X114 : List Nat) (s110 : Bool), (lq = [(6, (.bool s110))]) ∧ (Evo Ff_2 w w113) ∧ (Old X114 w113) ∧ (Sub X X114) ∧ (News X w X114 w113) ∧ (OM r_simfs_file true Ff_2 w.heap.size X114 w113 rokept8 f_.kept) ∧ (OM r_simfs_file true Ff_2 w.heap.size X114 w113 rofiles10 f_.files) ∧ (OS r_simfs_op Ff_2 w.heap.size X114 w113 56 ao12 no13 co14 f_.pending) ∧ (Sl rBool X114 w113 aokeep21 cokeep22 f_.keep) ∧ (OB Ff_2 w.heap.size X114 w113 bf_1 [(.map (some rokept8)), (.map (some rofiles10)), (.slice ao12 no13 co14), (.int .i64 f_.quota), (.int .i64 f_.now), (.int .i64 f_.inodes), (.int .i64 f_.ops_), (.bool f_.off), (.bool f_.armed), (.int .i64 f_.left), (.slice aokeep21 f_.keep.length cokeep22)] 50) ∧ (k111 s110)) (fun Kj115 hJ116 => ?_) ?_
  ·
    refine reg_drawn (RB w59.heap.size []) 37 (by kernel_rfl) (fun w137 hd138 => ?_)
    have e139 := Evo.of_drew hd138
    have z140 : w137.heap.size = w59.heap.size := by rw [hd138]
    clear hd138
    have s142 := Step.of0 X46 e139
    have er141 := RB.refl w59.heap.size [] w137
    have hXo143 := (Old.step hXo118 s142)
    have E144 := (Evo.then0 E119 (Step.evo s142))
    have hS145 := (Sub.trans hS120 (Step.up s142))
    have hN146 := (News.step hN121 s142)
    have k147 := (OB.step0 k122 s142)
    have mokept148 := (OM.step0 mokept123 s142)
    have mofiles149 := (OM.step0 mofiles124 s142)
    have Oo150 := (OS.step0 Oo125 s142)
    have hokeep151 := (Sl.step hokeep126 s142)
    have hlb152 := (Sl.step hlb127 s142)
    have k153 := (OB.step0 k61 s142)
    refine r_take 0 (.pointer (some ⟨bf_1, 0, none⟩)) (RB.pre _ _) rfl (by kernel_rfl) (fun _ _ _ h => hQ.panic _ _ _ _ _ h) (.inl ⟨rfl, fun wq hq => (by kernel_rfl)⟩) ?_
    refine r_take 1 (.pointer (some ⟨bf_1, 0, none⟩)) (RB.pre _ _) rfl (by kernel_rfl) (fun _ _ _ h => hQ.panic _ _ _ _ _ h) (.inl ⟨rfl, fun wq hq => (by kernel_rfl)⟩) ?_
    refine r_take 2 (.pointer (some ⟨bf_1, 3, none⟩)) (RB.pre _ _) rfl (by kernel_rfl) (fun _ _ _ h => hQ.panic _ _ _ _ _ h) (.inl ⟨rfl, fun wq hq => (by kernel_rfl)⟩) ?_
    refine r_take 3 (.int .i64 f_.quota) (RB.pre _ _) rfl (by kernel_rfl) (fun _ _ _ h => hQ.panic _ _ _ _ _ h) (.inl ⟨rfl, fun wq hq => (x_load1 (by kernel_rfl) Tryd.isAgg3 ((Blk.rb k147.2.1 (RB.trans er141 hq) (Nat.lt_of_lt_of_eq (Blk.lt k147.2.1) z140) (fun h => by cases h)).cell' 3 rfl))⟩) ?_
    by_cases h154 : f_.quota ≤ (0 : Int)
    ·
      replace hp := hp.1 h154
      refine r_take 4 (.bool true) (RB.pre _ _) rfl (by kernel_rfl) (fun _ _ _ h => hQ.panic _ _ _ _ _ h) (.inl ⟨rfl, fun wq hq => (x_dt (p := f_.quota ≤ (0 : Int)) (by kernel_rfl) h154)⟩) ?_
      refine r_take 5 (.bool true) (RB.pre _ _) rfl (by kernel_rfl) (fun _ _ _ h => hQ.panic _ _ _ _ _ h) (.inl ⟨rfl, fun wq hq => (by kernel_rfl)⟩) ?_
      refine r_take 6 undef (RB.pre _ _) rfl (by kernel_rfl) (fun _ _ _ h => hQ.panic _ _ _ _ _ h) (.inr ⟨by kernel_rfl, rfl⟩) ?_
      refine r_take 7 undef (RB.pre _ _) rfl (by kernel_rfl) (fun _ _ _ h => hQ.panic _ _ _ _ _ h) (.inr ⟨by kernel_rfl, rfl⟩) ?_
      refine r_take 8 (.bool true) (RB.pre _ _) rfl (by kernel_rfl) (fun _ _ _ h => hQ.panic _ _ _ _ _ h) (.inl ⟨rfl, fun wq hq => (by kernel_rfl)⟩) ?_
      refine r_take 9 (.bool true) (RB.pre _ _) rfl (by kernel_rfl) (fun _ _ _ h => hQ.panic _ _ _ _ _ h) (.inl ⟨rfl, fun wq hq => (by kernel_rfl)⟩) ?_
      refine r_take 10 undef (RB.pre _ _) rfl (by kernel_rfl) (fun _ _ _ h => hQ.panic _ _ _ _ _ h) (.inr ⟨by kernel_rfl, rfl⟩) ?_
      refine r_take 11 undef (RB.pre _ _) rfl (by kernel_rfl) (fun _ _ _ h => hQ.panic _ _ _ _ _ h) (.inr ⟨by kernel_rfl, rfl⟩) ?_
      refine r_take 12 undef (RB.pre _ _) rfl (by kernel_rfl) (fun _ _ _ h => hQ.panic _ _ _ _ _ h) (.inr ⟨by kernel_rfl, rfl⟩) ?_
      refine r_take 13 undef (RB.pre _ _) rfl (by kernel_rfl) (fun _ _ _ h => hQ.panic _ _ _ _ _ h) (.inr ⟨by kernel_rfl, rfl⟩) ?_
      refine r_take 14 undef (RB.pre _ _) rfl (by kernel_rfl) (fun _ _ _ h => hQ.panic _ _ _ _ _ h) (.inr ⟨by kernel_rfl, rfl⟩) ?_
      refine r_take 15 undef (RB.pre _ _) rfl (by kernel_rfl) (fun _ _ _ h => hQ.panic _ _ _ _ _ h) (.inr ⟨by kernel_rfl, rfl⟩) ?_
      refine r_take 16 undef (RB.pre _ _) rfl (by kernel_rfl) (fun _ _ _ h => hQ.panic _ _ _ _ _ h) (.inr ⟨by kernel_rfl, rfl⟩) ?_
      refine r_take 17 undef (RB.pre _ _) rfl (by kernel_rfl) (fun _ _ _ h => hQ.panic _ _ _ _ _ h) (.inr ⟨by kernel_rfl, rfl⟩) ?_
      refine r_take 18 (.bool true) (RB.pre _ _) rfl (by kernel_rfl) (fun _ _ _ h => hQ.panic _ _ _ _ _ h) (.inl ⟨rfl, fun wq hq => (by kernel_rfl)⟩) ?_
      refine r_take 19 (.bool true) (RB.pre _ _) rfl (by kernel_rfl) (fun _ _ _ h => hQ.panic _ _ _ _ _ h) (.inl ⟨rfl, fun wq hq => (by kernel_rfl)⟩) ?_
      refine r_take 20 undef (RB.pre _ _) rfl (by kernel_rfl) (fun _ _ _ h => hQ.panic _ _ _ _ _ h) (.inr ⟨by kernel_rfl, rfl⟩) ?_
      refine r_take 21 undef (RB.pre _ _) rfl (by kernel_rfl) (fun _ _ _ h => hQ.panic _ _ _ _ _ h) (.inr ⟨by kernel_rfl, rfl⟩) ?_
      refine r_take 22 undef (RB.pre _ _) rfl (by kernel_rfl) (fun _ _ _ h => hQ.panic _ _ _ _ _ h) (.inr ⟨by kernel_rfl, rfl⟩) ?_
      refine r_take 23 undef (RB.pre _ _) rfl (by kernel_rfl) (fun _ _ _ h => hQ.panic _ _ _ _ _ h) (.inr ⟨by kernel_rfl, rfl⟩) ?_
      refine r_take 24 undef (RB.pre _ _) rfl (by kernel_rfl) (fun _ _ _ h => hQ.panic _ _ _ _ _ h) (.inr ⟨by kernel_rfl, rfl⟩) ?_
      refine r_take 25 undef (RB.pre _ _) rfl (by kernel_rfl) (fun _ _ _ h => hQ.panic _ _ _ _ _ h) (.inr ⟨by kernel_rfl, rfl⟩) ?_
      refine r_take 26 undef (RB.pre _ _) rfl (by kernel_rfl) (fun _ _ _ h => hQ.panic _ _ _ _ _ h) (.inr ⟨by kernel_rfl, rfl⟩) ?_
      refine r_take 27 undef (RB.pre _ _) rfl (by kernel_rfl) (fun _ _ _ h => hQ.panic _ _ _ _ _ h) (.inr ⟨by kernel_rfl, rfl⟩) ?_
      refine r_take 28 undef (RB.pre _ _) rfl (by kernel_rfl) (fun _ _ _ h => hQ.panic _ _ _ _ _ h) (.inr ⟨by kernel_rfl, rfl⟩) ?_
      refine r_take 29 undef (RB.pre _ _) rfl (by kernel_rfl) (fun _ _ _ h => hQ.panic _ _ _ _ _ h) (.inr ⟨by kernel_rfl, rfl⟩) ?_
      refine r_take 30 undef (RB.pre _ _) rfl (by kernel_rfl) (fun _ _ _ h => hQ.panic _ _ _ _ _ h) (.inr ⟨by kernel_rfl, rfl⟩) ?_
      refine r_take 31 undef (RB.pre _ _) rfl (by kernel_rfl) (fun _ _ _ h => hQ.panic _ _ _ _ _ h) (.inr ⟨by kernel_rfl, rfl⟩) ?_
      refine r_take 32 undef (RB.pre _ _) rfl (by kernel_rfl) (fun _ _ _ h => hQ.panic _ _ _ _ _ h) (.inr ⟨by kernel_rfl, rfl⟩) ?_
      refine r_take 33 undef (RB.pre _ _) rfl (by kernel_rfl) (fun _ _ _ h => hQ.panic _ _ _ _ _ h) (.inr ⟨by kernel_rfl, rfl⟩) ?_
      refine r_take 34 undef (RB.pre _ _) rfl (by kernel_rfl) (fun _ _ _ h => hQ.panic _ _ _ _ _ h) (.inr ⟨by kernel_rfl, rfl⟩) ?_
      refine r_take 35 undef (RB.pre _ _) rfl (by kernel_rfl) (fun _ _ _ h => hQ.panic _ _ _ _ _ h) (.inr ⟨by kernel_rfl, rfl⟩) ?_
      refine r_take 36 (.bool true) (RB.pre _ _) rfl (by kernel_rfl) (fun _ _ _ h => hQ.panic _ _ _ _ _ h) (.inl ⟨rfl, fun wq hq => (by kernel_rfl)⟩) ?_
      refine r_ready [37] (by kernel_rfl) rfl (all_cons ⟨_, _, _, _, _, _, rfl, ?_⟩ all_nil)
      refine o_pv (.bool true) rfl (by kernel_rfl) ?_
      refine ⟨fun h => absurd h (by decide), ?_⟩
      refine r_done (by kernel_rfl) ?_
      refine then_normal (hJ116 _ _ _ ⟨[(6, (.bool true))], fit_mk (fun _ _ => rfl) (by kernel_rfl) (vs_cons (by kernel_rfl) vs_nil), ?_⟩)
      exact ⟨X46, true, rfl, E144, hXo143, hS145, hN146, mokept148, mofiles149, Oo150, hokeep151, k147, hp⟩
    ·
      replace hp := hp.2 h154
      refine r_take 4 (.bool false) (RB.pre _ _) rfl (by kernel_rfl) (fun _ _ _ h => hQ.panic _ _ _ _ _ h) (.inl ⟨rfl, fun wq hq => (x_df (p := f_.quota ≤ (0 : Int)) (by kernel_rfl) h154)⟩) ?_
      refine r_take 5 (.bool false) (RB.pre _ _) rfl (by kernel_rfl) (fun _ _ _ h => hQ.panic _ _ _ _ _ h) (.inl ⟨rfl, fun wq hq => (by kernel_rfl)⟩) ?_
      refine r_take 6 (.int .i64 n_) (RB.pre _ _) rfl (by kernel_rfl) (fun _ _ _ h => hQ.panic _ _ _ _ _ h) (.inl ⟨(by kernel_rfl), fun wq hq => (by kernel_rfl)⟩) ?_
      by_cases h155 : n_ = (0 : Int)
      ·
        replace hp := hp.1 h155
        refine r_take 7 (.bool true) (RB.pre _ _) rfl (by kernel_rfl) (fun _ _ _ h => hQ.panic _ _ _ _ _ h) (.inl ⟨(by kernel_rfl), fun wq hq => (x_dt (p := n_ = (0 : Int)) (by kernel_rfl) h155)⟩) ?_
        refine r_take 8 (.bool true) (RB.pre _ _) rfl (by kernel_rfl) (fun _ _ _ h => hQ.panic _ _ _ _ _ h) (.inl ⟨rfl, fun wq hq => (by kernel_rfl)⟩) ?_
        refine r_take 9 (.bool true) (RB.pre _ _) rfl (by kernel_rfl) (fun _ _ _ h => hQ.panic _ _ _ _ _ h) (.inl ⟨rfl, fun wq hq => (by kernel_rfl)⟩) ?_
        refine r_take 10 undef (RB.pre _ _) rfl (by kernel_rfl) (fun _ _ _ h => hQ.panic _ _ _ _ _ h) (.inr ⟨by kernel_rfl, rfl⟩) ?_
        refine r_take 11 undef (RB.pre _ _) rfl (by kernel_rfl) (fun _ _ _ h => hQ.panic _ _ _ _ _ h) (.inr ⟨by kernel_rfl, rfl⟩) ?_
        refine r_take 12 undef (RB.pre _ _) rfl (by kernel_rfl) (fun _ _ _ h => hQ.panic _ _ _ _ _ h) (.inr ⟨by kernel_rfl, rfl⟩) ?_
        refine r_take 13 undef (RB.pre _ _) rfl (by kernel_rfl) (fun _ _ _ h => hQ.panic _ _ _ _ _ h) (.inr ⟨by kernel_rfl, rfl⟩) ?_
        refine r_take 14 undef (RB.pre _ _) rfl (by kernel_rfl) (fun _ _ _ h => hQ.panic _ _ _ _ _ h) (.inr ⟨by kernel_rfl, rfl⟩) ?_
        refine r_take 15 undef (RB.pre _ _) rfl (by kernel_rfl) (fun _ _ _ h => hQ.panic _ _ _ _ _ h) (.inr ⟨by kernel_rfl, rfl⟩) ?_
        refine r_take 16 undef (RB.pre _ _) rfl (by kernel_rfl) (fun _ _ _ h => hQ.panic _ _ _ _ _ h) (.inr ⟨by kernel_rfl, rfl⟩) ?_
        refine r_take 17 undef (RB.pre _ _) rfl (by kernel_rfl) (fun _ _ _ h => hQ.panic _ _ _ _ _ h) (.inr ⟨by kernel_rfl, rfl⟩) ?_
        refine r_take 18 (.bool true) (RB.pre _ _) rfl (by kernel_rfl) (fun _ _ _ h => hQ.panic _ _ _ _ _ h) (.inl ⟨rfl, fun wq hq => (by kernel_rfl)⟩) ?_
        refine r_take 19 (.bool true) (RB.pre _ _) rfl (by kernel_rfl) (fun _ _ _ h => hQ.panic _ _ _ _ _ h) (.inl ⟨rfl, fun wq hq => (by kernel_rfl)⟩) ?_
        refine r_take 20 undef (RB.pre _ _) rfl (by kernel_rfl) (fun _ _ _ h => hQ.panic _ _ _ _ _ h) (.inr ⟨by kernel_rfl, rfl⟩) ?_
        refine r_take 21 undef (RB.pre _ _) rfl (by kernel_rfl) (fun _ _ _ h => hQ.panic _ _ _ _ _ h) (.inr ⟨by kernel_rfl, rfl⟩) ?_
        refine r_take 22 undef (RB.pre _ _) rfl (by kernel_rfl) (fun _ _ _ h => hQ.panic _ _ _ _ _ h) (.inr ⟨by kernel_rfl, rfl⟩) ?_
        refine r_take 23 undef (RB.pre _ _) rfl (by kernel_rfl) (fun _ _ _ h => hQ.panic _ _ _ _ _ h) (.inr ⟨by kernel_rfl, rfl⟩) ?_
        refine r_take 24 undef (RB.pre _ _) rfl (by kernel_rfl) (fun _ _ _ h => hQ.panic _ _ _ _ _ h) (.inr ⟨by kernel_rfl, rfl⟩) ?_
        refine r_take 25 undef (RB.pre _ _) rfl (by kernel_rfl) (fun _ _ _ h => hQ.panic _ _ _ _ _ h) (.inr ⟨by kernel_rfl, rfl⟩) ?_
        refine r_take 26 undef (RB.pre _ _) rfl (by kernel_rfl) (fun _ _ _ h => hQ.panic _ _ _ _ _ h) (.inr ⟨by kernel_rfl, rfl⟩) ?_
        refine r_take 27 undef (RB.pre _ _) rfl (by kernel_rfl) (fun _ _ _ h => hQ.panic _ _ _ _ _ h) (.inr ⟨by kernel_rfl, rfl⟩) ?_
        refine r_take 28 undef (RB.pre _ _) rfl (by kernel_rfl) (fun _ _ _ h => hQ.panic _ _ _ _ _ h) (.inr ⟨by kernel_rfl, rfl⟩) ?_
        refine r_take 29 undef (RB.pre _ _) rfl (by kernel_rfl) (fun _ _ _ h => hQ.panic _ _ _ _ _ h) (.inr ⟨by kernel_rfl, rfl⟩) ?_
        refine r_take 30 undef (RB.pre _ _) rfl (by kernel_rfl) (fun _ _ _ h => hQ.panic _ _ _ _ _ h) (.inr ⟨by kernel_rfl, rfl⟩) ?_
        refine r_take 31 undef (RB.pre _ _) rfl (by kernel_rfl) (fun _ _ _ h => hQ.panic _ _ _ _ _ h) (.inr ⟨by kernel_rfl, rfl⟩) ?_
        refine r_take 32 undef (RB.pre _ _) rfl (by kernel_rfl) (fun _ _ _ h => hQ.panic _ _ _ _ _ h) (.inr ⟨by kernel_rfl, rfl⟩) ?_
        refine r_take 33 undef (RB.pre _ _) rfl (by kernel_rfl) (fun _ _ _ h => hQ.panic _ _ _ _ _ h) (.inr ⟨by kernel_rfl, rfl⟩) ?_
        refine r_take 34 undef (RB.pre _ _) rfl (by kernel_rfl) (fun _ _ _ h => hQ.panic _ _ _ _ _ h) (.inr ⟨by kernel_rfl, rfl⟩) ?_
        refine r_take 35 undef (RB.pre _ _) rfl (by kernel_rfl) (fun _ _ _ h => hQ.panic _ _ _ _ _ h) (.inr ⟨by kernel_rfl, rfl⟩) ?_
        refine r_take 36 (.bool true) (RB.pre _ _) rfl (by kernel_rfl) (fun _ _ _ h => hQ.panic _ _ _ _ _ h) (.inl ⟨rfl, fun wq hq => (by kernel_rfl)⟩) ?_
        refine r_ready [37] (by kernel_rfl) rfl (all_cons ⟨_, _, _, _, _, _, rfl, ?_⟩ all_nil)
        refine o_pv (.bool true) rfl (by kernel_rfl) ?_
        refine ⟨fun h => absurd h (by decide), ?_⟩
        refine r_done (by kernel_rfl) ?_
        refine then_normal (hJ116 _ _ _ ⟨[(6, (.bool true))], fit_mk (fun _ _ => rfl) (by kernel_rfl) (vs_cons (by kernel_rfl) vs_nil), ?_⟩)
        exact ⟨X46, true, rfl, E144, hXo143, hS145, hN146, mokept148, mofiles149, Oo150, hokeep151, k147, hp⟩
      ·
        replace hp := hp.2 h155
        refine r_take 7 (.bool false) (RB.pre _ _) rfl (by kernel_rfl) (fun _ _ _ h => hQ.panic _ _ _ _ _ h) (.inl ⟨(by kernel_rfl), fun wq hq => (x_df (p := n_ = (0 : Int)) (by kernel_rfl) h155)⟩) ?_
        refine r_take 8 (.bool false) (RB.pre _ _) rfl (by kernel_rfl) (fun _ _ _ h => hQ.panic _ _ _ _ _ h) (.inl ⟨rfl, fun wq hq => (by kernel_rfl)⟩) ?_
        refine r_take 9 (.bool false) (RB.pre _ _) rfl (by kernel_rfl) (fun _ _ _ h => hQ.panic _ _ _ _ _ h) (.inl ⟨rfl, fun wq hq => (by kernel_rfl)⟩) ?_
        by_cases h156 : (mhas f_.files p) = true
        ·
          replace hp := hp.1 h156
          refine r_take 10 (.bool true) (RB.pre _ _) rfl (by kernel_rfl) (fun _ _ _ h => hQ.panic _ _ _ _ _ h) (.inl ⟨(by kernel_rfl), fun wq hq => (x_bt (by kernel_rfl) h156)⟩) ?_
          refine r_take 11 (.bool true) (RB.pre _ _) rfl (by kernel_rfl) (fun _ _ _ h => hQ.panic _ _ _ _ _ h) (.inl ⟨(by kernel_rfl), fun wq hq => (by kernel_rfl)⟩) ?_
          refine r_take 12 (.int .i64 n_) (RB.pre _ _) rfl (by kernel_rfl) (fun _ _ _ h => hQ.panic _ _ _ _ _ h) (.inl ⟨(by kernel_rfl), fun wq hq => (by kernel_rfl)⟩) ?_
          refine r_take 13 (.pointer (some ⟨b44, 3, none⟩)) (RB.pre _ _) rfl (by kernel_rfl) (fun _ _ _ h => hQ.panic _ _ _ _ _ h) (.inl ⟨(by kernel_rfl), fun wq hq => (by kernel_rfl)⟩) ?_
          refine r_take 14 (.slice alb41 (((mgetD f_.files p).b).length) clb42) (RB.pre _ _) rfl (by kernel_rfl) (fun _ _ _ h => hQ.panic _ _ _ _ _ h) (.inl ⟨(by kernel_rfl), fun wq hq => (x_load1 (by kernel_rfl) Tryd.isAgg28 ((Blk.rb k153.2.1 (RB.trans er141 hq) (Nat.lt_of_lt_of_eq (Blk.lt k153.2.1) z140) (fun h => by cases h)).cell' 3 rfl))⟩) ?_
          refine r_take 15 (.int .i64 (((mgetD f_.files p).b).length : Int)) (RB.pre _ _) rfl (by kernel_rfl) (fun _ _ _ h => hQ.panic _ _ _ _ _ h) (.inl ⟨(by kernel_rfl), fun wq hq => (by kernel_rfl)⟩) ?_
          by_cases h157 : n_ ≤ (((mgetD f_.files p).b).length : Int)
          ·
            replace hp := hp.1 h157
            refine r_take 16 (.bool true) (RB.pre _ _) rfl (by kernel_rfl) (fun _ _ _ h => hQ.panic _ _ _ _ _ h) (.inl ⟨(by kernel_rfl), fun wq hq => (x_dt (p := n_ ≤ (((mgetD f_.files p).b).length : Int)) (by kernel_rfl) h157)⟩) ?_
            refine r_take 17 (.bool true) (RB.pre _ _) rfl (by kernel_rfl) (fun _ _ _ h => hQ.panic _ _ _ _ _ h) (.inl ⟨(by kernel_rfl), fun wq hq => (by kernel_rfl)⟩) ?_
            refine r_take 18 (.bool true) (RB.pre _ _) rfl (by kernel_rfl) (fun _ _ _ h => hQ.panic _ _ _ _ _ h) (.inl ⟨rfl, fun wq hq => (by kernel_rfl)⟩) ?_
            refine r_take 19 (.bool true) (RB.pre _ _) rfl (by kernel_rfl) (fun _ _ _ h => hQ.panic _ _ _ _ _ h) (.inl ⟨rfl, fun wq hq => (by kernel_rfl)⟩) ?_
            refine r_take 20 undef (RB.pre _ _) rfl (by kernel_rfl) (fun _ _ _ h => hQ.panic _ _ _ _ _ h) (.inr ⟨by kernel_rfl, rfl⟩) ?_
            refine r_take 21 undef (RB.pre _ _) rfl (by kernel_rfl) (fun _ _ _ h => hQ.panic _ _ _ _ _ h) (.inr ⟨by kernel_rfl, rfl⟩) ?_
            refine r_take 22 undef (RB.pre _ _) rfl (by kernel_rfl) (fun _ _ _ h => hQ.panic _ _ _ _ _ h) (.inr ⟨by kernel_rfl, rfl⟩) ?_
            refine r_take 23 undef (RB.pre _ _) rfl (by kernel_rfl) (fun _ _ _ h => hQ.panic _ _ _ _ _ h) (.inr ⟨by kernel_rfl, rfl⟩) ?_
            refine r_take 24 undef (RB.pre _ _) rfl (by kernel_rfl) (fun _ _ _ h => hQ.panic _ _ _ _ _ h) (.inr ⟨by kernel_rfl, rfl⟩) ?_
            refine r_take 25 undef (RB.pre _ _) rfl (by kernel_rfl) (fun _ _ _ h => hQ.panic _ _ _ _ _ h) (.inr ⟨by kernel_rfl, rfl⟩) ?_
            refine r_take 26 undef (RB.pre _ _) rfl (by kernel_rfl) (fun _ _ _ h => hQ.panic _ _ _ _ _ h) (.inr ⟨by kernel_rfl, rfl⟩) ?_
            refine r_take 27 undef (RB.pre _ _) rfl (by kernel_rfl) (fun _ _ _ h => hQ.panic _ _ _ _ _ h) (.inr ⟨by kernel_rfl, rfl⟩) ?_
            refine r_take 28 undef (RB.pre _ _) rfl (by kernel_rfl) (fun _ _ _ h => hQ.panic _ _ _ _ _ h) (.inr ⟨by kernel_rfl, rfl⟩) ?_
            refine r_take 29 undef (RB.pre _ _) rfl (by kernel_rfl) (fun _ _ _ h => hQ.panic _ _ _ _ _ h) (.inr ⟨by kernel_rfl, rfl⟩) ?_
            refine r_take 30 undef (RB.pre _ _) rfl (by kernel_rfl) (fun _ _ _ h => hQ.panic _ _ _ _ _ h) (.inr ⟨by kernel_rfl, rfl⟩) ?_
            refine r_take 31 undef (RB.pre _ _) rfl (by kernel_rfl) (fun _ _ _ h => hQ.panic _ _ _ _ _ h) (.inr ⟨by kernel_rfl, rfl⟩) ?_
            refine r_take 32 undef (RB.pre _ _) rfl (by kernel_rfl) (fun _ _ _ h => hQ.panic _ _ _ _ _ h) (.inr ⟨by kernel_rfl, rfl⟩) ?_
            refine r_take 33 undef (RB.pre _ _) rfl (by kernel_rfl) (fun _ _ _ h => hQ.panic _ _ _ _ _ h) (.inr ⟨by kernel_rfl, rfl⟩) ?_
            refine r_take 34 undef (RB.pre _ _) rfl (by kernel_rfl) (fun _ _ _ h => hQ.panic _ _ _ _ _ h) (.inr ⟨by kernel_rfl, rfl⟩) ?_
            refine r_take 35 undef (RB.pre _ _) rfl (by kernel_rfl) (fun _ _ _ h => hQ.panic _ _ _ _ _ h) (.inr ⟨by kernel_rfl, rfl⟩) ?_
            refine r_take 36 (.bool true) (RB.pre _ _) rfl (by kernel_rfl) (fun _ _ _ h => hQ.panic _ _ _ _ _ h) (.inl ⟨rfl, fun wq hq => (by kernel_rfl)⟩) ?_
            refine r_ready [37] (by kernel_rfl) rfl (all_cons ⟨_, _, _, _, _, _, rfl, ?_⟩ all_nil)
            refine o_pv (.bool true) rfl (by kernel_rfl) ?_
            refine ⟨fun h => absurd h (by decide), ?_⟩
            refine r_done (by kernel_rfl) ?_
            refine then_normal (hJ116 _ _ _ ⟨[(6, (.bool true))], fit_mk (fun _ _ => rfl) (by kernel_rfl) (vs_cons (by kernel_rfl) vs_nil), ?_⟩)
            exact ⟨X46, true, rfl, E144, hXo143, hS145, hN146, mokept148, mofiles149, Oo150, hokeep151, k147, hp⟩
          ·
            replace hp := hp.2 h157
            refine r_take 16 (.bool false) (RB.pre _ _) rfl (by kernel_rfl) (fun _ _ _ h => hQ.panic _ _ _ _ _ h) (.inl ⟨(by kernel_rfl), fun wq hq => (x_df (p := n_ ≤ (((mgetD f_.files p).b).length : Int)) (by kernel_rfl) h157)⟩) ?_
            refine r_take 17 (.bool false) (RB.pre _ _) rfl (by kernel_rfl) (fun _ _ _ h => hQ.panic _ _ _ _ _ h) (.inl ⟨(by kernel_rfl), fun wq hq => (by kernel_rfl)⟩) ?_
            refine r_take 18 (.bool false) (RB.pre _ _) rfl (by kernel_rfl) (fun _ _ _ h => hQ.panic _ _ _ _ _ h) (.inl ⟨rfl, fun wq hq => (by kernel_rfl)⟩) ?_
            refine r_take 19 (.bool false) (RB.pre _ _) rfl (by kernel_rfl) (fun _ _ _ h => hQ.panic _ _ _ _ _ h) (.inl ⟨rfl, fun wq hq => (by kernel_rfl)⟩) ?_
            refine r_take 20 (.pointer (some ⟨bf_1, 0, none⟩)) (RB.pre _ _) rfl (by kernel_rfl) (fun _ _ _ h => hQ.panic _ _ _ _ _ h) (.inl ⟨(by kernel_rfl), fun wq hq => (by kernel_rfl)⟩) ?_
            refine r_take 21 (.pointer (some ⟨bf_1, 0, none⟩)) (RB.pre _ _) rfl (by kernel_rfl) (fun _ _ _ h => hQ.panic _ _ _ _ _ h) (.inl ⟨(by kernel_rfl), fun wq hq => (by kernel_rfl)⟩) ?_
            refine r_take 22 (.pointer (some ⟨bf_1, 1, none⟩)) (RB.pre _ _) rfl (by kernel_rfl) (fun _ _ _ h => hQ.panic _ _ _ _ _ h) (.inl ⟨(by kernel_rfl), fun wq hq => (by kernel_rfl)⟩) ?_
            refine r_take 23 (.map (some rofiles10)) (RB.pre _ _) rfl (by kernel_rfl) (fun _ _ _ h => hQ.panic _ _ _ _ _ h) (.inl ⟨(by kernel_rfl), fun wq hq => (x_load1 (by kernel_rfl) Tryd.isAgg47 ((Blk.rb k147.2.1 (RB.trans er141 hq) (Nat.lt_of_lt_of_eq (Blk.lt k147.2.1) z140) (fun h => by cases h)).cell' 1 rfl))⟩) ?_
            refine r_take 25 (.pointer (some ⟨b44, 3, none⟩)) (RB.pre _ _) rfl (by kernel_rfl) (fun _ _ _ h => hQ.panic _ _ _ _ _ h) (.inl ⟨(by kernel_rfl), fun wq hq => (by kernel_rfl)⟩) ?_
            refine r_take 26 (.slice alb41 (((mgetD f_.files p).b).length) clb42) (RB.pre _ _) rfl (by kernel_rfl) (fun _ _ _ h => hQ.panic _ _ _ _ _ h) (.inl ⟨(by kernel_rfl), fun wq hq => (x_load1 (by kernel_rfl) Tryd.isAgg28 ((Blk.rb k153.2.1 (RB.trans er141 hq) (Nat.lt_of_lt_of_eq (Blk.lt k153.2.1) z140) (fun h => by cases h)).cell' 3 rfl))⟩) ?_
            refine r_take 27 (.int .i64 (((mgetD f_.files p).b).length : Int)) (RB.pre _ _) rfl (by kernel_rfl) (fun _ _ _ h => hQ.panic _ _ _ _ _ h) (.inl ⟨(by kernel_rfl), fun wq hq => (by kernel_rfl)⟩) ?_
            refine r_take 29 (.int .i64 n_) (RB.pre _ _) rfl (by kernel_rfl) (fun _ _ _ h => hQ.panic _ _ _ _ _ h) (.inl ⟨(by kernel_rfl), fun wq hq => (by kernel_rfl)⟩) ?_
            refine r_take 31 (.pointer (some ⟨bf_1, 0, none⟩)) (RB.pre _ _) rfl (by kernel_rfl) (fun _ _ _ h => hQ.panic _ _ _ _ _ h) (.inl ⟨(by kernel_rfl), fun wq hq => (by kernel_rfl)⟩) ?_
            refine r_take 32 (.pointer (some ⟨bf_1, 0, none⟩)) (RB.pre _ _) rfl (by kernel_rfl) (fun _ _ _ h => hQ.panic _ _ _ _ _ h) (.inl ⟨(by kernel_rfl), fun wq hq => (by kernel_rfl)⟩) ?_
            refine r_take 33 (.pointer (some ⟨bf_1, 3, none⟩)) (RB.pre _ _) rfl (by kernel_rfl) (fun _ _ _ h => hQ.panic _ _ _ _ _ h) (.inl ⟨(by kernel_rfl), fun wq hq => (by kernel_rfl)⟩) ?_
            refine r_take 34 (.int .i64 f_.quota) (RB.pre _ _) rfl (by kernel_rfl) (fun _ _ _ h => hQ.panic _ _ _ _ _ h) (.inl ⟨(by kernel_rfl), fun wq hq => (x_load1 (by kernel_rfl) Tryd.isAgg3 ((Blk.rb k147.2.1 (RB.trans er141 hq) (Nat.lt_of_lt_of_eq (Blk.lt k147.2.1) z140) (fun h => by cases h)).cell' 3 rfl))⟩) ?_
            refine r_ready [24] (by kernel_rfl) rfl (all_cons ⟨_, _, _, _, _, _, rfl, ?_⟩ all_nil)
            refine o_call 39 #[(.map (some rofiles10))] (by kernel_rfl) (x_call Tryd.call39 (by kernel_rfl)) (simfs_sum_w (X := []) (l := f_.files) (Old.nil _) (OM.rm mofiles149) hp) ?_
            rintro _ w159 ⟨r158, hp, e160, rfl, rr162⟩
            have rm := RB.mono (F' := []) e160 (Nat.le_trans (Nat.le_of_eq z140.symm) (RB.size er141)) (fun _ h => by cases h)
            have er163 := RB.trans er141 rm
            refine ⟨fun _ => rm, ?_⟩
            have s161 := Step.of0 X46 e160
            replace hp := hp rr162
            obtain ⟨h164, hp⟩ := hp
            refine r_take 28 (.int .i64 (r158 - (((mgetD f_.files p).b).length : Int))) (RB.pre _ _) rfl (by kernel_rfl) (fun _ _ _ h => hQ.panic _ _ _ _ _ h) (.inl ⟨(by kernel_rfl), fun wq hq => (x_sub2 (k := .i64) (a := r158) (b := (((mgetD f_.files p).b).length : Int)) (r158 - (((mgetD f_.files p).b).length : Int)) (by kernel_rfl) (by kernel_rfl) (wrap_inR h164))⟩) ?_
            obtain ⟨h165, hp⟩ := hp
            refine r_take 30 (.int .i64 ((r158 - (((mgetD f_.files p).b).length : Int)) + n_)) (RB.pre _ _) rfl (by kernel_rfl) (fun _ _ _ h => hQ.panic _ _ _ _ _ h) (.inl ⟨(by kernel_rfl), fun wq hq => (x_add2 (k := .i64) (a := r158 - (((mgetD f_.files p).b).length : Int)) (b := n_) ((r158 - (((mgetD f_.files p).b).length : Int)) + n_) (by kernel_rfl) (by kernel_rfl) (wrap_inR h165))⟩) ?_
            refine r_take 35 (.bool (decide (((r158 - (((mgetD f_.files p).b).length : Int)) + n_) ≤ f_.quota))) (RB.pre _ _) rfl (by kernel_rfl) (fun _ _ _ h => hQ.panic _ _ _ _ _ h) (.inl ⟨(by kernel_rfl), fun wq hq => (by kernel_rfl)⟩) ?_
            refine r_take 36 (.bool (decide (((r158 - (((mgetD f_.files p).b).length : Int)) + n_) ≤ f_.quota))) (RB.pre _ _) rfl (by kernel_rfl) (fun _ _ _ h => hQ.panic _ _ _ _ _ h) (.inl ⟨rfl, fun wq hq => (by kernel_rfl)⟩) ?_
            refine r_ready [37] (by kernel_rfl) rfl (all_cons ⟨_, _, _, _, _, _, rfl, ?_⟩ all_nil)
            refine o_pv (.bool (decide (((r158 - (((mgetD f_.files p).b).length : Int)) + n_) ≤ f_.quota))) rfl (by kernel_rfl) ?_
            refine ⟨fun h => absurd h (by decide), ?_⟩
            refine r_done (by kernel_rfl) ?_
            have E166 := (Evo.then0 E144 e160)
            have hXo167 := (Old.step hXo143 s161)
            have hS168 := (Sub.trans hS145 (Step.up s161))
            have hN169 := (News.step hN146 s161)
            have mokept170 := (OM.step0 mokept148 s161)
            have mofiles171 := (OM.step0 mofiles149 s161)
            have Oo172 := (OS.step0 Oo150 s161)
            have hokeep173 := (Sl.step hokeep151 s161)
            have k174 := (OB.step0 k147 s161)
            refine then_normal (hJ116 _ _ _ ⟨[(6, (.bool (decide (((r158 - (((mgetD f_.files p).b).length : Int)) + n_) ≤ f_.quota))))], fit_mk (fun _ _ => rfl) (by kernel_rfl) (vs_cons (by kernel_rfl) vs_nil), ?_⟩)
            exact ⟨X46, (decide (((r158 - (((mgetD f_.files p).b).length : Int)) + n_) ≤ f_.quota)), rfl, E166, hXo167, hS168, hN169, mokept170, mofiles171, Oo172, hokeep173, k174, hp⟩
        ·
          replace hp := hp.2 h156
          refine r_take 10 (.bool false) (RB.pre _ _) rfl (by kernel_rfl) (fun _ _ _ h => hQ.panic _ _ _ _ _ h) (.inl ⟨(by kernel_rfl), fun wq hq => (x_bf (by kernel_rfl) h156)⟩) ?_
          refine r_take 11 (.bool false) (RB.pre _ _) rfl (by kernel_rfl) (fun _ _ _ h => hQ.panic _ _ _ _ _ h) (.inl ⟨(by kernel_rfl), fun wq hq => (by kernel_rfl)⟩) ?_
          refine r_take 12 undef (RB.pre _ _) rfl (by kernel_rfl) (fun _ _ _ h => hQ.panic _ _ _ _ _ h) (.inr ⟨by kernel_rfl, rfl⟩) ?_
          refine r_take 13 undef (RB.pre _ _) rfl (by kernel_rfl) (fun _ _ _ h => hQ.panic _ _ _ _ _ h) (.inr ⟨by kernel_rfl, rfl⟩) ?_
          refine r_take 14 undef (RB.pre _ _) rfl (by kernel_rfl) (fun _ _ _ h => hQ.panic _ _ _ _ _ h) (.inr ⟨by kernel_rfl, rfl⟩) ?_
          refine r_take 15 undef (RB.pre _ _) rfl (by kernel_rfl) (fun _ _ _ h => hQ.panic _ _ _ _ _ h) (.inr ⟨by kernel_rfl, rfl⟩) ?_
          refine r_take 16 undef (RB.pre _ _) rfl (by kernel_rfl) (fun _ _ _ h => hQ.panic _ _ _ _ _ h) (.inr ⟨by kernel_rfl, rfl⟩) ?_
          refine r_take 17 (.bool false) (RB.pre _ _) rfl (by kernel_rfl) (fun _ _ _ h => hQ.panic _ _ _ _ _ h) (.inl ⟨(by kernel_rfl), fun wq hq => (by kernel_rfl)⟩) ?_
          refine r_take 18 (.bool false) (RB.pre _ _) rfl (by kernel_rfl) (fun _ _ _ h => hQ.panic _ _ _ _ _ h) (.inl ⟨rfl, fun wq hq => (by kernel_rfl)⟩) ?_
          refine r_take 19 (.bool false) (RB.pre _ _) rfl (by kernel_rfl) (fun _ _ _ h => hQ.panic _ _ _ _ _ h) (.inl ⟨rfl, fun wq hq => (by kernel_rfl)⟩) ?_
          refine r_take 20 (.pointer (some ⟨bf_1, 0, none⟩)) (RB.pre _ _) rfl (by kernel_rfl) (fun _ _ _ h => hQ.panic _ _ _ _ _ h) (.inl ⟨(by kernel_rfl), fun wq hq => (by kernel_rfl)⟩) ?_
          refine r_take 21 (.pointer (some ⟨bf_1, 0, none⟩)) (RB.pre _ _) rfl (by kernel_rfl) (fun _ _ _ h => hQ.panic _ _ _ _ _ h) (.inl ⟨(by kernel_rfl), fun wq hq => (by kernel_rfl)⟩) ?_
          refine r_take 22 (.pointer (some ⟨bf_1, 1, none⟩)) (RB.pre _ _) rfl (by kernel_rfl) (fun _ _ _ h => hQ.panic _ _ _ _ _ h) (.inl ⟨(by kernel_rfl), fun wq hq => (by kernel_rfl)⟩) ?_
          refine r_take 23 (.map (some rofiles10)) (RB.pre _ _) rfl (by kernel_rfl) (fun _ _ _ h => hQ.panic _ _ _ _ _ h) (.inl ⟨(by kernel_rfl), fun wq hq => (x_load1 (by kernel_rfl) Tryd.isAgg47 ((Blk.rb k147.2.1 (RB.trans er141 hq) (Nat.lt_of_lt_of_eq (Blk.lt k147.2.1) z140) (fun h => by cases h)).cell' 1 rfl))⟩) ?_
          refine r_take 25 (.pointer (some ⟨b44, 3, none⟩)) (RB.pre _ _) rfl (by kernel_rfl) (fun _ _ _ h => hQ.panic _ _ _ _ _ h) (.inl ⟨(by kernel_rfl), fun wq hq => (by kernel_rfl)⟩) ?_
          refine r_take 26 (.slice alb41 (((mgetD f_.files p).b).length) clb42) (RB.pre _ _) rfl (by kernel_rfl) (fun _ _ _ h => hQ.panic _ _ _ _ _ h) (.inl ⟨(by kernel_rfl), fun wq hq => (x_load1 (by kernel_rfl) Tryd.isAgg28 ((Blk.rb k153.2.1 (RB.trans er141 hq) (Nat.lt_of_lt_of_eq (Blk.lt k153.2.1) z140) (fun h => by cases h)).cell' 3 rfl))⟩) ?_
          refine r_take 27 (.int .i64 (((mgetD f_.files p).b).length : Int)) (RB.pre _ _) rfl (by kernel_rfl) (fun _ _ _ h => hQ.panic _ _ _ _ _ h) (.inl ⟨(by kernel_rfl), fun wq hq => (by kernel_rfl)⟩) ?_
          refine r_take 29 (.int .i64 n_) (RB.pre _ _) rfl (by kernel_rfl) (fun _ _ _ h => hQ.panic _ _ _ _ _ h) (.inl ⟨(by kernel_rfl), fun wq hq => (by kernel_rfl)⟩) ?_
          refine r_take 31 (.pointer (some ⟨bf_1, 0, none⟩)) (RB.pre _ _) rfl (by kernel_rfl) (fun _ _ _ h => hQ.panic _ _ _ _ _ h) (.inl ⟨(by kernel_rfl), fun wq hq => (by kernel_rfl)⟩) ?_
          refine r_take 32 (.pointer (some ⟨bf_1, 0, none⟩)) (RB.pre _ _) rfl (by kernel_rfl) (fun _ _ _ h => hQ.panic _ _ _ _ _ h) (.inl ⟨(by kernel_rfl), fun wq hq => (by kernel_rfl)⟩) ?_
          refine r_take 33 (.pointer (some ⟨bf_1, 3, none⟩)) (RB.pre _ _) rfl (by kernel_rfl) (fun _ _ _ h => hQ.panic _ _ _ _ _ h) (.inl ⟨(by kernel_rfl), fun wq hq => (by kernel_rfl)⟩) ?_
          refine r_take 34 (.int .i64 f_.quota) (RB.pre _ _) rfl (by kernel_rfl) (fun _ _ _ h => hQ.panic _ _ _ _ _ h) (.inl ⟨(by kernel_rfl), fun wq hq => (x_load1 (by kernel_rfl) Tryd.isAgg3 ((Blk.rb k147.2.1 (RB.trans er141 hq) (Nat.lt_of_lt_of_eq (Blk.lt k147.2.1) z140) (fun h => by cases h)).cell' 3 rfl))⟩) ?_
          refine r_ready [24] (by kernel_rfl) rfl (all_cons ⟨_, _, _, _, _, _, rfl, ?_⟩ all_nil)
          refine o_call 39 #[(.map (some rofiles10))] (by kernel_rfl) (x_call Tryd.call39 (by kernel_rfl)) (simfs_sum_w (X := []) (l := f_.files) (Old.nil _) (OM.rm mofiles149) hp) ?_
          rintro _ w176 ⟨r175, hp, e177, rfl, rr179⟩
          have rm := RB.mono (F' := []) e177 (Nat.le_trans (Nat.le_of_eq z140.symm) (RB.size er141)) (fun _ h => by cases h)
          have er180 := RB.trans er141 rm
          refine ⟨fun _ => rm, ?_⟩
          have s178 := Step.of0 X46 e177
          replace hp := hp rr179
          obtain ⟨h181, hp⟩ := hp
          refine r_take 28 (.int .i64 (r175 - (((mgetD f_.files p).b).length : Int))) (RB.pre _ _) rfl (by kernel_rfl) (fun _ _ _ h => hQ.panic _ _ _ _ _ h) (.inl ⟨(by kernel_rfl), fun wq hq => (x_sub2 (k := .i64) (a := r175) (b := (((mgetD f_.files p).b).length : Int)) (r175 - (((mgetD f_.files p).b).length : Int)) (by kernel_rfl) (by kernel_rfl) (wrap_inR h181))⟩) ?_
          obtain ⟨h182, hp⟩ := hp
          refine r_take 30 (.int .i64 ((r175 - (((mgetD f_.files p).b).length : Int)) + n_)) (RB.pre _ _) rfl (by kernel_rfl) (fun _ _ _ h => hQ.panic _ _ _ _ _ h) (.inl ⟨(by kernel_rfl), fun wq hq => (x_add2 (k := .i64) (a := r175 - (((mgetD f_.files p).b).length : Int)) (b := n_) ((r175 - (((mgetD f_.files p).b).length : Int)) + n_) (by kernel_rfl) (by kernel_rfl) (wrap_inR h182))⟩) ?_
          refine r_take 35 (.bool (decide (((r175 - (((mgetD f_.files p).b).length : Int)) + n_) ≤ f_.quota))) (RB.pre _ _) rfl (by kernel_rfl) (fun _ _ _ h => hQ.panic _ _ _ _ _ h) (.inl ⟨(by kernel_rfl), fun wq hq => (by kernel_rfl)⟩) ?_
          refine r_take 36 (.bool (decide (((r175 - (((mgetD f_.files p).b).length : Int)) + n_) ≤ f_.quota))) (RB.pre _ _) rfl (by kernel_rfl) (fun _ _ _ h => hQ.panic _ _ _ _ _ h) (.inl ⟨rfl, fun wq hq => (by kernel_rfl)⟩) ?_
          refine r_ready [37] (by kernel_rfl) rfl (all_cons ⟨_, _, _, _, _, _, rfl, ?_⟩ all_nil)
          refine o_pv (.bool (decide (((r175 - (((mgetD f_.files p).b).length : Int)) + n_) ≤ f_.quota))) rfl (by kernel_rfl) ?_
          refine ⟨fun h => absurd h (by decide), ?_⟩
          refine r_done (by kernel_rfl) ?_
          have E183 := (Evo.then0 E144 e177)
          have hXo184 := (Old.step hXo143 s178)
          have hS185 := (Sub.trans hS145 (Step.up s178))
          have hN186 := (News.step hN146 s178)
          have mokept187 := (OM.step0 mokept148 s178)
          have mofiles188 := (OM.step0 mofiles149 s178)
          have Oo189 := (OS.step0 Oo150 s178)
          have hokeep190 := (Sl.step hokeep151 s178)
          have k191 := (OB.step0 k147 s178)
          refine then_normal (hJ116 _ _ _ ⟨[(6, (.bool (decide (((r175 - (((mgetD f_.files p).b).length : Int)) + n_) ≤ f_.quota))))], fit_mk (fun _ _ => rfl) (by kernel_rfl) (vs_cons (by kernel_rfl) vs_nil), ?_⟩)
          exact ⟨X46, (decide (((r175 - (((mgetD f_.files p).b).length : Int)) + n_) ≤ f_.quota)), rfl, E183, hXo184, hS185, hN186, mokept187, mofiles188, Oo189, hokeep190, k191, hp⟩
  ·
    rintro _ w113 g192 ⟨X114, s110, rfl, E128, hXo129, hS130, hN131, mokept132, mofiles133, Oo134, hokeep135, k136, hv117⟩
    replace hp := hk112 s110 hv117
    refine then_normal (K62 _ _ _ _ ?_)
    refine wp_ret ?_
    obtain ⟨F193, m194, hs195⟩ := MO.pack (o_simfs_FS_mk k136 mokept132 mofiles133 Oo134 roquota16 ronow17 roinodes18 roops_19 roleft20 hokeep135 rfl p29 p30 p31 p32 p33 p34)
    refine end_ret hQ (.bool s110) (by kernel_rfl) ?_
    exact ⟨f_, s110, hp, X114, F193, step_of E128 hF0 hS130 hN131, rfl, m194⟩

end Go.Proofs.YtaolmfepdmgohaaDoor
