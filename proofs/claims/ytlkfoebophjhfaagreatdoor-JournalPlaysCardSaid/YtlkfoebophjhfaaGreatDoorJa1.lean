/- Walks of functions: what each asks and computes, as a plain predicate, and the contract from it. -/
import Derived.Test.YtlkfoebophjhfaaGreatDoorChecked
import Derived.Test.YtlkfoebophjhfaaGreatDoorPk
import Derived.Test.YtlkfoebophjhfaaGreatDoorStEq
import Derived.Test.YtlkfoebophjhfaaGreatDoorLib
import Derived.Test.YtlkfoebophjhfaaGreatDoorLibS
import Derived.Test.YtlkfoebophjhfaaGreatDoorShelf
import Derived.Test.YtlkfoebophjhfaaGreatDoorKeys
import Derived.Test.YtlkfoebophjhfaaGreatDoorDelF
namespace Go.Proofs.YtlkfoebophjhfaaGreatDoor
open Go
structure S_simfs_file where
 mode : Int
 time : Int
 inode : Int
 b : (List Int)
instance : Inhabited S_simfs_file := ⟨⟨default, default, default, default⟩⟩
def r_simfs_file : Rep S_simfs_file := rMap (fun d => (d.mode, (d.time, (d.inode, d.b)))) (rPair (rInt .i64) (rPair (rInt .i64) (rPair (rInt .i64) (rSl (rInt .u8)))))
theorem r_simfs_file_open {X : List Nat} {w : World} {cs : List Value} {d : S_simfs_file} (h : r_simfs_file.ok X w cs d) : ∃ (z0 : Option Addr) (z1 : Nat), cs = [.int .i64 d.mode, .int .i64 d.time, .int .i64 d.inode, .slice z0 d.b.length z1] ∧ inR .i64 d.mode ∧ inR .i64 d.time ∧ inR .i64 d.inode ∧ Sl (rInt .u8) X w z0 z1 d.b := by
 obtain ⟨z6, z7, rfl, ⟨rfl, z2⟩, ⟨z9, z8, rfl, ⟨rfl, z3⟩, ⟨y0, y1, rfl, ⟨rfl, z4⟩, ⟨z0, z1, rfl, z5⟩⟩⟩⟩ := h
 exact ⟨z0, z1, rfl, z2, z3, z4, z5⟩
theorem r_simfs_file_mk {X : List Nat} {w : World} {modeq : Int} {timeq : Int} {inodeq : Int} {bq : (List Int)} {z0 : Option Addr} {z1 : Nat} {z2 : Nat} (z3 : inR .i64 modeq) (z4 : inR .i64 timeq) (z5 : inR .i64 inodeq) (z6 : Sl (rInt .u8) X w z0 z1 bq) (h6n : z2 = bq.length) : r_simfs_file.ok X w [.int .i64 modeq, .int .i64 timeq, .int .i64 inodeq, .slice z0 z2 z1] ⟨modeq, timeq, inodeq, bq⟩ :=
 (rMap_mk _ (rPair_mk (rInt_mk z3) (rPair_mk (rInt_mk z4) (rPair_mk (rInt_mk z5) (rSl_mk' z6 h6n)))))
structure S_simfs_op where
 kind : Int
 path : ByteArray
 to_ : ByteArray
 file : S_simfs_file
instance : Inhabited S_simfs_op := ⟨⟨default, default, default, default⟩⟩
def r_simfs_op : Rep S_simfs_op := rMap (fun d => (d.kind, (d.path, (d.to_, d.file)))) (rPair (rInt .i64) (rPair rStr (rPair rStr r_simfs_file)))
theorem r_simfs_op_open {X : List Nat} {w : World} {cs : List Value} {d : S_simfs_op} (h : r_simfs_op.ok X w cs d) : ∃ (z0 : Option Addr) (z1 : Nat), cs = [.int .i64 d.kind, .string d.path, .string d.to_, .int .i64 d.file.mode, .int .i64 d.file.time, .int .i64 d.file.inode, .slice z0 d.file.b.length z1] ∧ inR .i64 d.kind ∧ d.path.size ≤ maxLen ∧ d.to_.size ≤ maxLen ∧ inR .i64 d.file.mode ∧ inR .i64 d.file.time ∧ inR .i64 d.file.inode ∧ Sl (rInt .u8) X w z0 z1 d.file.b := by
 obtain ⟨z9, y0, rfl, ⟨rfl, z2⟩, ⟨y1, y2, rfl, ⟨rfl, z3⟩, ⟨y3, y4, rfl, ⟨rfl, z4⟩, ⟨y5, y6, rfl, ⟨rfl, z5⟩, ⟨y7, y8, rfl, ⟨rfl, z6⟩, ⟨y9, v0, rfl, ⟨rfl, z7⟩, ⟨z0, z1, rfl, z8⟩⟩⟩⟩⟩⟩⟩ := h
 exact ⟨z0, z1, rfl, z2, z3, z4, z5, z6, z7, z8⟩
theorem r_simfs_op_mk {X : List Nat} {w : World} {kindq : Int} {pathq : ByteArray} {to_q : ByteArray} {fileq : S_simfs_file} {z1 : Option Addr} {z2 : Nat} {z0 : Nat} (z3 : inR .i64 kindq) (z4 : pathq.size ≤ maxLen) (z5 : to_q.size ≤ maxLen) (z6 : inR .i64 fileq.mode) (z7 : inR .i64 fileq.time) (z8 : inR .i64 fileq.inode) (z9 : Sl (rInt .u8) X w z1 z2 fileq.b) (h9n : z0 = fileq.b.length) : r_simfs_op.ok X w [.int .i64 kindq, .string pathq, .string to_q, .int .i64 fileq.mode, .int .i64 fileq.time, .int .i64 fileq.inode, .slice z1 z0 z2] ⟨kindq, pathq, to_q, fileq⟩ :=
 (rMap_mk _ (rPair_mk (rInt_mk z3) (rPair_mk (rStr_mk z4) (rPair_mk (rStr_mk z5) (rMap_mk _ (rPair_mk (rInt_mk z6) (rPair_mk (rInt_mk z7) (rPair_mk (rInt_mk z8) (rSl_mk' z9 h9n)))))))))
structure S_simfs_FS where
 kept : (List (ByteArray × S_simfs_file))
 files : (List (ByteArray × S_simfs_file))
 pending : (List S_simfs_op)
 quota : Int
 now : Int
 inodes : Int
 ops_ : Int
 off : Bool
 armed : Bool
 left : Int
 keep : (List Bool)
instance : Inhabited S_simfs_FS := ⟨⟨default, default, default, default, default, default, default, default, default, default, default⟩⟩
def o_simfs_FS : Obj S_simfs_FS := oMap (fun d => (d.kept, (d.files, (d.pending, (d.quota, (d.now, (d.inodes, (d.ops_, (d.off, (d.armed, (d.left, d.keep))))))))))) (oPair (oMp r_simfs_file true) (oPair (oMp r_simfs_file true) (oPair (oOwn r_simfs_op 76) (oPair (oRd (rInt .i64)) (oPair (oRd (rInt .i64)) (oPair (oRd (rInt .i64)) (oPair (oRd (rInt .i64)) (oPair (oRd rBool) (oPair (oRd rBool) (oPair (oRd (rInt .i64)) (oRd (rSl rBool))))))))))))
theorem o_simfs_FS_open {X F G : List Nat} {w : World} {B b : Nat} {d : S_simfs_FS} (h : MO o_simfs_FS 62 G B X w F b d) : ∃ (z0 : Nat) (z1 : Nat) (z2 : Option Addr) (z7 : Nat) (z5 : Nat) (z3 : Option Addr) (z4 : Nat), OB G B X w b [.map (some z0), .map (some z1), .slice z2 z7 z5, .int .i64 d.quota, .int .i64 d.now, .int .i64 d.inodes, .int .i64 d.ops_, .bool d.off, .bool d.armed, .int .i64 d.left, .slice z3 d.keep.length z4] 62 ∧ OM r_simfs_file true G B X w z0 d.kept ∧ OM r_simfs_file true G B X w z1 d.files ∧ OS r_simfs_op G B X w 76 z2 z7 z5 d.pending ∧ inR .i64 d.quota ∧ inR .i64 d.now ∧ inR .i64 d.inodes ∧ inR .i64 d.ops_ ∧ inR .i64 d.left ∧ Sl rBool X w z3 z4 d.keep ∧ Sub [b] F ∧ Sub ([z0]) F ∧ Sub ([z1]) F ∧ Sub (blkL z2) F ∧ Ap [b] ([z0]) ∧ Ap [b] ([z1]) ∧ Ap [b] (blkL z2) ∧ Ap ([z0]) ([z1]) ∧ Ap ([z0]) (blkL z2) ∧ Ap ([z1]) (blkL z2) := by
 obtain ⟨⟨cs, v6, rfl, hb, hn, hk, hO⟩, hw⟩ := h
 obtain ⟨_, _, _, _, rfl, rfl, z6, ⟨z0, rfl, rfl, z8⟩, ⟨_, _, _, _, rfl, rfl, z9, ⟨z1, rfl, rfl, y0⟩, ⟨_, _, _, _, rfl, rfl, y8, ⟨z2, z5, rfl, rfl, y6⟩, ⟨_, _, _, _, rfl, rfl, y9, ⟨rfl, ⟨rfl, y7⟩⟩, ⟨_, _, _, _, rfl, rfl, v0, ⟨rfl, ⟨rfl, y1⟩⟩, ⟨_, _, _, _, rfl, rfl, v1, ⟨rfl, ⟨rfl, y2⟩⟩, ⟨_, _, _, _, rfl, rfl, v2, ⟨rfl, ⟨rfl, y3⟩⟩, ⟨_, _, _, _, rfl, rfl, v3, ⟨rfl, rfl⟩, ⟨_, _, _, _, rfl, rfl, v4, ⟨rfl, rfl⟩, ⟨_, _, _, _, rfl, rfl, v5, ⟨rfl, ⟨rfl, y4⟩⟩, ⟨rfl, ⟨z3, z4, rfl, y5⟩⟩⟩⟩⟩⟩⟩⟩⟩⟩⟩⟩ := hO
 exact ⟨z0, z1, z2, _, z5, z3, z4, ⟨hb, hk, hw.sub (Sub.hd _ _)⟩, ⟨z8.1, z8.2, hw.sub (Sub.trans (Sub.inl _ _) (Sub.tl _ _))⟩, ⟨y0.1, y0.2, hw.sub (Sub.trans (Sub.trans (Sub.inl _ _) (Sub.inr _ _)) (Sub.tl _ _))⟩, ⟨rfl, y6, hw.sub (Sub.trans (Sub.trans (Sub.trans (Sub.inl _ _) (Sub.inr _ _)) (Sub.inr _ _)) (Sub.tl _ _))⟩, y7, y1, y2, y3, y4, y5, Sub.hd _ _, (Sub.trans (Sub.inl _ _) (Sub.tl _ _)), (Sub.trans (Sub.trans (Sub.inl _ _) (Sub.inr _ _)) (Sub.tl _ _)), (Sub.trans (Sub.trans (Sub.trans (Sub.inl _ _) (Sub.inr _ _)) (Sub.inr _ _)) (Sub.tl _ _)), (of_notin hn).subr (Sub.inl _ _), (of_notin hn).subr (Sub.trans (Sub.inl _ _) (Sub.inr _ _)), (of_notin hn).subr (Sub.trans (Sub.trans (Sub.inl _ _) (Sub.inr _ _)) (Sub.inr _ _)), z6.subr (Sub.inl _ _), z6.subr (Sub.trans (Sub.inl _ _) (Sub.inr _ _)), z9.subr (Sub.inl _ _)⟩
theorem o_simfs_FS_mk {X G : List Nat} {w : World} {B b : Nat} {keptq : (List (ByteArray × S_simfs_file))} {filesq : (List (ByteArray × S_simfs_file))} {pendingq : (List S_simfs_op)} {quotaq : Int} {nowq : Int} {inodesq : Int} {ops_q : Int} {offq : Bool} {armedq : Bool} {leftq : Int} {keepq : (List Bool)} {z0 : Nat} {z1 : Nat} {z2 : Option Addr} {z6 : Nat} {z7 : Nat} {z3 : Option Addr} {z4 : Nat} {z5 : Nat} (hb : OB G B X w b [.map (some z0), .map (some z1), .slice z2 z6 z7, .int .i64 quotaq, .int .i64 nowq, .int .i64 inodesq, .int .i64 ops_q, .bool offq, .bool armedq, .int .i64 leftq, .slice z3 z5 z4] 62) (z8 : OM r_simfs_file true G B X w z0 keptq) (z9 : OM r_simfs_file true G B X w z1 filesq) (y0 : OS r_simfs_op G B X w 76 z2 z6 z7 pendingq) (y9 : inR .i64 quotaq) (y1 : inR .i64 nowq) (y2 : inR .i64 inodesq) (y3 : inR .i64 ops_q) (y4 : inR .i64 leftq) (y5 : Sl rBool X w z3 z4 keepq) (h16n : z5 = keepq.length) (y6 : Ap [b] ([z0])) (y7 : Ap [b] ([z1])) (y8 : Ap [b] (blkL z2)) (p0_1 : Ap ([z0]) ([z1])) (p0_2 : Ap ([z0]) (blkL z2)) (p1_2 : Ap ([z1]) (blkL z2)) : MO o_simfs_FS 62 G B X w (b :: ([z0] ++ ([z1] ++ (blkL z2 ++ ([] ++ ([] ++ ([] ++ ([] ++ ([] ++ ([] ++ ([] ++ ([])))))))))))) b ⟨keptq, filesq, pendingq, quotaq, nowq, inodesq, ops_q, offq, armedq, leftq, keepq⟩ :=
 MO.mk (O := o_simfs_FS) hb (Ap.app y6 (Ap.app y7 (Ap.app y8 (Ap.app (Ap.nil_r _) (Ap.app (Ap.nil_r _) (Ap.app (Ap.nil_r _) (Ap.app (Ap.nil_r _) (Ap.app (Ap.nil_r _) (Ap.app (Ap.nil_r _) (Ap.app (Ap.nil_r _) (Ap.nil_r _))))))))))) (show o_simfs_FS.ok _ X w _ _ from (oPair_mk (Ap.app p0_1 (Ap.app p0_2 (Ap.app (Ap.nil_r _) (Ap.app (Ap.nil_r _) (Ap.app (Ap.nil_r _) (Ap.app (Ap.nil_r _) (Ap.app (Ap.nil_r _) (Ap.app (Ap.nil_r _) (Ap.app (Ap.nil_r _) (Ap.nil_r _)))))))))) (oMp_mk z8) (oPair_mk (Ap.app p1_2 (Ap.app (Ap.nil_r _) (Ap.app (Ap.nil_r _) (Ap.app (Ap.nil_r _) (Ap.app (Ap.nil_r _) (Ap.app (Ap.nil_r _) (Ap.app (Ap.nil_r _) (Ap.app (Ap.nil_r _) (Ap.nil_r _))))))))) (oMp_mk z9) (oPair_mk (Ap.app (Ap.nil_r _) (Ap.app (Ap.nil_r _) (Ap.app (Ap.nil_r _) (Ap.app (Ap.nil_r _) (Ap.app (Ap.nil_r _) (Ap.app (Ap.nil_r _) (Ap.app (Ap.nil_r _) (Ap.nil_r _)))))))) (oOwn_mk y0) (oPair_mk (Ap.nil_l _) (oRd_mk (rInt_mk y9)) (oPair_mk (Ap.nil_l _) (oRd_mk (rInt_mk y1)) (oPair_mk (Ap.nil_l _) (oRd_mk (rInt_mk y2)) (oPair_mk (Ap.nil_l _) (oRd_mk (rInt_mk y3)) (oPair_mk (Ap.nil_l _) (oRd_mk rBool_mk) (oPair_mk (Ap.nil_l _) (oRd_mk rBool_mk) (oPair_mk (Ap.nil_l _) (oRd_mk (rInt_mk y4)) (oRd_mk (rSl_mk' y5 h16n))))))))))))) (Wr.app z8.wr (Wr.app z9.wr (Wr.app y0.wr (Wr.app (Wr.nil _ _) (Wr.app (Wr.nil _ _) (Wr.app (Wr.nil _ _) (Wr.app (Wr.nil _ _) (Wr.app (Wr.nil _ _) (Wr.app (Wr.nil _ _) (Wr.app (Wr.nil _ _) (Wr.nil _ _)))))))))))
structure S_journal_Change where
 Path : ByteArray
 Gone : Bool
 Mode : Int
 Data : (List Int)
instance : Inhabited S_journal_Change := ⟨⟨default, default, default, default⟩⟩
def r_journal_Change : Rep S_journal_Change := rMap (fun d => (d.Path, (d.Gone, (d.Mode, d.Data)))) (rPair rStr (rPair rBool (rPair (rInt .i64) (rSl (rInt .u8)))))
theorem r_journal_Change_open {X : List Nat} {w : World} {cs : List Value} {d : S_journal_Change} (h : r_journal_Change.ok X w cs d) : ∃ (z0 : Option Addr) (z1 : Nat), cs = [.string d.Path, .bool d.Gone, .int .i64 d.Mode, .slice z0 d.Data.length z1] ∧ d.Path.size ≤ maxLen ∧ inR .i64 d.Mode ∧ Sl (rInt .u8) X w z0 z1 d.Data := by
 obtain ⟨z5, z6, rfl, ⟨rfl, z2⟩, ⟨z7, z8, rfl, rfl, ⟨z9, y0, rfl, ⟨rfl, z3⟩, ⟨z0, z1, rfl, z4⟩⟩⟩⟩ := h
 exact ⟨z0, z1, rfl, z2, z3, z4⟩
theorem r_journal_Change_mk {X : List Nat} {w : World} {Pathq : ByteArray} {Goneq : Bool} {Modeq : Int} {Dataq : (List Int)} {z0 : Option Addr} {z1 : Nat} {z2 : Nat} (z3 : Pathq.size ≤ maxLen) (z4 : inR .i64 Modeq) (z5 : Sl (rInt .u8) X w z0 z1 Dataq) (h5n : z2 = Dataq.length) : r_journal_Change.ok X w [.string Pathq, .bool Goneq, .int .i64 Modeq, .slice z0 z2 z1] ⟨Pathq, Goneq, Modeq, Dataq⟩ :=
 (rMap_mk _ (rPair_mk (rStr_mk z3) (rPair_mk rBool_mk (rPair_mk (rInt_mk z4) (rSl_mk' z5 h5n)))))
structure S_codec_Dec where
 b : (List Int)
 at_ : Int
 err : PErr
instance : Inhabited S_codec_Dec := ⟨⟨default, default, default⟩⟩
def o_codec_Dec : Obj S_codec_Dec := oMap (fun d => (d.b, (d.at_, d.err))) (oPair (oRd (rSl (rInt .u8))) (oPair (oRd (rInt .i64)) (oRd (rOne (rErr 35 138 140)))))
theorem o_codec_Dec_open {X F G : List Nat} {w : World} {B b : Nat} {d : S_codec_Dec} (h : MO o_codec_Dec 128 G B X w F b d) : ∃ (z0 : Option Addr) (z1 : Nat) (z2 : Value), OB G B X w b [.slice z0 d.b.length z1, .int .i64 d.at_, z2] 128 ∧ Sl (rInt .u8) X w z0 z1 d.b ∧ inR .i64 d.at_ ∧ (rErr 35 138 140).ok X w [z2] d.err ∧ Sub [b] F := by
 obtain ⟨⟨cs, z8, rfl, hb, hn, hk, hO⟩, hw⟩ := h
 obtain ⟨_, _, _, _, rfl, rfl, z6, ⟨rfl, ⟨z0, z1, rfl, z3⟩⟩, ⟨_, _, _, _, rfl, rfl, z7, ⟨rfl, ⟨rfl, z4⟩⟩, ⟨rfl, ⟨z2, rfl, z5⟩⟩⟩⟩ := hO
 exact ⟨z0, z1, z2, ⟨hb, hk, hw.sub (Sub.hd _ _)⟩, z3, z4, z5, Sub.hd _ _⟩
theorem o_codec_Dec_mk {X G : List Nat} {w : World} {B b : Nat} {bq : (List Int)} {at_q : Int} {errq : PErr} {z0 : Option Addr} {z1 : Nat} {z2 : Nat} {z3 : Value} (hb : OB G B X w b [.slice z0 z2 z1, .int .i64 at_q, z3] 128) (z4 : Sl (rInt .u8) X w z0 z1 bq) (h3n : z2 = bq.length) (z5 : inR .i64 at_q) (z6 : (rErr 35 138 140).ok X w [z3] errq)  : MO o_codec_Dec 128 G B X w (b :: ([] ++ ([] ++ ([])))) b ⟨bq, at_q, errq⟩ :=
 MO.mk (O := o_codec_Dec) hb (Ap.app (Ap.nil_r _) (Ap.app (Ap.nil_r _) (Ap.nil_r _))) (show o_codec_Dec.ok _ X w _ _ from (oPair_mk (Ap.nil_l _) (oRd_mk (rSl_mk' z4 h3n)) (oPair_mk (Ap.nil_l _) (oRd_mk (rInt_mk z5)) (oRd_mk (rOne_mk z6))))) (Wr.app (Wr.nil _ _) (Wr.app (Wr.nil _ _) (Wr.nil _ _)))
structure S_codec_Enc where
 b : (List Int)
instance : Inhabited S_codec_Enc := ⟨⟨default⟩⟩
def o_codec_Enc : Obj S_codec_Enc := oMap (fun d => d.b) (oOwn (rInt .u8) 5)
theorem o_codec_Enc_open {X F G : List Nat} {w : World} {B b : Nat} {d : S_codec_Enc} (h : MO o_codec_Enc 94 G B X w F b d) : ∃ (z0 : Option Addr) (z2 : Nat) (z1 : Nat), OB G B X w b [.slice z0 z2 z1] 94 ∧ OS (rInt .u8) G B X w 5 z0 z2 z1 d.b ∧ Sub [b] F ∧ Sub (blkL z0) F ∧ Ap [b] (blkL z0) := by
 obtain ⟨⟨cs, z4, rfl, hb, hn, hk, hO⟩, hw⟩ := h
 obtain ⟨z0, z1, rfl, rfl, z3⟩ := hO
 exact ⟨z0, _, z1, ⟨hb, hk, hw.sub (Sub.hd _ _)⟩, ⟨rfl, z3, hw.sub (Sub.trans (Sub.refl _) (Sub.tl _ _))⟩, Sub.hd _ _, (Sub.trans (Sub.refl _) (Sub.tl _ _)), (of_notin hn).subr (Sub.refl _)⟩
theorem o_codec_Enc_mk {X G : List Nat} {w : World} {B b : Nat} {bq : (List Int)} {z0 : Option Addr} {z1 : Nat} {z2 : Nat} (hb : OB G B X w b [.slice z0 z1 z2] 94) (z3 : OS (rInt .u8) G B X w 5 z0 z1 z2 bq) (z4 : Ap [b] (blkL z0)) : MO o_codec_Enc 94 G B X w (b :: (blkL z0)) b ⟨bq⟩ :=
 MO.mk (O := o_codec_Enc) hb z4 (show o_codec_Enc.ok _ X w _ _ from (oOwn_mk z3)) z3.wr
structure S_rectolaw6_file where
 path : ByteArray
 mode : Int
 data : ByteArray
instance : Inhabited S_rectolaw6_file := ⟨⟨default, default, default⟩⟩
def r_rectolaw6_file : Rep S_rectolaw6_file := rMap (fun d => (d.path, (d.mode, d.data))) (rPair rStr (rPair (rInt .i64) rStr))
theorem r_rectolaw6_file_open {X : List Nat} {w : World} {cs : List Value} {d : S_rectolaw6_file} (h : r_rectolaw6_file.ok X w cs d) : cs = [.string d.path, .int .i64 d.mode, .string d.data] ∧ d.path.size ≤ maxLen ∧ inR .i64 d.mode ∧ d.data.size ≤ maxLen := by
 obtain ⟨z3, z4, rfl, ⟨rfl, z0⟩, ⟨z5, z6, rfl, ⟨rfl, z1⟩, ⟨rfl, z2⟩⟩⟩ := h
 exact ⟨rfl, z0, z1, z2⟩
theorem r_rectolaw6_file_mk {X : List Nat} {w : World} {pathq : ByteArray} {modeq : Int} {dataq : ByteArray} (z0 : pathq.size ≤ maxLen) (z1 : inR .i64 modeq) (z2 : dataq.size ≤ maxLen) : r_rectolaw6_file.ok X w [.string pathq, .int .i64 modeq, .string dataq] ⟨pathq, modeq, dataq⟩ :=
 (rMap_mk _ (rPair_mk (rStr_mk z0) (rPair_mk (rInt_mk z1) (rStr_mk z2))))
structure S_simfs_Stat where
 Size : Int
 Time : Int
 Inode : Int
 Mode : Int
instance : Inhabited S_simfs_Stat := ⟨⟨default, default, default, default⟩⟩
def simfs_New_p (quota : Int) (Q : S_simfs_FS → Prop) : Prop :=
 ((inR .i64 quota) → Q (S_simfs_FS.mk ([] : (List (ByteArray × S_simfs_file))) ([] : (List (ByteArray × S_simfs_file))) ([] : List S_simfs_op) quota (0 : Int) (0 : Int) (0 : Int) false false (0 : Int) ([] : List Bool)))
set_option maxRecDepth 20000 in
set_option maxHeartbeats 4000000 in
theorem simfs_New_w {X : List Nat} {w : World} {quota : Int} {Q : S_simfs_FS → Prop} (y5 : Old X w) (z0 : inR .i64 quota) (hp : simfs_New_p quota Q) :
  Calls Tryz.prog 11 #[(.int .i64 quota)] w (Ret fun v w' => ∃ (y6 : S_simfs_FS), Q y6 ∧ ∃ (X' : List Nat) (z3 : Nat) (y1 : List Nat), Step X w ([]) X' w' ∧ v = (.pointer (some ⟨z3, 0, none⟩)) ∧ MO o_simfs_FS 62 ([]) w.heap.size X' w' y1 z3 y6) := by
 have hXo := y5
 have E0 : Evo [] w w := RB.refl _ _ _
 have hS : Sub X X := Sub.refl _
 have hN : News X w X w := News.refl _ _
 have y7 : Sub [] X := Sub.nil _
 unfold simfs_New_p at hp
 refine enter_ Tryz.func11 rfl 8 [(0, (.int .i64 quota))] (by kernel_rfl) (fun Qe hQ => ?_)
 replace hp := hp z0
 refine sr (fun _ u3 => pv (.pointer none) ?_)
 refine nt u3 (sr (fun _ u4 => ?_))
 refine sq (o_mkmap (R := r_simfs_file) (ag := true) (X := X) (B := w.heap.size) E0.size rfl ?_)
 intro y8 t0 u5 y2 y9 t1
 have z5 := Evo.then0 E0 (Step.evo y2)
 refine sq (o_mkmap (R := r_simfs_file) (ag := true) (X := u5) (B := w.heap.size) z5.size rfl ?_)
 intro z6 u7 v0 z2 z7 v1
 have v2 := v1 _ (OM.old y9)
 refine pv (.int .i64 quota) ?_
 refine pv (.agg #[(.map (some y8)), (.map (some z6)), (.slice none 0 0), (.int .i64 quota), (.int .i64 (0 : Int)), (.int .i64 (0 : Int)), (.int .i64 (0 : Int)), (.bool false), (.bool false), (.int .i64 (0 : Int)), (.slice none 0 0)]) ?_
 have z8 := OM.step0 y9 z2
 have z9 := Evo.then0 z5 (Step.evo z2)
 refine sq (o_newX [(.map (some y8)), (.map (some z6)), (.slice none 0 0), (.int .i64 quota), (.int .i64 (0 : Int)), (.int .i64 (0 : Int)), (.int .i64 (0 : Int)), (.bool false), (.bool false), (.int .i64 (0 : Int)), (.slice none 0 0)] 62 (X := v0) (B := w.heap.size) z9.size rfl (by kernel_rfl) ?_)
 intro z4 u9 v3 z1 v4 y0
 have v5 := y0 _ (OM.old z8)
 have v6 := y0 _ (OM.old z7)
 refine pv (.pointer (some ⟨z4, 0, none⟩)) ?_
 refine nt u4 (wp_ret ?_)
 have v7 := Evo.then0 z9 (Step.evo z1)
 have y3 := Sub.trans (Sub.trans (Sub.trans hS (Step.up y2)) (Step.up z2)) (Step.up z1)
 have y4 := News.step (News.step (News.step hN y2) z2) z1
 have v8 := OM.step0 z8 z1
 have v9 := OM.step0 z7 z1
 obtain ⟨u1, u2, u6⟩ := MO.pack (o_simfs_FS_mk v4 v8 v9 (OS.nil2 _ _ _ _ _) z0 (by decide : inR .i64 (0 : Int)) (by decide : inR .i64 (0 : Int)) (by decide : inR .i64 (0 : Int)) (by decide : inR .i64 (0 : Int)) (Sl.nil) rfl (Ap.symm v5) (Ap.symm v6) (Ap.nil_r _) v2 (Ap.nil_r _) (Ap.nil_r _))
 refine end_ret hQ (.pointer (some ⟨z4, 0, none⟩)) (by kernel_rfl) ?_
 exact ⟨(S_simfs_FS.mk ([] : (List (ByteArray × S_simfs_file))) ([] : (List (ByteArray × S_simfs_file))) ([] : List S_simfs_op) quota (0 : Int) (0 : Int) (0 : Int) false false (0 : Int) ([] : List Bool)), hp, v3, z4, u1, step_of v7 y7 y3 y4, rfl, u2⟩
/-- strings.genSplit: all parts, at a separator of one byte. -/
def strings_genSplit_p (s sep : ByteArray) (sepSave n : Int) (Q : List ByteArray → Prop) : Prop := ∃ c : UInt8, sep = ByteArray.mk #[c] ∧ sepSave = 0 ∧ n = -1 ∧ s.size < 4294967281 ∧ Q (partsB s c)
theorem strings_genSplit_w {X : List Nat} {w : World} {s sep : ByteArray} {sepSave n_ : Int} {Q : List ByteArray → Prop} (z3 : Old X w) (_hs : s.size ≤ maxLen) (_ht : sep.size ≤ maxLen) (z4 : inR .i64 sepSave) (z5 : inR .i64 n_) (hp : strings_genSplit_p s sep sepSave n_ Q) :
  Calls Tryz.prog 95 #[(.string s), (.string sep), (.int .i64 sepSave), (.int .i64 n_)] w (Ret fun v w' => ∃ z2 : List ByteArray, Q z2 ∧ Evo [] w w' ∧ ∃ (z0 : Option Addr) (z1 : Nat), v = (.slice z0 z2.length z1) ∧ Sl rStr X w' z0 z1 z2) := by
 obtain ⟨c, rfl, rfl, rfl, hs, hq⟩ := hp
 have L := Tryz.lays146
 refine (genSplit_one (ρ := Tryz.lays146_ren) { L with } (by kernel_rfl) s c w hs).mono ?_
 rintro e w' ⟨rfl, rfl⟩
 obtain ⟨hE, hS⟩ := parts_sl (s := s) (c := c) (t := Tryz.lays146_ren.t 9) z3 hs
 exact ⟨_, rfl, _, hq, hE, _, _, rfl, hS⟩
def strings_Split_p (s : ByteArray) (sep : ByteArray) (Q : (List ByteArray) → Prop) : Prop :=
 ((s.size ≤ maxLen) → ((sep.size ≤ maxLen) → (strings_genSplit_p s sep (0 : Int) (-1 : Int) (fun (z0 : (List ByteArray)) => ((z0.length ≤ 9223372036854775807) → Q z0)))))
set_option maxRecDepth 20000 in
set_option maxHeartbeats 4000000 in
theorem strings_Split_w {X : List Nat} {w : World} {s : ByteArray} {sep : ByteArray} {Q : (List ByteArray) → Prop} (y0 : Old X w) (z6 : s.size ≤ maxLen) (z1 : sep.size ≤ maxLen) (hp : strings_Split_p s sep Q) :
  Calls Tryz.prog 86 #[(.string s), (.string sep)] w (Ret fun v w' => ∃ (z7 : (List ByteArray)), Q z7 ∧ Evo [] w w' ∧ ∃ (z2 : Option Addr) (z3 : Nat), v = (.slice z2 z7.length z3) ∧ Sl rStr X w' z2 z3 z7) := by
 have hXo := y0
 have E0 : Evo [] w w := RB.refl _ _ _
 have hS : Sub X X := Sub.refl _
 unfold strings_Split_p at hp
 refine enter_ Tryz.func86 rfl 8 [(0, (.string s)), (1, (.string sep))] (by kernel_rfl) (fun Qe hQ => ?_)
 replace hp := hp z6 z1
 refine sr (fun _ y3 => pv (.slice none 0 0) ?_)
 refine nt y3 (sr (fun _ y4 => pv (.string s) ?_))
 refine pv (.string sep) ?_
 refine sq (o_call 95 #[(.string s), (.string sep), (.int .i64 (0 : Int)), (.int .i64 (-1 : Int))] rfl (x_call Tryz.call95 (by kernel_rfl)) (strings_genSplit_w (X := X) (s := s) (sep := sep) (sepSave := (0 : Int)) (n_ := (-1 : Int)) hXo z6 z1 (by decide : inR .i64 (0 : Int)) (by decide : inR .i64 (-1 : Int)) hp) ?_)
 rintro _ y6 ⟨z8, hp, y1, z4, z0, rfl, z5⟩
 have y5 := Step.of0 X y1
 replace hp := hp (Sl.len z5)
 refine pv (.slice z4 z8.length z0) ?_
 refine nt y4 (wp_ret ?_)
 have z9 := Sub.trans hS (Step.up y5)
 have y2 := Evo.then0 E0 y1
 refine end_ret hQ (.slice z4 z8.length z0) (by kernel_rfl) ?_
 exact ⟨z8, hp, y2, z4, z0, rfl, (Sl.less z5 z9)⟩
def path_good_p (c : Int) (Q : Bool → Prop) : Prop :=
 ((inR .u8 c) → (∃ z0 : Prop, (z0 → Q true) ∧ (((c = (46 : Int)) → (z0)) ∧ ((¬ (c = (46 : Int))) → (((c = (45 : Int)) → (z0)) ∧ ((¬ (c = (45 : Int))) → (((c = (95 : Int)) → (z0)) ∧ ((¬ (c = (95 : Int))) → Q (decide (((c ≥ (97 : Int)) ∧ ((c ≤ (122 : Int)) ∨ ((c ≥ (48 : Int)) ∧ (c ≤ (57 : Int))))) ∨ ((¬ (c ≥ (97 : Int))) ∧ ((c ≥ (48 : Int)) ∧ (c ≤ (57 : Int))))))))))))))
set_option maxRecDepth 20000 in
set_option maxHeartbeats 4000000 in
theorem path_good_w {X : List Nat} {w : World} {c : Int} {Q : Bool → Prop} (y4 : Old X w) (y5 : inR .u8 c) (hp : path_good_p c Q) :
  Calls Tryz.prog 96 #[(.int .u8 c)] w (Ret fun v w' => ∃ (y6 : Bool), Q y6 ∧ Evo [] w w' ∧ v = (.bool y6)) := by
 have hXo := y4
 have E0 : Evo [] w w := RB.refl _ _ _
 have hS : Sub X X := Sub.refl _
 unfold path_good_p at hp
 refine enter_ Tryz.func96 rfl 24 [(0, (.int .u8 c))] (by kernel_rfl) (fun Qe hQ => ?_)
 replace hp := hp y5
 refine sr (fun _ v8 => pv (.bool false) ?_)
 refine nt v8 (seq_ (fun _ v9 => sr (fun _ u1 => pv (.int .u8 c) ?_)))
 refine nt u1 (wp_block (seq_ (fun _ u2 => ?_)))
 obtain ⟨y7, y2, hp⟩ := hp
 refine ground_ ?_
 refine join_ 1008 (fun lq z6 => ∃ (z7 : List Nat), (lq = []) ∧ (Evo [] w z6) ∧ (Old z7 z6) ∧ (Sub X z7) ∧ (y7)) (fun u3 z3 => ?_) ?_
 ·
  refine wp_block (wp_block (wp_block (seq_ (fun _ y8 => seq_ (fun _ y9 => sr (fun _ v0 => pv (.bool (decide (c = (46 : Int)))) ?_))))))
  refine pv (.bool (decide (c = (46 : Int)))) ?_
  refine nt v0 ?_
  refine cond_d (c = (46 : Int)) (by kernel_rfl) (fun z8 => ?_) (fun z8 => ?_)
  ·
   replace hp := hp.1 z8
   refine wp_exit ?_
   refine then_exit (then_exit (blk_exit (blk_normal (blk_normal (then_normal (z3 _ _ _ ⟨[], fit_mk (fun _ _ => rfl) (by kernel_rfl) vs_nil, ?_⟩))))))
   exact ⟨X, rfl, E0, hXo, hS, hp⟩
  ·
   replace hp := hp.2 z8
   refine wp_skip (then_normal (y9 _ _ _ _ (seq_ (fun _ v1 => sr (fun _ v2 => pv (.bool (decide (c = (45 : Int)))) ?_)))))
   refine pv (.bool (decide (c = (45 : Int)))) ?_
   refine nt v2 ?_
   refine cond_d (c = (45 : Int)) (by kernel_rfl) (fun z9 => ?_) (fun z9 => ?_)
   ·
    replace hp := hp.1 z9
    refine wp_exit ?_
    refine then_exit (then_exit ?_)
    refine blk_exit_ne rfl ?_
    refine blk_exit (blk_normal (then_normal (z3 _ _ _ ⟨[], fit_mk (fun _ _ => rfl) (by kernel_rfl) vs_nil, ?_⟩)))
    exact ⟨X, rfl, E0, hXo, hS, hp⟩
   ·
    replace hp := hp.2 z9
    refine wp_skip (then_normal (v1 _ _ _ _ (sr (fun _ v3 => pv (.bool (decide (c = (95 : Int)))) ?_))))
    refine pv (.bool (decide (c = (95 : Int)))) ?_
    refine nt v3 ?_
    refine cond_d (c = (95 : Int)) (by kernel_rfl) (fun y0 => ?_) (fun y0 => ?_)
    ·
     replace hp := hp.1 y0
     refine wp_exit ?_
     refine then_exit ?_
     refine blk_exit_ne rfl ?_
     refine blk_exit_ne rfl ?_
     refine blk_exit (then_normal (z3 _ _ _ ⟨[], fit_mk (fun _ _ => rfl) (by kernel_rfl) vs_nil, ?_⟩))
     exact ⟨X, rfl, E0, hXo, hS, hp⟩
    ·
     replace hp := hp.2 y0
     refine wp_skip (then_normal (y8 _ _ _ _ ?_))
     refine wp_exit ?_
     refine blk_exit_ne rfl ?_
     refine blk_exit_ne rfl ?_
     refine blk_exit_ne rfl ?_
     refine then_exit (then_exit (blk_exit (then_normal (v9 _ _ _ _ (seq_ (fun _ v4 => ?_))))))
     refine ground_ ?_
     refine join_ 16776196 (fun lq y1 => lq = [(2, (.bool (decide (((c ≥ (97 : Int)) ∧ ((c ≤ (122 : Int)) ∨ ((c ≥ (48 : Int)) ∧ (c ≤ (57 : Int))))) ∨ ((¬ (c ≥ (97 : Int))) ∧ ((c ≥ (48 : Int)) ∧ (c ≤ (57 : Int))))))))] ∧ w = y1) (fun u4 z0 => ?_) ?_
     ·
      refine reg_ (pv (.int .u8 c) ?_)
      by_cases z1 : c ≥ (97 : Int)
      ·
       refine pw (.bool true) (x_dt (p := c ≥ (97 : Int)) (by kernel_rfl) z1) ?_
       refine pv (.bool true) ?_
       refine pv (.int .u8 c) ?_
       by_cases z2 : c ≤ (122 : Int)
       ·
        refine pw (.bool true) (x_dt (p := c ≤ (122 : Int)) (by kernel_rfl) z2) ?_
        refine pv (.bool true) ?_
        refine pv (.bool true) ?_
        refine no ?_
        refine no ?_
        refine no ?_
        refine no ?_
        refine no ?_
        refine no ?_
        refine pv (.bool true) ?_
        refine pv (.bool true) ?_
        refine nil_ (then_normal (z0 _ _ _ ⟨[(2, (.bool (decide (((c ≥ (97 : Int)) ∧ ((c ≤ (122 : Int)) ∨ ((c ≥ (48 : Int)) ∧ (c ≤ (57 : Int))))) ∨ ((¬ (c ≥ (97 : Int))) ∧ ((c ≥ (48 : Int)) ∧ (c ≤ (57 : Int))))))))], fit_mk (fun _ _ => rfl) (by kernel_rfl) (vs_cons (Eq.trans (b := (.bool true)) (by kernel_rfl) (dec_t (by simp [z1, z2])).symm) vs_nil), rfl, rfl⟩))
       ·
        refine pw (.bool false) (x_df (p := c ≤ (122 : Int)) (by kernel_rfl) z2) ?_
        refine pv (.bool false) ?_
        refine pv (.bool false) ?_
        refine pv (.int .u8 c) ?_
        by_cases z4 : c ≥ (48 : Int)
        ·
         refine pw (.bool true) (x_dt (p := c ≥ (48 : Int)) (by kernel_rfl) z4) ?_
         refine pv (.bool true) ?_
         refine pv (.int .u8 c) ?_
         refine pv (.bool (decide (c ≤ (57 : Int)))) ?_
         refine pv (.bool (decide (c ≤ (57 : Int)))) ?_
         refine pv (.bool (decide (c ≤ (57 : Int)))) ?_
         refine pv (.bool (decide (c ≤ (57 : Int)))) ?_
         refine nil_ (then_normal (z0 _ _ _ ⟨[(2, (.bool (decide (((c ≥ (97 : Int)) ∧ ((c ≤ (122 : Int)) ∨ ((c ≥ (48 : Int)) ∧ (c ≤ (57 : Int))))) ∨ ((¬ (c ≥ (97 : Int))) ∧ ((c ≥ (48 : Int)) ∧ (c ≤ (57 : Int))))))))], fit_mk (fun _ _ => rfl) (by kernel_rfl) (vs_cons (Eq.trans (b := (.bool (decide (c ≤ (57 : Int))))) (by kernel_rfl) (dec_d (by simp [z1, z2, z4])).symm) vs_nil), rfl, rfl⟩))
        ·
         refine pw (.bool false) (x_df (p := c ≥ (48 : Int)) (by kernel_rfl) z4) ?_
         refine pv (.bool false) ?_
         refine no ?_
         refine no ?_
         refine pv (.bool false) ?_
         refine pv (.bool false) ?_
         refine pv (.bool false) ?_
         refine nil_ (then_normal (z0 _ _ _ ⟨[(2, (.bool (decide (((c ≥ (97 : Int)) ∧ ((c ≤ (122 : Int)) ∨ ((c ≥ (48 : Int)) ∧ (c ≤ (57 : Int))))) ∨ ((¬ (c ≥ (97 : Int))) ∧ ((c ≥ (48 : Int)) ∧ (c ≤ (57 : Int))))))))], fit_mk (fun _ _ => rfl) (by kernel_rfl) (vs_cons (Eq.trans (b := (.bool false)) (by kernel_rfl) (dec_f (by simp [z1, z2, z4])).symm) vs_nil), rfl, rfl⟩))
      ·
       refine pw (.bool false) (x_df (p := c ≥ (97 : Int)) (by kernel_rfl) z1) ?_
       refine pv (.bool false) ?_
       refine no ?_
       refine no ?_
       refine pv (.bool false) ?_
       refine pv (.bool false) ?_
       refine pv (.int .u8 c) ?_
       by_cases z5 : c ≥ (48 : Int)
       ·
        refine pw (.bool true) (x_dt (p := c ≥ (48 : Int)) (by kernel_rfl) z5) ?_
        refine pv (.bool true) ?_
        refine pv (.int .u8 c) ?_
        refine pv (.bool (decide (c ≤ (57 : Int)))) ?_
        refine pv (.bool (decide (c ≤ (57 : Int)))) ?_
        refine pv (.bool (decide (c ≤ (57 : Int)))) ?_
        refine pv (.bool (decide (c ≤ (57 : Int)))) ?_
        refine nil_ (then_normal (z0 _ _ _ ⟨[(2, (.bool (decide (((c ≥ (97 : Int)) ∧ ((c ≤ (122 : Int)) ∨ ((c ≥ (48 : Int)) ∧ (c ≤ (57 : Int))))) ∨ ((¬ (c ≥ (97 : Int))) ∧ ((c ≥ (48 : Int)) ∧ (c ≤ (57 : Int))))))))], fit_mk (fun _ _ => rfl) (by kernel_rfl) (vs_cons (Eq.trans (b := (.bool (decide (c ≤ (57 : Int))))) (by kernel_rfl) (dec_d (by simp [z1, z5])).symm) vs_nil), rfl, rfl⟩))
       ·
        refine pw (.bool false) (x_df (p := c ≥ (48 : Int)) (by kernel_rfl) z5) ?_
        refine pv (.bool false) ?_
        refine no ?_
        refine no ?_
        refine pv (.bool false) ?_
        refine pv (.bool false) ?_
        refine pv (.bool false) ?_
        refine nil_ (then_normal (z0 _ _ _ ⟨[(2, (.bool (decide (((c ≥ (97 : Int)) ∧ ((c ≤ (122 : Int)) ∨ ((c ≥ (48 : Int)) ∧ (c ≤ (57 : Int))))) ∨ ((¬ (c ≥ (97 : Int))) ∧ ((c ≥ (48 : Int)) ∧ (c ≤ (57 : Int))))))))], fit_mk (fun _ _ => rfl) (by kernel_rfl) (vs_cons (Eq.trans (b := (.bool false)) (by kernel_rfl) (dec_f (by simp [z1, z5])).symm) vs_nil), rfl, rfl⟩))
     ·
      rintro _ y1 u6 ⟨rfl, hw⟩
      subst hw
      refine then_normal (v4 _ _ _ _ (wp_ret ?_))
      refine end_ret hQ (.bool (decide (((c ≥ (97 : Int)) ∧ ((c ≤ (122 : Int)) ∨ ((c ≥ (48 : Int)) ∧ (c ≤ (57 : Int))))) ∨ ((¬ (c ≥ (97 : Int))) ∧ ((c ≥ (48 : Int)) ∧ (c ≤ (57 : Int))))))) (by kernel_rfl) ?_
      exact ⟨(decide (((c ≥ (97 : Int)) ∧ ((c ≤ (122 : Int)) ∨ ((c ≥ (48 : Int)) ∧ (c ≤ (57 : Int))))) ∨ ((¬ (c ≥ (97 : Int))) ∧ ((c ≥ (48 : Int)) ∧ (c ≤ (57 : Int)))))), hp, E0, rfl⟩
 ·
  rintro _ z6 u7 ⟨z7, rfl, v5, v7, u5, y3⟩
  replace hp := y2 y3
  refine then_normal (u2 _ _ _ _ (seq_ (fun _ u9 => sr (fun _ v6 => pv (.bool true) ?_))))
  refine nt v6 (wp_ret (then_ret (blk_ret (then_ret ?_))))
  refine end_ret hQ (.bool true) (by kernel_rfl) ?_
  exact ⟨true, hp, v5, rfl⟩
def path_part_p (s : ByteArray) (Q : Bool → Prop) : Prop :=
 ((s.size ≤ maxLen) → (((((s : ByteArray) = (ByteArray.mk #[])) ∨ (((s : ByteArray) = (ByteArray.mk #[46])) ∨ ((s : ByteArray) = (ByteArray.mk #[46, 46])))) → Q false) ∧ ((¬ (((s : ByteArray) = (ByteArray.mk #[])) ∨ (((s : ByteArray) = (ByteArray.mk #[46])) ∨ ((s : ByteArray) = (ByteArray.mk #[46, 46]))))) → (∃ (z1 : Int → Prop) (z2 : Int → Nat), (z1 (0 : Int)) ∧ (∀ (z0 : Int), (z1 z0) → (inR .i64 z0) → (((z0 < ((bytesL s).length : Int)) → ((inL (bytesL s) z0) ∧ ((inR .u8 (lget (bytesL s) z0)) → (path_good_p (lget (bytesL s) z0) (fun (z3 : Bool) => ((((!z3) = true) → Q false) ∧ (((!z3) = false) → ((inR .i64 (z0 + (1 : Int))) ∧ ((z1 (z0 + (1 : Int))) ∧ z2 (z0 + (1 : Int)) < z2 z0))))))))) ∧ ((¬ (z0 < ((bytesL s).length : Int))) → Q true)))))))
set_option maxRecDepth 20000 in
set_option maxHeartbeats 4000000 in
theorem path_part_w {X : List Nat} {w : World} {s : ByteArray} {Q : Bool → Prop} (u5 : Old X w) (y7 : s.size ≤ maxLen) (hp : path_part_p s Q) :
  Calls Tryz.prog 87 #[(.string s)] w (Ret fun v w' => ∃ (u6 : Bool), Q u6 ∧ Evo [] w w' ∧ v = (.bool u6)) := by
 have hXo := u5
 have E0 : Evo [] w w := RB.refl _ _ _
 have hS : Sub X X := Sub.refl _
 unfold path_part_p at hp
 refine enter_ Tryz.func87 rfl 26 [(0, (.string s))] (by kernel_rfl) (fun Qe hQ => ?_)
 replace hp := hp y7
 refine sr (fun _ s8 => pv (.bool false) ?_)
 refine nt s8 (seq_ (fun _ s9 => seq_ (fun _ r0 => ?_)))
 refine ground_ ?_
 refine join_ 32736 (fun lq u7 => lq = [(14, (.bool (decide (((s : ByteArray) = (ByteArray.mk #[])) ∨ (((s : ByteArray) = (ByteArray.mk #[46])) ∨ ((s : ByteArray) = (ByteArray.mk #[46, 46])))))))] ∧ w = u7) (fun r5 z5 => ?_) ?_
 ·
  refine reg_ (pv (.string s) ?_)
  by_cases z2 : (s : ByteArray) = (ByteArray.mk #[])
  ·
   refine pw (.bool true) (x_dt (p := (s : ByteArray) = (ByteArray.mk #[])) (x_streq (by kernel_rfl) (by kernel_rfl)) z2) ?_
   refine pv (.bool true) ?_
   refine no ?_
   refine no ?_
   refine pv (.bool true) ?_
   refine pv (.bool true) ?_
   refine no ?_
   refine no ?_
   refine pv (.bool true) ?_
   refine nil_ (then_normal (z5 _ _ _ ⟨[(14, (.bool (decide (((s : ByteArray) = (ByteArray.mk #[])) ∨ (((s : ByteArray) = (ByteArray.mk #[46])) ∨ ((s : ByteArray) = (ByteArray.mk #[46, 46])))))))], fit_mk (fun _ _ => rfl) (by kernel_rfl) (vs_cons (Eq.trans (b := (.bool true)) (by kernel_rfl) (dec_t (iff_true_intro (Or.inl z2))).symm) vs_nil), rfl, rfl⟩))
  ·
   refine pw (.bool false) (x_df (p := (s : ByteArray) = (ByteArray.mk #[])) (x_streq (by kernel_rfl) (by kernel_rfl)) z2) ?_
   refine pv (.bool false) ?_
   refine pv (.string s) ?_
   by_cases z3 : (s : ByteArray) = (ByteArray.mk #[46])
   ·
    refine pw (.bool true) (x_dt (p := (s : ByteArray) = (ByteArray.mk #[46])) (x_streq (by kernel_rfl) (by kernel_rfl)) z3) ?_
    refine pv (.bool true) ?_
    refine pv (.bool true) ?_
    refine no ?_
    refine no ?_
    refine pv (.bool true) ?_
    refine nil_ (then_normal (z5 _ _ _ ⟨[(14, (.bool (decide (((s : ByteArray) = (ByteArray.mk #[])) ∨ (((s : ByteArray) = (ByteArray.mk #[46])) ∨ ((s : ByteArray) = (ByteArray.mk #[46, 46])))))))], fit_mk (fun _ _ => rfl) (by kernel_rfl) (vs_cons (Eq.trans (b := (.bool true)) (by kernel_rfl) (dec_t ((or_iff_right z2).trans (iff_true_intro (Or.inl z3)))).symm) vs_nil), rfl, rfl⟩))
   ·
    refine pw (.bool false) (x_df (p := (s : ByteArray) = (ByteArray.mk #[46])) (x_streq (by kernel_rfl) (by kernel_rfl)) z3) ?_
    refine pv (.bool false) ?_
    refine pv (.bool false) ?_
    refine pv (.string s) ?_
    refine pw (.bool (decide ((s : ByteArray) = (ByteArray.mk #[46, 46])))) (x_streq (by kernel_rfl) (by kernel_rfl)) ?_
    refine pv (.bool (decide ((s : ByteArray) = (ByteArray.mk #[46, 46])))) ?_
    refine nil_ (then_normal (z5 _ _ _ ⟨[(14, (.bool (decide (((s : ByteArray) = (ByteArray.mk #[])) ∨ (((s : ByteArray) = (ByteArray.mk #[46])) ∨ ((s : ByteArray) = (ByteArray.mk #[46, 46])))))))], fit_mk (fun _ _ => rfl) (by kernel_rfl) (vs_cons (Eq.trans (b := (.bool (decide ((s : ByteArray) = (ByteArray.mk #[46, 46]))))) (by kernel_rfl) (dec_d ((or_iff_right z2).trans ((or_iff_right z3).trans Iff.rfl))).symm) vs_nil), rfl, rfl⟩))
 ·
  rintro _ u7 r6 ⟨rfl, hw⟩
  subst hw
  refine then_normal (r0 _ _ _ _ ?_)
  refine cond_d (((s : ByteArray) = (ByteArray.mk #[])) ∨ (((s : ByteArray) = (ByteArray.mk #[46])) ∨ ((s : ByteArray) = (ByteArray.mk #[46, 46])))) (by kernel_rfl) (fun z6 => ?_) (fun z6 => ?_)
  ·
   replace hp := hp.1 z6
   refine sr (fun _ u9 => pv (.bool false) ?_)
   refine nt u9 (wp_ret (then_ret ?_))
   refine end_ret hQ (.bool false) (by kernel_rfl) ?_
   exact ⟨false, hp, E0, rfl⟩
  ·
   replace hp := hp.2 z6
   refine wp_skip (then_normal (s9 _ _ _ _ (seq_ (fun _ t0 => sr (fun _ t1 => pv (.string s) ?_)))))
   refine sq (o_s2b (X := X) (sv := s) hXo rfl Tryz.underlying9 Tryz.underlying32 Tryz.underlying5 (by kernel_rfl) y7 ?_)
   intro t2 y8 r7 z7 t3
   refine pv (.int .i64 ((bytesL s).length : Int)) ?_
   refine pv (.int .i64 (0 : Int)) ?_
   refine nt t1 (wp_block ?_)
   have y4 := Old.step hXo z7
   have t4 := Evo.then0 E0 (Step.evo z7)
   have v4 := Sub.trans hS (Step.up z7)
   obtain ⟨t5, y9, v5, hp⟩ := hp
   refine loop_ 66846740 (fun kq lq z4 => ∃ (z1 : List Nat) (z0 : Int), (lq = [(18, (.int .i64 z0))]) ∧ (kq = y9 z0) ∧ (Evo [] w z4) ∧ (Old z1 z4) ∧ (Sub X z1) ∧ (Sl (rInt .u8) z1 z4 t2 y8 (bytesL s)) ∧ (inR .i64 z0) ∧ (t5 z0)) (y9 (0 : Int)) [(18, (.int .i64 (0 : Int)))] (vs_cons (by kernel_rfl) vs_nil) ⟨X, (0 : Int), rfl, rfl, t4, y4, v4, t3, (by decide : inR .i64 (0 : Int)), v5⟩ ?_
   rintro _ _ z4 r8 ⟨z1, z0, rfl, rfl, z8, y5, v6, v0, v7, v8⟩ r1 v9
   replace hp := hp z0 v8 v7
   refine sr (fun _ t6 => pv (.bool (decide (z0 < ((bytesL s).length : Int)))) ?_)
   refine nt t6 (seq_ (fun _ t7 => ?_))
   refine cond_d (z0 < ((bytesL s).length : Int)) (by kernel_rfl) (fun z9 => ?_) (fun z9 => ?_)
   ·
    replace hp := hp.1 z9
    refine wp_skip (then_normal (t7 _ _ _ _ (seq_ (fun _ t8 => wp_block (sr (fun _ t9 => ?_))))))
    obtain ⟨v1, hp⟩ := hp
    obtain ⟨s0, s1, r2, u1, r3, r4, u2, u3⟩ := Sl.atI v0 z0 v1
    obtain ⟨rfl, y0⟩ := u2
    replace hp := hp y0
    refine pw (.pointer (some ⟨s0, s1 + z0.toNat * 1, none⟩)) (x_ixA (m := (bytesL s).length) (c := y8) (k := .i64) (i := z0) Tryz.underlying32 Tryz.sizeOf5 (by rw [← u1]; kernel_rfl) (by kernel_rfl) v1) ?_
    refine pw (.int .u8 (lget (bytesL s) z0)) (x_load1 (by kernel_rfl) Tryz.isAgg5 (u3 0 _ rfl)) ?_
    refine pv (.int .u8 (lget (bytesL s) z0)) ?_
    refine nt t9 (sr (fun _ s2 => pv (.int .u8 (lget (bytesL s) z0)) ?_))
    refine sq (o_call 96 #[(.int .u8 (lget (bytesL s) z0))] rfl (x_call Tryz.call96 (by kernel_rfl)) (path_good_w (X := []) (c := lget (bytesL s) z0) (Old.nil _) y0 hp) ?_)
    rintro _ r9 ⟨v2, hp, y1, rfl⟩
    have y2 := Step.of0 z1 y1
    refine pv (.bool (!v2)) ?_
    refine nt s2 ?_
    refine cond_b (!v2) (by kernel_rfl) (fun y3 => ?_) (fun y3 => ?_)
    ·
     replace hp := hp.1 y3
     refine sr (fun _ s3 => pv (.bool false) ?_)
     refine nt s3 (wp_ret (blk_ret (then_ret (then_ret (blk_ret (then_ret ?_))))))
     have s4 := Evo.then0 z8 y1
     refine end_ret hQ (.bool false) (by kernel_rfl) ?_
     exact ⟨false, hp, s4, rfl⟩
    ·
     replace hp := hp.2 y3
     refine wp_skip (blk_normal (then_normal (t8 _ _ _ _ (reg_ ?_))))
     obtain ⟨v3, hp⟩ := hp
     refine pw (.int .i64 (z0 + (1 : Int))) (x_add2 (k := .i64) (a := z0) (b := (1 : Int)) (z0 + (1 : Int)) (by kernel_rfl) (by kernel_rfl) (wrap_inR v3)) ?_
     refine pv (.int .i64 (z0 + (1 : Int))) ?_
     refine nil_ ?_
     have s5 := Evo.then0 z8 y1
     have y6 := Old.step y5 y2
     have u4 := Sub.trans v6 (Step.up y2)
     have s6 := Sl.step v0 y2
     refine then_normal (v9 _ _ _ ⟨_, [(18, (.int .i64 (z0 + (1 : Int))))], hp.2, fit_mk (AgB.mix _ _ _) (by kernel_rfl) (vs_cons (by kernel_rfl) vs_nil), ?_⟩)
     exact ⟨z1, (z0 + (1 : Int)), rfl, rfl, s5, y6, u4, s6, v3, hp.1⟩
   ·
    replace hp := hp.2 z9
    refine wp_exit ?_
    refine then_exit (then_exit (blk_exit (then_normal (t0 _ _ _ _ (sr (fun _ s7 => pv (.bool true) ?_))))))
    refine nt s7 (wp_ret ?_)
    refine end_ret hQ (.bool true) (by kernel_rfl) ?_
    exact ⟨true, hp, z8, rfl⟩
def path_Check_p (p : ByteArray) (Q : Int → Prop) : Prop :=
 ((p.size ≤ maxLen) → ((((p.size : Int) > (64 : Int)) → Q (4 : Int)) ∧ ((¬ ((p.size : Int) > (64 : Int))) → (strings_Split_p p (ByteArray.mk #[47]) (fun (z1 : (List ByteArray)) => ((z1.length ≤ 9223372036854775807) → (∃ (z2 : Int → Prop) (z3 : Int → Nat), (z2 (0 : Int)) ∧ (∀ (z0 : Int), (z2 z0) → (inR .i64 z0) → (((z0 < (z1.length : Int)) → ((inL z1 z0) ∧ (((lget z1 z0).size ≤ maxLen) → (path_part_p (lget z1 z0) (fun (z4 : Bool) => ((((!z4) = true) → Q (5 : Int)) ∧ (((!z4) = false) → ((inR .i64 (z0 + (1 : Int))) ∧ ((z2 (z0 + (1 : Int))) ∧ z3 (z0 + (1 : Int)) < z3 z0))))))))) ∧ ((¬ (z0 < (z1.length : Int))) → Q (0 : Int)))))))))))
set_option maxRecDepth 20000 in
set_option maxHeartbeats 4000000 in
theorem path_Check_w {X : List Nat} {w : World} {p : ByteArray} {Q : Int → Prop} (u9 : Old X w) (y6 : p.size ≤ maxLen) (hp : path_Check_p p Q) :
  Calls Tryz.prog 70 #[(.string p)] w (Ret fun v w' => ∃ (v3 : Int), Q v3 ∧ Evo [] w w' ∧ v = (.int .i64 v3) ∧ inR .i64 v3) := by
 have hXo := u9
 have E0 : Evo [] w w := RB.refl _ _ _
 have hS : Sub X X := Sub.refl _
 unfold path_Check_p at hp
 refine enter_ Tryz.func70 rfl 19 [(0, (.string p))] (by kernel_rfl) (fun Qe hQ => ?_)
 replace hp := hp y6
 refine sr (fun _ s3 => pv (.int .i64 (0 : Int)) ?_)
 refine nt s3 (seq_ (fun _ s4 => sr (fun _ s5 => pv (.string p) ?_)))
 refine pv (.int .i64 (p.size : Int)) ?_
 refine pv (.bool (decide ((p.size : Int) > (64 : Int)))) ?_
 refine nt s5 ?_
 refine cond_d ((p.size : Int) > (64 : Int)) (by kernel_rfl) (fun v4 => ?_) (fun v4 => ?_)
 ·
  replace hp := hp.1 v4
  refine sr (fun _ s6 => pv (.int .i64 (4 : Int)) ?_)
  refine nt s6 (wp_ret (then_ret ?_))
  refine end_ret hQ (.int .i64 (4 : Int)) (by kernel_rfl) ?_
  exact ⟨(4 : Int), hp, E0, rfl, (by decide : inR .i64 (4 : Int))⟩
 ·
  replace hp := hp.2 v4
  refine wp_skip (then_normal (s4 _ _ _ _ (seq_ (fun _ s7 => sr (fun _ s8 => pv (.string p) ?_)))))
  refine sq (o_call 86 #[(.string p), (.string (ByteArray.mk #[47]))] rfl (x_call Tryz.call86 (by kernel_rfl)) (strings_Split_w (X := X) (s := p) (sep := (ByteArray.mk #[47])) hXo y6 (by decide : (ByteArray.mk #[47]).size ≤ maxLen) hp) ?_)
  rintro _ r3 ⟨z1, hp, y7, v5, z4, rfl, z5⟩
  have y8 := Step.of0 X y7
  replace hp := hp (Sl.len z5)
  refine pv (.int .i64 (z1.length : Int)) ?_
  refine pv (.int .i64 (0 : Int)) ?_
  refine nt s8 (wp_block ?_)
  have y3 := Old.step hXo y8
  have t0 := Evo.then0 E0 y7
  have v6 := Sub.trans hS (Step.up y8)
  obtain ⟨t1, y9, v7, hp⟩ := hp
  refine loop_ 522260 (fun kq lq z3 => ∃ (z2 : List Nat) (z0 : Int), (lq = [(11, (.int .i64 z0))]) ∧ (kq = y9 z0) ∧ (Evo [] w z3) ∧ (Old z2 z3) ∧ (Sub X z2) ∧ (Sl rStr z2 z3 v5 z4 z1) ∧ (inR .i64 z0) ∧ (t1 z0)) (y9 (0 : Int)) [(11, (.int .i64 (0 : Int)))] (vs_cons (by kernel_rfl) vs_nil) ⟨X, (0 : Int), rfl, rfl, t0, y3, v6, z5, (by decide : inR .i64 (0 : Int)), v7⟩ ?_
  rintro _ _ z3 r4 ⟨z2, z0, rfl, rfl, z6, y4, v8, z7, v9, u1⟩ s9 u2
  replace hp := hp z0 u1 v9
  refine sr (fun _ t2 => pv (.bool (decide (z0 < (z1.length : Int)))) ?_)
  refine nt t2 (seq_ (fun _ t3 => ?_))
  refine cond_d (z0 < (z1.length : Int)) (by kernel_rfl) (fun z8 => ?_) (fun z8 => ?_)
  ·
   replace hp := hp.1 z8
   refine wp_skip (then_normal (t3 _ _ _ _ (seq_ (fun _ t4 => wp_block (sr (fun _ t5 => ?_))))))
   obtain ⟨v0, hp⟩ := hp
   obtain ⟨t6, t7, r0, u3, r1, r2, u4, u5⟩ := Sl.atI z7 z0 v0
   obtain ⟨rfl, z9⟩ := u4
   replace hp := hp z9
   refine pw (.pointer (some ⟨t6, t7 + z0.toNat * 1, none⟩)) (x_ixA (m := z1.length) (c := z4) (k := .i64) (i := z0) Tryz.underlying65 Tryz.sizeOf9 (by rw [← u3]; kernel_rfl) (by kernel_rfl) v0) ?_
   refine pw (.string (lget z1 z0)) (x_load1 (by kernel_rfl) Tryz.isAgg9 (u5 0 _ rfl)) ?_
   refine pv (.string (lget z1 z0)) ?_
   refine nt t5 (sr (fun _ t8 => pv (.string (lget z1 z0)) ?_))
   refine sq (o_call 87 #[(.string (lget z1 z0))] rfl (x_call Tryz.call87 (by kernel_rfl)) (path_part_w (X := []) (s := lget z1 z0) (Old.nil _) z9 hp) ?_)
   rintro _ r5 ⟨v1, hp, y0, rfl⟩
   have y1 := Step.of0 z2 y0
   refine pv (.bool (!v1)) ?_
   refine nt t8 ?_
   refine cond_b (!v1) (by kernel_rfl) (fun y2 => ?_) (fun y2 => ?_)
   ·
    replace hp := hp.1 y2
    refine sr (fun _ t9 => pv (.int .i64 (5 : Int)) ?_)
    refine nt t9 (wp_ret (blk_ret (then_ret (then_ret (blk_ret (then_ret ?_))))))
    have s0 := Evo.then0 z6 y0
    refine end_ret hQ (.int .i64 (5 : Int)) (by kernel_rfl) ?_
    exact ⟨(5 : Int), hp, s0, rfl, (by decide : inR .i64 (5 : Int))⟩
   ·
    replace hp := hp.2 y2
    refine wp_skip (blk_normal (then_normal (t4 _ _ _ _ (reg_ ?_))))
    obtain ⟨v2, hp⟩ := hp
    refine pw (.int .i64 (z0 + (1 : Int))) (x_add2 (k := .i64) (a := z0) (b := (1 : Int)) (z0 + (1 : Int)) (by kernel_rfl) (by kernel_rfl) (wrap_inR v2)) ?_
    refine pv (.int .i64 (z0 + (1 : Int))) ?_
    refine nil_ ?_
    have s1 := Evo.then0 z6 y0
    have y5 := Old.step y4 y1
    have u6 := Sub.trans v8 (Step.up y1)
    have u7 := Sl.step z7 y1
    refine then_normal (u2 _ _ _ ⟨_, [(11, (.int .i64 (z0 + (1 : Int))))], hp.2, fit_mk (AgB.mix _ _ _) (by kernel_rfl) (vs_cons (by kernel_rfl) vs_nil), ?_⟩)
    exact ⟨z2, (z0 + (1 : Int)), rfl, rfl, s1, y5, u6, u7, v2, hp.1⟩
  ·
   replace hp := hp.2 z8
   refine wp_exit ?_
   refine then_exit (then_exit (blk_exit (then_normal (s7 _ _ _ _ (sr (fun _ s2 => pv (.int .i64 (0 : Int)) ?_))))))
   refine nt s2 (wp_ret ?_)
   refine end_ret hQ (.int .i64 (0 : Int)) (by kernel_rfl) ?_
   exact ⟨(0 : Int), hp, z6, rfl, (by decide : inR .i64 (0 : Int))⟩
def journal_folder_p (dir : ByteArray) (Q : Int → Prop) : Prop :=
 ((dir.size ≤ maxLen) → (∃ z0 : Bool → Prop, (∀ (z1 : Bool), z0 z1 → (((z1 = true) → Q (5 : Int)) ∧ ((z1 = false) → Q (0 : Int)))) ∧ (path_Check_p dir (fun (z2 : Int) => ((inR .i64 z2) → (((z2 = (0 : Int)) → (z0 (decide ((dir.size : Int) > (16 : Int))))) ∧ ((¬ (z2 = (0 : Int))) → (z0 true))))))))
set_option maxRecDepth 20000 in
set_option maxHeartbeats 4000000 in
theorem journal_folder_w {X : List Nat} {w : World} {dir : ByteArray} {Q : Int → Prop} (y9 : Old X w) (z1 : dir.size ≤ maxLen) (hp : journal_folder_p dir Q) :
  Calls Tryz.prog 39 #[(.string dir)] w (Ret fun v w' => ∃ (y3 : Int), Q y3 ∧ Evo [] w w' ∧ v = (.int .i64 y3) ∧ inR .i64 y3) := by
 have hXo := y9
 have E0 : Evo [] w w := RB.refl _ _ _
 have hS : Sub X X := Sub.refl _
 unfold journal_folder_p at hp
 refine enter_ Tryz.func39 rfl 11 [(0, (.string dir))] (by kernel_rfl) (fun Qe hQ => ?_)
 replace hp := hp z1
 refine sr (fun _ v6 => pv (.int .i64 (0 : Int)) ?_)
 refine nt v6 (seq_ (fun _ v7 => seq_ (fun _ v8 => ?_)))
 obtain ⟨v0, y4, hp⟩ := hp
 refine ground_ ?_
 refine join_ 2040 (fun lq z4 => ∃ (z5 : List Nat) (z0 : Bool), (lq = [(10, (.bool z0))]) ∧ (Evo [] w z4) ∧ (Old z5 z4) ∧ (Sub X z5) ∧ (v0 z0)) (fun v9 z6 => ?_) ?_
 ·
  refine reg_ (pv (.string dir) ?_)
  refine sq (o_call 70 #[(.string dir)] rfl (x_call Tryz.call70 (by kernel_rfl)) (path_Check_w (X := []) (p := dir) (Old.nil _) z1 hp) ?_)
  rintro _ u2 ⟨z7, hp, z8, rfl, y5⟩
  have z2 := Step.of0 X z8
  replace hp := hp y5
  by_cases z3 : z7 = (0 : Int)
  ·
   replace hp := hp.1 z3
   refine pw (.bool false) (x_ndf (p := z7 = (0 : Int)) (by kernel_rfl) z3) ?_
   refine pv (.bool false) ?_
   refine pv (.string dir) ?_
   refine pv (.int .i64 (dir.size : Int)) ?_
   refine pv (.bool (decide ((dir.size : Int) > (16 : Int)))) ?_
   refine pv (.bool (decide ((dir.size : Int) > (16 : Int)))) ?_
   refine nil_ ?_
   have v1 := Evo.then0 E0 z8
   have y0 := Old.step hXo z2
   have y6 := Sub.trans hS (Step.up z2)
   refine then_normal (z6 _ _ _ ⟨[(10, (.bool (decide ((dir.size : Int) > (16 : Int)))))], fit_mk (fun _ _ => rfl) (by kernel_rfl) (vs_cons (by kernel_rfl) vs_nil), ?_⟩)
   exact ⟨X, (decide ((dir.size : Int) > (16 : Int))), rfl, v1, y0, y6, hp⟩
  ·
   replace hp := hp.2 z3
   refine pw (.bool true) (x_ndt (p := z7 = (0 : Int)) (by kernel_rfl) z3) ?_
   refine pv (.bool true) ?_
   refine no ?_
   refine no ?_
   refine no ?_
   refine pv (.bool true) ?_
   refine nil_ ?_
   have v2 := Evo.then0 E0 z8
   have y1 := Old.step hXo z2
   have y7 := Sub.trans hS (Step.up z2)
   refine then_normal (z6 _ _ _ ⟨[(10, (.bool true))], fit_mk (fun _ _ => rfl) (by kernel_rfl) (vs_cons (by kernel_rfl) vs_nil), ?_⟩)
   exact ⟨X, true, rfl, v2, y1, y7, hp⟩
 ·
  rintro _ z4 u3 ⟨z5, z0, rfl, y2, v5, u1, y8⟩
  replace hp := y4 z0 y8
  refine then_normal (v8 _ _ _ _ ?_)
  refine cond_b z0 (by kernel_rfl) (fun z9 => ?_) (fun z9 => ?_)
  ·
   replace hp := hp.1 z9
   refine sr (fun _ v3 => pv (.int .i64 (5 : Int)) ?_)
   refine nt v3 (wp_ret (then_ret ?_))
   refine end_ret hQ (.int .i64 (5 : Int)) (by kernel_rfl) ?_
   exact ⟨(5 : Int), hp, y2, rfl, (by decide : inR .i64 (5 : Int))⟩
  ·
   replace hp := hp.2 z9
   refine wp_skip (then_normal (v7 _ _ _ _ (sr (fun _ v4 => pv (.int .i64 (0 : Int)) ?_))))
   refine nt v4 (wp_ret ?_)
   refine end_ret hQ (.int .i64 (0 : Int)) (by kernel_rfl) ?_
   exact ⟨(0 : Int), hp, y2, rfl, (by decide : inR .i64 (0 : Int))⟩
def internal_stringslite_HasPrefix_p (s : ByteArray) (prefix_ : ByteArray) (Q : Bool → Prop) : Prop :=
 ((s.size ≤ maxLen) → ((prefix_.size ≤ maxLen) → (((((s.size : Int) ≥ (prefix_.size : Int)) → ((0 ≤ (0 : Int) ∧ (0 : Int) ≤ (prefix_.size : Int) ∧ (prefix_.size : Int) ≤ (s.size : Int)) ∧ True)) ∧ ((¬ ((s.size : Int) ≥ (prefix_.size : Int))) → True)) ∧ Q (decide (((s.size : Int) ≥ (prefix_.size : Int)) ∧ ((bsub s (0 : Int) (prefix_.size : Int) : ByteArray) = prefix_))))))
set_option maxRecDepth 20000 in
set_option maxHeartbeats 4000000 in
theorem internal_stringslite_HasPrefix_w {X : List Nat} {w : World} {s : ByteArray} {prefix_ : ByteArray} {Q : Bool → Prop} (z3 : Old X w) (z4 : s.size ≤ maxLen) (z1 : prefix_.size ≤ maxLen) (hp : internal_stringslite_HasPrefix_p s prefix_ Q) :
  Calls Tryz.prog 89 #[(.string s), (.string prefix_)] w (Ret fun v w' => ∃ (z5 : Bool), Q z5 ∧ Evo [] w w' ∧ v = (.bool z5)) := by
 have hXo := z3
 have E0 : Evo [] w w := RB.refl _ _ _
 have hS : Sub X X := Sub.refl _
 unfold internal_stringslite_HasPrefix_p at hp
 refine enter_ Tryz.func89 rfl 18 [(0, (.string s)), (1, (.string prefix_))] (by kernel_rfl) (fun Qe hQ => ?_)
 replace hp := hp z4 z1
 refine sr (fun _ z8 => pv (.bool false) ?_)
 refine nt z8 (seq_ (fun _ z9 => ?_))
 obtain ⟨hp, hq⟩ := hp
 refine ground_ ?_
 refine join_ 262128 (fun lq z6 => lq = [(4, (.bool (decide (((s.size : Int) ≥ (prefix_.size : Int)) ∧ ((bsub s (0 : Int) (prefix_.size : Int) : ByteArray) = prefix_)))))] ∧ w = z6) (fun y0 z2 => ?_) ?_
 ·
  refine reg_ (pv (.string s) ?_)
  refine pv (.int .i64 (s.size : Int)) ?_
  refine pv (.string prefix_) ?_
  refine pv (.int .i64 (prefix_.size : Int)) ?_
  by_cases z0 : (s.size : Int) ≥ (prefix_.size : Int)
  ·
   replace hp := hp.1 z0
   refine pw (.bool true) (x_dt (p := (s.size : Int) ≥ (prefix_.size : Int)) (by kernel_rfl) z0) ?_
   refine pv (.bool true) ?_
   refine pv (.string s) ?_
   refine pv (.string prefix_) ?_
   refine pv (.int .i64 (prefix_.size : Int)) ?_
   obtain ⟨z7, hp⟩ := hp
   refine pw (.string (bsub s (0 : Int) (prefix_.size : Int))) (x_sub01 (k := .i64) (by kernel_rfl)  (by kernel_rfl) Tryz.underlying9 z7) ?_
   refine pv (.string prefix_) ?_
   refine pw (.bool (decide ((bsub s (0 : Int) (prefix_.size : Int) : ByteArray) = prefix_))) (x_streq (by kernel_rfl) (by kernel_rfl)) ?_
   refine pv (.bool (decide ((bsub s (0 : Int) (prefix_.size : Int) : ByteArray) = prefix_))) ?_
   refine pv (.bool (decide ((bsub s (0 : Int) (prefix_.size : Int) : ByteArray) = prefix_))) ?_
   refine nil_ (then_normal (z2 _ _ _ ⟨[(4, (.bool (decide (((s.size : Int) ≥ (prefix_.size : Int)) ∧ ((bsub s (0 : Int) (prefix_.size : Int) : ByteArray) = prefix_)))))], fit_mk (fun _ _ => rfl) (by kernel_rfl) (vs_cons (Eq.trans (b := (.bool (decide ((bsub s (0 : Int) (prefix_.size : Int) : ByteArray) = prefix_)))) (by kernel_rfl) (dec_d ((and_iff_right z0).trans Iff.rfl)).symm) vs_nil), rfl, rfl⟩))
  ·
   replace hp := hp.2 z0
   refine pw (.bool false) (x_df (p := (s.size : Int) ≥ (prefix_.size : Int)) (by kernel_rfl) z0) ?_
   refine pv (.bool false) ?_
   refine no ?_
   refine no ?_
   refine no ?_
   refine no ?_
   refine no ?_
   refine no ?_
   refine pv (.bool false) ?_
   refine pv (.bool false) ?_
   refine nil_ (then_normal (z2 _ _ _ ⟨[(4, (.bool (decide (((s.size : Int) ≥ (prefix_.size : Int)) ∧ ((bsub s (0 : Int) (prefix_.size : Int) : ByteArray) = prefix_)))))], fit_mk (fun _ _ => rfl) (by kernel_rfl) (vs_cons (Eq.trans (b := (.bool false)) (by kernel_rfl) (dec_f (iff_false_intro (fun h => z0 h.1))).symm) vs_nil), rfl, rfl⟩))
 ·
  rintro _ z6 y1 ⟨rfl, hw⟩
  subst hw
  have hp := hq
  refine then_normal (z9 _ _ _ _ (wp_ret ?_))
  refine end_ret hQ (.bool (decide (((s.size : Int) ≥ (prefix_.size : Int)) ∧ ((bsub s (0 : Int) (prefix_.size : Int) : ByteArray) = prefix_)))) (by kernel_rfl) ?_
  exact ⟨(decide (((s.size : Int) ≥ (prefix_.size : Int)) ∧ ((bsub s (0 : Int) (prefix_.size : Int) : ByteArray) = prefix_))), hp, E0, rfl⟩
def strings_HasPrefix_p (s : ByteArray) (prefix_ : ByteArray) (Q : Bool → Prop) : Prop :=
 ((s.size ≤ maxLen) → ((prefix_.size ≤ maxLen) → (internal_stringslite_HasPrefix_p s prefix_ (fun (z0 : Bool) => Q z0))))
set_option maxRecDepth 20000 in
set_option maxHeartbeats 4000000 in
theorem strings_HasPrefix_w {X : List Nat} {w : World} {s : ByteArray} {prefix_ : ByteArray} {Q : Bool → Prop} (z3 : Old X w) (z1 : s.size ≤ maxLen) (z0 : prefix_.size ≤ maxLen) (hp : strings_HasPrefix_p s prefix_ Q) :
  Calls Tryz.prog 73 #[(.string s), (.string prefix_)] w (Ret fun v w' => ∃ (z4 : Bool), Q z4 ∧ Evo [] w w' ∧ v = (.bool z4)) := by
 have hXo := z3
 have E0 : Evo [] w w := RB.refl _ _ _
 have hS : Sub X X := Sub.refl _
 unfold strings_HasPrefix_p at hp
 refine enter_ Tryz.func73 rfl 8 [(0, (.string s)), (1, (.string prefix_))] (by kernel_rfl) (fun Qe hQ => ?_)
 replace hp := hp z1 z0
 refine sr (fun _ z5 => pv (.bool false) ?_)
 refine nt z5 (sr (fun _ z6 => pv (.string s) ?_))
 refine pv (.string prefix_) ?_
 refine sq (o_call 89 #[(.string s), (.string prefix_)] rfl (x_call Tryz.call89 (by kernel_rfl)) (internal_stringslite_HasPrefix_w (X := []) (s := s) (prefix_ := prefix_) (Old.nil _) z1 z0 hp) ?_)
 rintro _ z9 ⟨z2, hp, z7, rfl⟩
 refine pv (.bool z2) ?_
 refine nt z6 (wp_ret ?_)
 have z8 := Evo.then0 E0 z7
 refine end_ret hQ (.bool z2) (by kernel_rfl) ?_
 exact ⟨z2, hp, z8, rfl⟩
def path_Under_p (p : ByteArray) (dir : ByteArray) (Q : Bool → Prop) : Prop :=
 ((p.size ≤ maxLen) → ((dir.size ≤ maxLen) → ((((dir : ByteArray) = (ByteArray.mk #[])) → Q (!decide ((p : ByteArray) = (ByteArray.mk #[])))) ∧ ((¬ ((dir : ByteArray) = (ByteArray.mk #[]))) → (∃ z0 : Bool → Prop, (∀ (z1 : Bool), z0 z1 → Q z1) ∧ ((inR .i64 ((dir.size : Int) + (1 : Int))) ∧ ((((p.size : Int) > ((dir.size : Int) + (1 : Int))) → (((dir ++ (ByteArray.mk #[47])).size ≤ maxLen) ∧ (strings_HasPrefix_p p (dir ++ (ByteArray.mk #[47])) (fun (z2 : Bool) => (z0 z2))))) ∧ ((¬ ((p.size : Int) > ((dir.size : Int) + (1 : Int)))) → (z0 false)))))))))
set_option maxRecDepth 20000 in
set_option maxHeartbeats 4000000 in
theorem path_Under_w {X : List Nat} {w : World} {p : ByteArray} {dir : ByteArray} {Q : Bool → Prop} (y6 : Old X w) (z8 : p.size ≤ maxLen) (z6 : dir.size ≤ maxLen) (hp : path_Under_p p dir Q) :
  Calls Tryz.prog 48 #[(.string p), (.string dir)] w (Ret fun v w' => ∃ (y7 : Bool), Q y7 ∧ Evo [] w w' ∧ v = (.bool y7)) := by
 have hXo := y6
 have E0 : Evo [] w w := RB.refl _ _ _
 have hS : Sub X X := Sub.refl _
 unfold path_Under_p at hp
 refine enter_ Tryz.func48 rfl 21 [(0, (.string p)), (1, (.string dir))] (by kernel_rfl) (fun Qe hQ => ?_)
 replace hp := hp z8 z6
 refine sr (fun _ v3 => pv (.bool false) ?_)
 refine nt v3 (seq_ (fun _ v4 => sr (fun _ v5 => pv (.string dir) ?_)))
 refine pw (.bool (decide ((dir : ByteArray) = (ByteArray.mk #[])))) (x_streq (by kernel_rfl) (by kernel_rfl)) ?_
 refine nt v5 ?_
 refine cond_d ((dir : ByteArray) = (ByteArray.mk #[])) (by kernel_rfl) (fun y2 => ?_) (fun y2 => ?_)
 ·
  replace hp := hp.1 y2
  refine sr (fun _ v6 => pv (.string p) ?_)
  refine pw (.bool (!decide ((p : ByteArray) = (ByteArray.mk #[])))) (x_strne (by kernel_rfl) (by kernel_rfl)) ?_
  refine pv (.bool (!decide ((p : ByteArray) = (ByteArray.mk #[])))) ?_
  refine nt v6 (wp_ret (then_ret ?_))
  refine end_ret hQ (.bool (!decide ((p : ByteArray) = (ByteArray.mk #[])))) (by kernel_rfl) ?_
  exact ⟨(!decide ((p : ByteArray) = (ByteArray.mk #[]))), hp, E0, rfl⟩
 ·
  replace hp := hp.2 y2
  refine wp_skip (then_normal (v4 _ _ _ _ (seq_ (fun _ v7 => ?_))))
  obtain ⟨y8, y3, hp⟩ := hp
  refine ground_ ?_
  refine join_ 2096656 (fun lq z3 => ∃ (z4 : List Nat) (z0 : Bool), (lq = [(4, (.bool z0))]) ∧ (Evo [] w z3) ∧ (Old z4 z3) ∧ (Sub X z4) ∧ (y8 z0)) (fun v8 z5 => ?_) ?_
  ·
   refine reg_ (pv (.string p) ?_)
   refine pv (.int .i64 (p.size : Int)) ?_
   refine pv (.string dir) ?_
   refine pv (.int .i64 (dir.size : Int)) ?_
   obtain ⟨y9, hp⟩ := hp
   refine pw (.int .i64 ((dir.size : Int) + (1 : Int))) (x_add2 (k := .i64) (a := (dir.size : Int)) (b := (1 : Int)) ((dir.size : Int) + (1 : Int)) (by kernel_rfl) (by kernel_rfl) (wrap_inR y9)) ?_
   by_cases z1 : (p.size : Int) > ((dir.size : Int) + (1 : Int))
   ·
    replace hp := hp.1 z1
    refine pw (.bool true) (x_dt (p := (p.size : Int) > ((dir.size : Int) + (1 : Int))) (by kernel_rfl) z1) ?_
    refine pv (.bool true) ?_
    refine pv (.string p) ?_
    refine pv (.string dir) ?_
    obtain ⟨z9, hp⟩ := hp
    refine pw (.string (dir ++ (ByteArray.mk #[47]))) (x_cat (by kernel_rfl) (by kernel_rfl) z9) ?_
    refine sq (o_call 73 #[(.string p), (.string (dir ++ (ByteArray.mk #[47])))] (by kernel_rfl) (x_call Tryz.call73 (by kernel_rfl)) (strings_HasPrefix_w (X := []) (s := p) (prefix_ := dir ++ (ByteArray.mk #[47])) (Old.nil _) z8 z9 hp) ?_)
    rintro _ u1 ⟨z2, hp, y0, rfl⟩
    have y1 := Step.of0 X y0
    refine pv (.bool z2) ?_
    refine pv (.bool z2) ?_
    refine nil_ ?_
    have v0 := Evo.then0 E0 y0
    have z7 := Old.step hXo y1
    have y4 := Sub.trans hS (Step.up y1)
    refine then_normal (z5 _ _ _ ⟨[(4, (.bool z2))], fit_mk (fun _ _ => rfl) (by kernel_rfl) (vs_cons (by kernel_rfl) vs_nil), ?_⟩)
    exact ⟨X, z2, rfl, v0, z7, y4, hp⟩
   ·
    replace hp := hp.2 z1
    refine pw (.bool false) (x_df (p := (p.size : Int) > ((dir.size : Int) + (1 : Int))) (by kernel_rfl) z1) ?_
    refine pv (.bool false) ?_
    refine no ?_
    refine no ?_
    refine no ?_
    refine no ?_
    refine pv (.bool false) ?_
    refine pv (.bool false) ?_
    refine nil_ (then_normal (z5 _ _ _ ⟨[(4, (.bool false))], fit_mk (fun _ _ => rfl) (by kernel_rfl) (vs_cons (by kernel_rfl) vs_nil), ?_⟩))
    exact ⟨X, false, rfl, E0, hXo, hS, hp⟩
  ·
   rintro _ z3 u2 ⟨z4, z0, rfl, v1, v2, v9, y5⟩
   replace hp := y3 z0 y5
   refine then_normal (v7 _ _ _ _ (wp_ret ?_))
   refine end_ret hQ (.bool z0) (by kernel_rfl) ?_
   exact ⟨z0, hp, v1, rfl⟩
def path_Clash_p (a : ByteArray) (b : ByteArray) (Q : Bool → Prop) : Prop :=
 ((a.size ≤ maxLen) → ((b.size ≤ maxLen) → (∃ z0 : Bool → Prop, (∀ (z1 : Bool), z0 z1 → Q z1) ∧ ((((a : ByteArray) = (ByteArray.mk #[])) → (z0 false)) ∧ ((¬ ((a : ByteArray) = (ByteArray.mk #[]))) → ((((b : ByteArray) = (ByteArray.mk #[])) → (z0 false)) ∧ ((¬ ((b : ByteArray) = (ByteArray.mk #[]))) → (path_Under_p a b (fun (z2 : Bool) => (((z2 = true) → (z0 true)) ∧ ((z2 = false) → (path_Under_p b a (fun (z3 : Bool) => (z0 z3))))))))))))))
set_option maxRecDepth 20000 in
set_option maxHeartbeats 4000000 in
theorem path_Clash_w {X : List Nat} {w : World} {a : ByteArray} {b : ByteArray} {Q : Bool → Prop} (y9 : Old X w) (z6 : a.size ≤ maxLen) (z7 : b.size ≤ maxLen) (hp : path_Clash_p a b Q) :
  Calls Tryz.prog 49 #[(.string a), (.string b)] w (Ret fun v w' => ∃ (v0 : Bool), Q v0 ∧ Evo [] w w' ∧ v = (.bool v0)) := by
 have hXo := y9
 have E0 : Evo [] w w := RB.refl _ _ _
 have hS : Sub X X := Sub.refl _
 unfold path_Clash_p at hp
 refine enter_ Tryz.func49 rfl 21 [(0, (.string a)), (1, (.string b))] (by kernel_rfl) (fun Qe hQ => ?_)
 replace hp := hp z6 z7
 refine sr (fun _ v7 => pv (.bool false) ?_)
 refine nt v7 (seq_ (fun _ v8 => ?_))
 obtain ⟨v1, y5, hp⟩ := hp
 refine ground_ ?_
 refine join_ 2097136 (fun lq z8 => ∃ (z9 : List Nat) (z0 : Bool), (lq = [(4, (.bool z0))]) ∧ (Evo [] w z8) ∧ (Old z9 z8) ∧ (Sub X z9) ∧ (v1 z0)) (fun v9 z1 => ?_) ?_
 ·
  refine reg_ (pv (.string a) ?_)
  by_cases z3 : (a : ByteArray) = (ByteArray.mk #[])
  ·
   replace hp := hp.1 z3
   refine pw (.bool false) (x_ndf (p := (a : ByteArray) = (ByteArray.mk #[])) (x_strne (by kernel_rfl) (by kernel_rfl)) z3) ?_
   refine pv (.bool false) ?_
   refine no ?_
   refine no ?_
   refine pv (.bool false) ?_
   refine pv (.bool false) ?_
   refine no ?_
   refine no ?_
   refine no ?_
   refine no ?_
   refine no ?_
   refine no ?_
   refine no ?_
   refine no ?_
   refine pv (.bool false) ?_
   refine pv (.bool false) ?_
   refine nil_ (then_normal (z1 _ _ _ ⟨[(4, (.bool false))], fit_mk (fun _ _ => rfl) (by kernel_rfl) (vs_cons (by kernel_rfl) vs_nil), ?_⟩))
   exact ⟨X, false, rfl, E0, hXo, hS, hp⟩
  ·
   replace hp := hp.2 z3
   refine pw (.bool true) (x_ndt (p := (a : ByteArray) = (ByteArray.mk #[])) (x_strne (by kernel_rfl) (by kernel_rfl)) z3) ?_
   refine pv (.bool true) ?_
   refine pv (.string b) ?_
   by_cases z4 : (b : ByteArray) = (ByteArray.mk #[])
   ·
    replace hp := hp.1 z4
    refine pw (.bool false) (x_ndf (p := (b : ByteArray) = (ByteArray.mk #[])) (x_strne (by kernel_rfl) (by kernel_rfl)) z4) ?_
    refine pv (.bool false) ?_
    refine pv (.bool false) ?_
    refine no ?_
    refine no ?_
    refine no ?_
    refine no ?_
    refine no ?_
    refine no ?_
    refine no ?_
    refine no ?_
    refine pv (.bool false) ?_
    refine pv (.bool false) ?_
    refine nil_ (then_normal (z1 _ _ _ ⟨[(4, (.bool false))], fit_mk (fun _ _ => rfl) (by kernel_rfl) (vs_cons (by kernel_rfl) vs_nil), ?_⟩))
    exact ⟨X, false, rfl, E0, hXo, hS, hp⟩
   ·
    replace hp := hp.2 z4
    refine pw (.bool true) (x_ndt (p := (b : ByteArray) = (ByteArray.mk #[])) (x_strne (by kernel_rfl) (by kernel_rfl)) z4) ?_
    refine pv (.bool true) ?_
    refine pv (.bool true) ?_
    refine pv (.string a) ?_
    refine pv (.string b) ?_
    refine sq (o_call 48 #[(.string a), (.string b)] (by kernel_rfl) (x_call Tryz.call48 (by kernel_rfl)) (path_Under_w (X := []) (p := a) (dir := b) (Old.nil _) z6 z7 hp) ?_)
    rintro _ u2 ⟨v2, hp, y0, rfl⟩
    have z5 := Step.of0 X y0
    cases v2
    ·
     replace hp := hp.2 rfl
     refine pv (.bool false) ?_
     refine pv (.string b) ?_
     refine pv (.string a) ?_
     refine sq (o_call 48 #[(.string b), (.string a)] (by kernel_rfl) (x_call Tryz.call48 (by kernel_rfl)) (path_Under_w (X := []) (p := b) (dir := a) (Old.nil _) z7 z6 hp) ?_)
     rintro _ u3 ⟨z2, hp, y3, rfl⟩
     have y4 := Step.of0 X y3
     refine pv (.bool z2) ?_
     refine pv (.bool z2) ?_
     refine pv (.bool z2) ?_
     refine nil_ ?_
     have v3 := Evo.then0 (Evo.then0 E0 y0) y3
     have y1 := Old.step (Old.step hXo z5) y4
     have y6 := Sub.trans (Sub.trans hS (Step.up z5)) (Step.up y4)
     refine then_normal (z1 _ _ _ ⟨[(4, (.bool z2))], fit_mk (fun _ _ => rfl) (by kernel_rfl) (vs_cons (by kernel_rfl) vs_nil), ?_⟩)
     exact ⟨X, z2, rfl, v3, y1, y6, hp⟩
    ·
     replace hp := hp.1 rfl
     refine pv (.bool true) ?_
     refine no ?_
     refine no ?_
     refine no ?_
     refine pv (.bool true) ?_
     refine pv (.bool true) ?_
     refine pv (.bool true) ?_
     refine nil_ ?_
     have v4 := Evo.then0 E0 y0
     have y2 := Old.step hXo z5
     have y7 := Sub.trans hS (Step.up z5)
     refine then_normal (z1 _ _ _ ⟨[(4, (.bool true))], fit_mk (fun _ _ => rfl) (by kernel_rfl) (vs_cons (by kernel_rfl) vs_nil), ?_⟩)
     exact ⟨X, true, rfl, v4, y2, y7, hp⟩
 ·
  rintro _ z8 u4 ⟨z9, z0, rfl, v5, v6, u1, y8⟩
  replace hp := y5 z0 y8
  refine then_normal (v8 _ _ _ _ (wp_ret ?_))
  refine end_ret hQ (.bool z0) (by kernel_rfl) ?_
  exact ⟨z0, hp, v5, rfl⟩
def journal_change_p (dir : ByteArray) (c : S_journal_Change) (Q : Int → Prop) : Prop :=
 ((dir.size ≤ maxLen) → ((c.Path.size ≤ maxLen) → ((inR .i64 c.Mode) → ((c.Data.length ≤ 9223372036854775807) → (path_Check_p c.Path (fun (z0 : Int) => ((inR .i64 z0) → (((¬ (z0 = (0 : Int))) → Q z0) ∧ ((z0 = (0 : Int)) → (∃ z1 : Bool → Prop, (∀ (z2 : Bool), z1 z2 → (((z2 = true) → Q (5 : Int)) ∧ ((z2 = false) → Q (0 : Int)))) ∧ ((((c.Path : ByteArray) = dir) → (z1 true)) ∧ ((¬ ((c.Path : ByteArray) = dir)) → (path_Clash_p c.Path dir (fun (z3 : Bool) => (z1 z3)))))))))))))))
set_option maxRecDepth 20000 in
set_option maxHeartbeats 4000000 in
theorem journal_change_w {X : List Nat} {w : World} {dir : ByteArray} {c : S_journal_Change} {z0 : Option Addr} {z1 : Nat} {Q : Int → Prop} (u5 : Old X w) (z5 : dir.size ≤ maxLen) (z3 : c.Path.size ≤ maxLen) (y1 : inR .i64 c.Mode) (y2 : Sl (rInt .u8) X w z0 z1 c.Data) (hp : journal_change_p dir c Q) :
  Calls Tryz.prog 44 #[(.string dir), (.agg #[(.string c.Path), (.bool c.Gone), (.int .i64 c.Mode), (.slice z0 c.Data.length z1)])] w (Ret fun v w' => ∃ (v9 : Int), Q v9 ∧ Evo [] w w' ∧ v = (.int .i64 v9) ∧ inR .i64 v9) := by
 have hXo := u5
 have E0 : Evo [] w w := RB.refl _ _ _
 have hS : Sub X X := Sub.refl _
 unfold journal_change_p at hp
 refine enter_ Tryz.func44 rfl 24 [(0, (.string dir)), (1, (.agg #[(.string c.Path), (.bool c.Gone), (.int .i64 c.Mode), (.slice z0 c.Data.length z1)]))] (by kernel_rfl) (fun Qe hQ => ?_)
 replace hp := hp z5 z3 y1 (Sl.len y2)
 refine sr (fun _ t8 => ?_)
 refine sq (o_newX [(.string c.Path), (.bool c.Gone), (.int .i64 c.Mode), (.slice z0 c.Data.length z1)] 34 (X := X) (B := w.heap.size) E0.size rfl (by kernel_rfl) ?_)
 intro u1 s5 z6 z7 v3 s1
 refine pv (.int .i64 (0 : Int)) ?_
 refine nt t8 (seq_ (fun _ u6 => sr (fun _ u7 => pv (.pointer (some ⟨u1, 0, none⟩)) ?_)))
 refine pw (.string c.Path) (x_load1 (by kernel_rfl) Tryz.isAgg9 (v3.2.1.cell' 0 rfl)) ?_
 refine sq (o_call 70 #[(.string c.Path)] rfl (x_call Tryz.call70 (by kernel_rfl)) (path_Check_w (X := []) (p := c.Path) (Old.nil _) z3 hp) ?_)
 rintro _ s2 ⟨z2, hp, y3, rfl, y4⟩
 have y5 := Step.of0 z6 y3
 replace hp := hp y4
 refine pv (.int .i64 z2) ?_
 refine nt u7 (wp_block (sr (fun _ u9 => pv (.int .i64 z2) ?_)))
 refine pv (.bool (!decide (z2 = (0 : Int)))) ?_
 refine pv (.bool (!decide (z2 = (0 : Int)))) ?_
 refine nt u9 ?_
 refine cond_nd (z2 = (0 : Int)) (by kernel_rfl) (fun y6 => ?_) (fun y6 => ?_)
 ·
  replace hp := hp.1 y6
  refine sr (fun _ t0 => pv (.int .i64 z2) ?_)
  refine pv (.int .i64 z2) ?_
  refine nt t0 (wp_ret (blk_ret (then_ret ?_)))
  have t1 := Evo.then0 (Evo.then0 E0 (Step.evo z7)) y3
  refine end_ret hQ (.int .i64 z2) (by kernel_rfl) ?_
  exact ⟨z2, hp, t1, rfl, y4⟩
 ·
  replace hp := hp.2 y6
  refine seq_ (fun _ t2 => ?_)
  have z8 := Old.step (Old.step hXo z7) y5
  have v4 := Evo.then0 (Evo.then0 E0 (Step.evo z7)) y3
  have y7 := Sub.trans (Sub.trans hS (Step.up z7)) (Step.up y5)
  have v5 := OB.step0 v3 y5
  obtain ⟨t3, u2, hp⟩ := hp
  refine ground_ ?_
  refine join_ 16769024 (fun lq y8 => ∃ (y9 : List Nat) (z4 : Bool), (lq = [(13, (.bool z4))]) ∧ (Evo [] w y8) ∧ (Old y9 y8) ∧ (Sub X y9) ∧ (t3 z4)) (fun t9 v0 => ?_) ?_
  ·
   refine reg_ (pv (.pointer (some ⟨u1, 0, none⟩)) ?_)
   refine pw (.string c.Path) (x_load1 (by kernel_rfl) Tryz.isAgg9 (v5.2.1.cell' 0 rfl)) ?_
   refine pv (.string dir) ?_
   by_cases z9 : (c.Path : ByteArray) = dir
   ·
    replace hp := hp.1 z9
    refine pw (.bool true) (x_dt (p := (c.Path : ByteArray) = dir) (x_streq (by kernel_rfl) (by kernel_rfl)) z9) ?_
    refine pv (.bool true) ?_
    refine no ?_
    refine no ?_
    refine no ?_
    refine no ?_
    refine pv (.bool true) ?_
    refine pv (.bool true) ?_
    refine nil_ (then_normal (v0 _ _ _ ⟨[(13, (.bool true))], fit_mk (fun _ _ => rfl) (by kernel_rfl) (vs_cons (by kernel_rfl) vs_nil), ?_⟩))
    exact ⟨z6, true, rfl, v4, z8, y7, hp⟩
   ·
    replace hp := hp.2 z9
    refine pw (.bool false) (x_df (p := (c.Path : ByteArray) = dir) (x_streq (by kernel_rfl) (by kernel_rfl)) z9) ?_
    refine pv (.bool false) ?_
    refine pv (.pointer (some ⟨u1, 0, none⟩)) ?_
    refine pw (.string c.Path) (x_load1 (by kernel_rfl) Tryz.isAgg9 (v5.2.1.cell' 0 rfl)) ?_
    refine pv (.string dir) ?_
    refine sq (o_call 49 #[(.string c.Path), (.string dir)] (by kernel_rfl) (x_call Tryz.call49 (by kernel_rfl)) (path_Clash_w (X := []) (a := c.Path) (b := dir) (Old.nil _) z3 z5 hp) ?_)
    rintro _ s3 ⟨y0, hp, v6, rfl⟩
    have v7 := Step.of0 z6 v6
    refine pv (.bool y0) ?_
    refine pv (.bool y0) ?_
    refine nil_ ?_
    have t4 := Evo.then0 v4 v6
    have v2 := Old.step z8 v7
    have u3 := Sub.trans y7 (Step.up v7)
    refine then_normal (v0 _ _ _ ⟨[(13, (.bool y0))], fit_mk (fun _ _ => rfl) (by kernel_rfl) (vs_cons (by kernel_rfl) vs_nil), ?_⟩)
    exact ⟨z6, y0, rfl, t4, v2, u3, hp⟩
  ·
   rintro _ y8 s4 ⟨y9, z4, rfl, v8, t7, s0, u4⟩
   replace hp := u2 z4 u4
   refine then_normal (t2 _ _ _ _ ?_)
   refine cond_b z4 (by kernel_rfl) (fun v1 => ?_) (fun v1 => ?_)
   ·
    replace hp := hp.1 v1
    refine sr (fun _ t5 => pv (.int .i64 (5 : Int)) ?_)
    refine nt t5 (wp_ret (blk_ret (then_ret ?_)))
    refine end_ret hQ (.int .i64 (5 : Int)) (by kernel_rfl) ?_
    exact ⟨(5 : Int), hp, v8, rfl, (by decide : inR .i64 (5 : Int))⟩
   ·
    replace hp := hp.2 v1
    refine wp_skip (blk_normal (then_normal (u6 _ _ _ _ (sr (fun _ t6 => pv (.int .i64 (0 : Int)) ?_)))))
    refine nt t6 (wp_ret ?_)
    refine end_ret hQ (.int .i64 (0 : Int)) (by kernel_rfl) ?_
    exact ⟨(0 : Int), hp, v8, rfl, (by decide : inR .i64 (0 : Int))⟩
def journal_kind_p (c : S_journal_Change) (Q : Int → Prop) : Prop :=
 ((c.Path.size ≤ maxLen) → ((inR .i64 c.Mode) → ((c.Data.length ≤ 9223372036854775807) → (∃ z0 : Prop, (z0 → ((((c.Data.length : Int) > (65536 : Int)) → Q (4 : Int)) ∧ ((¬ ((c.Data.length : Int) > (65536 : Int))) → Q (0 : Int)))) ∧ (((c.Mode = (1 : Int)) → (z0)) ∧ ((¬ (c.Mode = (1 : Int))) → (((c.Mode = (2 : Int)) → (z0)) ∧ ((¬ (c.Mode = (2 : Int))) → Q (1 : Int)))))))))
set_option maxRecDepth 20000 in
set_option maxHeartbeats 4000000 in
theorem journal_kind_w {X : List Nat} {w : World} {c : S_journal_Change} {z0 : Option Addr} {z1 : Nat} {Q : Int → Prop} (v3 : Old X w) (z8 : c.Path.size ≤ maxLen) (z9 : inR .i64 c.Mode) (z3 : Sl (rInt .u8) X w z0 z1 c.Data) (hp : journal_kind_p c Q) :
  Calls Tryz.prog 45 #[(.agg #[(.string c.Path), (.bool c.Gone), (.int .i64 c.Mode), (.slice z0 c.Data.length z1)])] w (Ret fun v w' => ∃ (y8 : Int), Q y8 ∧ Evo [] w w' ∧ v = (.int .i64 y8) ∧ inR .i64 y8) := by
 have hXo := v3
 have E0 : Evo [] w w := RB.refl _ _ _
 have hS : Sub X X := Sub.refl _
 unfold journal_kind_p at hp
 refine enter_ Tryz.func45 rfl 13 [(0, (.agg #[(.string c.Path), (.bool c.Gone), (.int .i64 c.Mode), (.slice z0 c.Data.length z1)]))] (by kernel_rfl) (fun Qe hQ => ?_)
 replace hp := hp z8 z9 (Sl.len z3)
 refine sr (fun _ t2 => ?_)
 refine sq (o_newX [(.string c.Path), (.bool c.Gone), (.int .i64 c.Mode), (.slice z0 c.Data.length z1)] 34 (X := X) (B := w.heap.size) E0.size rfl (by kernel_rfl) ?_)
 intro y9 t8 v4 z6 y0 t5
 refine pv (.int .i64 (0 : Int)) ?_
 refine nt t2 (seq_ (fun _ v5 => sr (fun _ v6 => pv (.pointer (some ⟨y9, 2, none⟩)) ?_)))
 refine pw (.int .i64 c.Mode) (x_load1 (by kernel_rfl) Tryz.isAgg3 (y0.2.1.cell' 2 rfl)) ?_
 refine nt v6 (wp_block (seq_ (fun _ v7 => ?_)))
 have z2 := Sl.step z3 z6
 have z7 := Old.step hXo z6
 have y1 := Evo.then0 E0 (Step.evo z6)
 have y2 := Sub.trans hS (Step.up z6)
 obtain ⟨v8, v0, hp⟩ := hp
 refine ground_ ?_
 refine join_ 480 (fun lq z4 => ∃ (z5 : List Nat), (lq = []) ∧ (Evo [] w z4) ∧ (Old z5 z4) ∧ (Sub X z5) ∧ (Sl (rInt .u8) z5 z4 z0 z1 c.Data) ∧ (OB ([]) w.heap.size z5 z4 y9 [(.string c.Path), (.bool c.Gone), (.int .i64 c.Mode), (.slice z0 c.Data.length z1)] 34) ∧ (v8)) (fun t3 y3 => ?_) ?_
 ·
  refine wp_block (wp_block (seq_ (fun _ v9 => seq_ (fun _ u1 => sr (fun _ u2 => pv (.bool (decide (c.Mode = (1 : Int)))) ?_)))))
  refine pv (.bool (decide (c.Mode = (1 : Int)))) ?_
  refine nt u2 ?_
  refine cond_d (c.Mode = (1 : Int)) (by kernel_rfl) (fun y4 => ?_) (fun y4 => ?_)
  ·
   replace hp := hp.1 y4
   refine wp_exit ?_
   refine then_exit (then_exit (blk_exit (blk_normal (then_normal (y3 _ _ _ ⟨[], fit_mk (fun _ _ => rfl) (by kernel_rfl) vs_nil, ?_⟩)))))
   exact ⟨v4, rfl, y1, z7, y2, z2, y0, hp⟩
  ·
   replace hp := hp.2 y4
   refine wp_skip (then_normal (u1 _ _ _ _ (sr (fun _ u3 => pv (.bool (decide (c.Mode = (2 : Int)))) ?_))))
   refine pv (.bool (decide (c.Mode = (2 : Int)))) ?_
   refine nt u3 ?_
   refine cond_d (c.Mode = (2 : Int)) (by kernel_rfl) (fun y5 => ?_) (fun y5 => ?_)
   ·
    replace hp := hp.1 y5
    refine wp_exit ?_
    refine then_exit ?_
    refine blk_exit_ne rfl ?_
    refine blk_exit (then_normal (y3 _ _ _ ⟨[], fit_mk (fun _ _ => rfl) (by kernel_rfl) vs_nil, ?_⟩))
    exact ⟨v4, rfl, y1, z7, y2, z2, y0, hp⟩
   ·
    replace hp := hp.2 y5
    refine wp_skip (then_normal (v9 _ _ _ _ ?_))
    refine wp_exit ?_
    refine blk_exit_ne rfl ?_
    refine blk_exit_ne rfl ?_
    refine then_exit (then_exit (blk_exit (then_normal (v5 _ _ _ _ (sr (fun _ u4 => pv (.int .i64 (1 : Int)) ?_))))))
    refine nt u4 (wp_ret ?_)
    refine end_ret hQ (.int .i64 (1 : Int)) (by kernel_rfl) ?_
    exact ⟨(1 : Int), hp, y1, rfl, (by decide : inR .i64 (1 : Int))⟩
 ·
  rintro _ z4 t6 ⟨z5, rfl, y7, t1, t4, v1, u5, v2⟩
  replace hp := v0 v2
  refine then_normal (v7 _ _ _ _ (seq_ (fun _ t7 => seq_ (fun _ u6 => sr (fun _ u7 => pv (.pointer (some ⟨y9, 3, none⟩)) ?_)))))
  refine pw (.slice z0 c.Data.length z1) (x_load1 (by kernel_rfl) Tryz.isAgg32 (u5.2.1.cell' 3 rfl)) ?_
  refine pv (.int .i64 (c.Data.length : Int)) ?_
  refine pv (.bool (decide ((c.Data.length : Int) > (65536 : Int)))) ?_
  refine nt u7 ?_
  refine cond_d ((c.Data.length : Int) > (65536 : Int)) (by kernel_rfl) (fun y6 => ?_) (fun y6 => ?_)
  ·
   replace hp := hp.1 y6
   refine sr (fun _ u9 => pv (.int .i64 (4 : Int)) ?_)
   refine nt u9 (wp_ret (then_ret (then_ret (blk_ret (then_ret ?_)))))
   refine end_ret hQ (.int .i64 (4 : Int)) (by kernel_rfl) ?_
   exact ⟨(4 : Int), hp, y7, rfl, (by decide : inR .i64 (4 : Int))⟩
  ·
   replace hp := hp.2 y6
   refine wp_skip (then_normal (u6 _ _ _ _ (sr (fun _ t0 => pv (.int .i64 (0 : Int)) ?_))))
   refine nt t0 (wp_ret (then_ret (blk_ret (then_ret ?_))))
   refine end_ret hQ (.int .i64 (0 : Int)) (by kernel_rfl) ?_
   exact ⟨(0 : Int), hp, y7, rfl, (by decide : inR .i64 (0 : Int))⟩
def journal_Check_p (dir : ByteArray) (l : (List S_journal_Change)) (Q : Int → Prop) : Prop :=
 ((dir.size ≤ maxLen) → ((l.length ≤ 9223372036854775807) → (journal_folder_p dir (fun (y8 : Int) => ((inR .i64 y8) → (((¬ (y8 = (0 : Int))) → Q y8) ∧ ((y8 = (0 : Int)) → (∃ (z6 : (List (ByteArray × Bool)) → Int → Prop) (y6 : (List (ByteArray × Bool)) → Int → Nat), (z6 ([] : (List (ByteArray × Bool))) (0 : Int)) ∧ (∀ (z1 : (List (ByteArray × Bool))) (z0 : Int), (z6 z1 z0) → (inR .i64 z0) → (((z0 < (l.length : Int)) → ((inL l z0) ∧ ((((lget l z0).Path).size ≤ maxLen) → ((inR .i64 ((lget l z0).Mode)) → ((((lget l z0).Data).length ≤ 9223372036854775807) → (journal_change_p dir (lget l z0) (fun (z5 : Int) => ((inR .i64 z5) → (∃ z7 : Bool → Prop, (∀ (z8 : Bool), z7 z8 → (∃ z9 : Int → Prop, (∀ (z2 : Int), z9 z2 → (inR .i64 z2) → (∃ y0 : Bool → Prop, (∀ (y1 : Bool), y0 y1 → (∃ y2 : Int → Prop, (∀ (z3 : Int), y2 z3 → (inR .i64 z3) → (∃ y3 : Bool → Prop, (∀ (y4 : Bool), y3 y4 → (∃ y5 : Int → Prop, (∀ (z4 : Int), y5 z4 → (inR .i64 z4) → (((¬ (z4 = (0 : Int))) → Q z4) ∧ ((z4 = (0 : Int)) → ((inR .i64 (z0 + (1 : Int))) ∧ ((z6 (mset z1 ((lget l z0).Path) true) (z0 + (1 : Int))) ∧ y6 (mset z1 ((lget l z0).Path) true) (z0 + (1 : Int)) < y6 z1 z0))))) ∧ (((y4 = true) → (y5 (4 : Int))) ∧ ((y4 = false) → (y5 z3))))) ∧ (((z3 = (0 : Int)) → (y3 (decide (z0 ≥ (256 : Int))))) ∧ ((¬ (z3 = (0 : Int))) → (y3 false))))) ∧ (((y1 = true) → (journal_kind_p (lget l z0) (fun (y7 : Int) => ((inR .i64 y7) → (y2 y7))))) ∧ ((y1 = false) → (y2 z2))))) ∧ (((z2 = (0 : Int)) → (y0 (!((lget l z0).Gone)))) ∧ ((¬ (z2 = (0 : Int))) → (y0 false))))) ∧ (((z8 = true) → (z9 (6 : Int))) ∧ ((z8 = false) → (z9 z5))))) ∧ (((z5 = (0 : Int)) → (z7 (mgetD z1 ((lget l z0).Path)))) ∧ ((¬ (z5 = (0 : Int))) → (z7 false)))))))))))) ∧ ((¬ (z0 < (l.length : Int))) → Q (0 : Int))))))))))))
set_option maxRecDepth 20000 in
set_option maxHeartbeats 4000000 in
theorem journal_Check_w {X : List Nat} {w : World} {dir : ByteArray} {l : (List S_journal_Change)} {y5 : Option Addr} {y4 : Nat} {Q : Int → Prop} (i9 : Old X w) (t5 : dir.size ≤ maxLen) (o8 : Sl r_journal_Change X w y5 y4 l) (hp : journal_Check_p dir l Q) :
  Calls Tryz.prog 23 #[(.string dir), (.slice y5 l.length y4)] w (Ret fun v w' => ∃ (c1 : Int), Q c1 ∧ Evo [] w w' ∧ v = (.int .i64 c1) ∧ inR .i64 c1) := by
 have hXo := i9
 have E0 : Evo [] w w := RB.refl _ _ _
 have hS : Sub X X := Sub.refl _
 unfold journal_Check_p at hp
 refine enter_ Tryz.func23 rfl 56 [(0, (.string dir)), (1, (.slice y5 l.length y4))] (by kernel_rfl) (fun Qe hQ => ?_)
 replace hp := hp t5 (Sl.len o8)
 refine sr (fun _ b9 => pv (.int .i64 (0 : Int)) ?_)
 refine nt b9 (seq_ (fun _ f0 => sr (fun _ f1 => pv (.string dir) ?_)))
 refine sq (o_call 39 #[(.string dir)] rfl (x_call Tryz.call39 (by kernel_rfl)) (journal_folder_w (X := []) (dir := dir) (Old.nil _) t5 hp) ?_)
 rintro _ p5 ⟨s0, hp, j5, rfl, j6⟩
 have j7 := Step.of0 X j5
 replace hp := hp j6
 refine pv (.int .i64 s0) ?_
 refine nt f1 (sr (fun _ h0 => pv (.int .i64 s0) ?_))
 refine pv (.bool (!decide (s0 = (0 : Int)))) ?_
 refine nt h0 ?_
 refine cond_nd (s0 = (0 : Int)) (by kernel_rfl) (fun j8 => ?_) (fun j8 => ?_)
 ·
  replace hp := hp.1 j8
  refine sr (fun _ h1 => pv (.int .i64 s0) ?_)
  refine pv (.int .i64 s0) ?_
  refine nt h1 (wp_ret (then_ret ?_))
  have h2 := Evo.then0 E0 j5
  refine end_ret hQ (.int .i64 s0) (by kernel_rfl) ?_
  exact ⟨s0, hp, h2, rfl, j6⟩
 ·
  replace hp := hp.2 j8
  refine wp_skip (then_normal (f0 _ _ _ _ (sr (fun _ h3 => ?_))))
  have o9 := Evo.then0 E0 j5
  refine sq (o_mkmap (R := rBool) (ag := false) (X := X) (B := w.heap.size) o9.size rfl ?_)
  intro y9 p3 h4 q0 h5 p4
  refine pv (.map (some y9)) ?_
  refine nt h3 (seq_ (fun _ h6 => sr (fun _ h7 => pv (.slice y5 l.length y4) ?_)))
  refine pv (.int .i64 (l.length : Int)) ?_
  refine pv (.int .i64 (0 : Int)) ?_
  refine nt h7 (wp_block ?_)
  have l8 := Sl.step (Sl.step o8 j7) q0
  have j9 := Old.step (Old.step hXo j7) q0
  have c2 := Evo.then0 o9 (Step.evo q0)
  have l9 := Sub.trans (Sub.trans hS (Step.up j7)) (Step.up q0)
  obtain ⟨c3, g0, m0, hp⟩ := hp
  refine loop_ 72057594037666704 (fun kq lq t1 => ∃ (v7 : List Nat) (z3 : (List (ByteArray × Bool))) (z0 : Int), (lq = [(18, (.int .i64 z0))]) ∧ (kq = g0 z3 z0) ∧ (Evo [] w t1) ∧ (Old v7 t1) ∧ (Sub X v7) ∧ (Sl r_journal_Change v7 t1 y5 y4 l) ∧ (OM rBool false ([]) w.heap.size v7 t1 y9 z3) ∧ (inR .i64 z0) ∧ (c3 z3 z0)) (g0 ([] : (List (ByteArray × Bool))) (0 : Int)) [(18, (.int .i64 (0 : Int)))] (vs_cons (by kernel_rfl) vs_nil) ⟨h4, ([] : (List (ByteArray × Bool))), (0 : Int), rfl, rfl, c2, j9, l9, l8, h5, (by decide : inR .i64 (0 : Int)), m0⟩ ?_
  rintro _ _ t1 f2 ⟨v7, z3, z0, rfl, rfl, s8, g1, m1, q1, g2, m2, m3⟩ h8 m4
  replace hp := hp z3 z0 m3 m2
  refine sr (fun _ c4 => pv (.bool (decide (z0 < (l.length : Int)))) ?_)
  refine nt c4 (seq_ (fun _ c5 => ?_))
  refine cond_d (z0 < (l.length : Int)) (by kernel_rfl) (fun s9 => ?_) (fun s9 => ?_)
  ·
   replace hp := hp.1 s9
   refine wp_skip (then_normal (c5 _ _ _ _ (seq_ (fun _ c6 => wp_block (sr (fun _ c7 => pv (.int .i64 z0) ?_))))))
   obtain ⟨g3, hp⟩ := hp
   obtain ⟨c8, c9, h9, m5, b0, b1, m6, m7⟩ := Sl.atI q1 z0 g3
   obtain ⟨z1, z2, rfl, z7, y6, u3⟩ := r_journal_Change_open m6
   replace hp := hp z7 y6 (Sl.len u3)
   refine pw (.pointer (some ⟨c8, c9 + z0.toNat * 4, none⟩)) (x_ixA (m := l.length) (c := y4) (k := .i64) (i := z0) Tryz.underlying22 Tryz.sizeOf34 (by rw [← m5]; kernel_rfl) (by kernel_rfl) g3) ?_
   refine pw (.agg #[(.string ((lget l z0).Path)), (.bool ((lget l z0).Gone)), (.int .i64 ((lget l z0).Mode)), (.slice z1 (((lget l z0).Data).length) z2)]) (x_loadN [(.string ((lget l z0).Path)), (.bool ((lget l z0).Gone)), (.int .i64 ((lget l z0).Mode)), (.slice z1 (((lget l z0).Data).length) z2)] (by kernel_rfl) Tryz.isAgg34 Tryz.sizeOf34 m7) ?_
   refine sq (o_newX [(.string (ByteArray.mk #[])), (.bool false), (.int .i64 (0 : Int)), (.slice none 0 0)] 34 (X := v7) (B := w.heap.size) s8.size rfl (by kernel_rfl) ?_)
   intro z9 f3 r0 v8 g4 a0
   have a1 := a0 _ (OM.old g2)
   refine pv (.int .i64 z0) ?_
   have a2 := OM.step0 g2 v8
   have a3 := Evo.then0 s8 (Step.evo v8)
   refine sq (o_stB (o := 0) (v := (.agg #[(.string ((lget l z0).Path)), (.bool ((lget l z0).Gone)), (.int .i64 ((lget l z0).Mode)), (.slice z1 (((lget l z0).Data).length) z2)])) [(.string ((lget l z0).Path)), (.bool ((lget l z0).Gone)), (.int .i64 ((lget l z0).Mode)), (.slice z1 (((lget l z0).Data).length) z2)] rfl g4 (by kernel_rfl) (by kernel_rfl) Tryz.sizeOf34 rfl rfl rfl ?_)
   intro f4 v9 g5
   refine nt c7 (sr (fun _ a4 => pv (.string dir) ?_))
   refine pw (.agg #[(.string ((lget l z0).Path)), (.bool ((lget l z0).Gone)), (.int .i64 ((lget l z0).Mode)), (.slice z1 (((lget l z0).Data).length) z2)]) (x_loadN [(.string ((lget l z0).Path)), (.bool ((lget l z0).Gone)), (.int .i64 ((lget l z0).Mode)), (.slice z1 (((lget l z0).Data).length) z2)] (by kernel_rfl) Tryz.isAgg34 Tryz.sizeOf34 (g5.2.1.cells' 0 rfl)) ?_
   have u4 := Sl.step (Sl.step u3 v8) v9
   refine sq (o_call 44 #[(.string dir), (.agg #[(.string ((lget l z0).Path)), (.bool ((lget l z0).Gone)), (.int .i64 ((lget l z0).Mode)), (.slice z1 ((lget l z0).Data).length z2)])] rfl (x_call Tryz.call44 (by rw []; kernel_rfl)) (journal_change_w (X := []) (dir := dir) (c := (lget l z0)) (Old.nil _) t5 z7 y6 (Sl.less u4 (Sub.nil _)) hp) ?_)
   rintro _ a5 ⟨v0, hp, g6, rfl, q2⟩
   have u1 := Step.of0 r0 g6
   replace hp := hp q2
   refine pv (.int .i64 v0) ?_
   refine nt a4 (seq_ (fun _ a6 => seq_ (fun _ a7 => ?_)))
   have g7 := Evo.then0 (Evo.thenW a3 (Step.evo v9) g4.2.2) g6
   have s1 := Old.step (Old.step (Old.step g1 v8) v9) u1
   have q3 := Sub.trans (Sub.trans (Sub.trans m1 (Step.up v8)) (Step.up v9)) (Step.up u1)
   have q4 := Sl.step (Sl.step (Sl.step q1 v8) v9) u1
   have r1 := OM.step0 (OM.step a2 v9 a1) u1
   have u5 := Sl.step u4 u1
   have r2 := OB.step0 g5 u1
   obtain ⟨a8, m8, hp⟩ := hp
   refine ground_ ?_
   refine join_ 17112760320 (fun lq v1 => ∃ (y0 : List Nat) (t2 : Bool), (lq = [(33, (.bool t2))]) ∧ (Evo [] w v1) ∧ (Old y0 v1) ∧ (Sub X y0) ∧ (OM rBool false ([]) w.heap.size y0 v1 y9 z3) ∧ (Sl r_journal_Change y0 v1 y5 y4 l) ∧ (Sl (rInt .u8) y0 v1 z1 z2 ((lget l z0).Data)) ∧ (OB ([]) w.heap.size y0 v1 z9 [(.string ((lget l z0).Path)), (.bool ((lget l z0).Gone)), (.int .i64 ((lget l z0).Mode)), (.slice z1 (((lget l z0).Data).length) z2)] 34) ∧ (a8 t2)) (fun b2 q5 => ?_) ?_
   ·
    refine reg_ (pv (.int .i64 v0) ?_)
    by_cases t6 : v0 = (0 : Int)
    ·
     replace hp := hp.1 t6
     refine pw (.bool true) (x_dt (p := v0 = (0 : Int)) (by kernel_rfl) t6) ?_
     refine pv (.bool true) ?_
     refine pv (.map (some y9)) ?_
     refine pv (.pointer (some ⟨z9, 0, none⟩)) ?_
     refine pw (.string ((lget l z0).Path)) (x_load1 (by kernel_rfl) Tryz.isAgg9 (r2.2.1.cell' 0 rfl)) ?_
     obtain ⟨b3, m9, n0⟩ := MapAt.look r1.2.1 ((lget l z0).Path) [(.bool false)] (fun _ _ => rBool_mk)
     obtain rfl := m9
     refine pw (.bool (mgetD z3 ((lget l z0).Path))) (x_lookup (w0 := a5) (k := (lget l z0).Path) (v := (.bool (mgetD z3 ((lget l z0).Path)))) (z := (.bool false)) (b := mhas z3 ((lget l z0).Path)) (s := 1) (bts := 1) (by kernel_rfl) (by kernel_rfl) n0 rfl Tryz.underlying87 Tryz.underlying9 (by kernel_rfl)) ?_
     refine pv (.bool (mgetD z3 ((lget l z0).Path))) ?_
     refine nil_ (then_normal (q5 _ _ _ ⟨[(33, (.bool (mgetD z3 ((lget l z0).Path))))], fit_mk (fun _ _ => rfl) (by kernel_rfl) (vs_cons (by kernel_rfl) vs_nil), ?_⟩))
     exact ⟨r0, (mgetD z3 ((lget l z0).Path)), rfl, g7, s1, q3, r1, q4, u5, r2, hp⟩
    ·
     replace hp := hp.2 t6
     refine pw (.bool false) (x_df (p := v0 = (0 : Int)) (by kernel_rfl) t6) ?_
     refine pv (.bool false) ?_
     refine no ?_
     refine no ?_
     refine no ?_
     refine no ?_
     refine pv (.bool false) ?_
     refine nil_ (then_normal (q5 _ _ _ ⟨[(33, (.bool false))], fit_mk (fun _ _ => rfl) (by kernel_rfl) (vs_cons (by kernel_rfl) vs_nil), ?_⟩))
     exact ⟨r0, false, rfl, g7, s1, q3, r1, q4, u5, r2, hp⟩
   ·
    rintro _ v1 f5 ⟨y0, t2, rfl, g8, s2, q6, g9, q7, u6, d0, n1⟩
    replace hp := m8 t2 n1
    refine then_normal (a7 _ _ _ _ ?_)
    obtain ⟨a9, n2, hp⟩ := hp
    refine ground_ ?_
    refine join_ 512 (fun lq v2 => ∃ (y1 : List Nat) (z5 : Int), (lq = [(9, (.int .i64 z5))]) ∧ (Evo [] w v2) ∧ (Old y1 v2) ∧ (Sub X y1) ∧ (OM rBool false ([]) w.heap.size y1 v2 y9 z3) ∧ (Sl r_journal_Change y1 v2 y5 y4 l) ∧ (Sl (rInt .u8) y1 v2 z1 z2 ((lget l z0).Data)) ∧ (OB ([]) w.heap.size y1 v2 z9 [(.string ((lget l z0).Path)), (.bool ((lget l z0).Gone)), (.int .i64 ((lget l z0).Mode)), (.slice z1 (((lget l z0).Data).length) z2)] 34) ∧ (inR .i64 z5) ∧ (a9 z5)) (fun b4 q8 => ?_) ?_
    ·
     refine cond_b t2 (by kernel_rfl) (fun r3 => ?_) (fun r3 => ?_)
     ·
      replace hp := hp.1 r3
      refine reg_ (pv (.int .i64 (6 : Int)) ?_)
      refine nil_ (then_normal (q8 _ _ _ ⟨[(9, (.int .i64 (6 : Int)))], fit_mk (fun _ _ => rfl) (by kernel_rfl) (vs_cons (by kernel_rfl) vs_nil), ?_⟩))
      exact ⟨y0, (6 : Int), rfl, g8, s2, q6, g9, q7, u6, d0, (by decide : inR .i64 (6 : Int)), hp⟩
     ·
      replace hp := hp.2 r3
      refine wp_skip (then_normal (q8 _ _ _ ⟨[(9, (.int .i64 v0))], fit_mk (fun _ _ => rfl) (by kernel_rfl) (vs_cons (by kernel_rfl) vs_nil), ?_⟩))
      exact ⟨y0, v0, rfl, g8, s2, q6, g9, q7, u6, d0, q2, hp⟩
    ·
     rintro _ v2 f6 ⟨y1, z5, rfl, d1, s3, q9, d2, k0, u7, r4, k1, n3⟩
     replace hp := n2 z5 n3 k1
     refine then_normal (a6 _ _ _ _ (seq_ (fun _ e0 => seq_ (fun _ e1 => ?_))))
     obtain ⟨e2, n4, hp⟩ := hp
     refine ground_ ?_
     refine join_ 2181843386368 (fun lq v3 => ∃ (z8 : List Nat) (t3 : Bool), (lq = [(40, (.bool t3))]) ∧ (Evo [] w v3) ∧ (Old z8 v3) ∧ (Sub X z8) ∧ (OM rBool false ([]) w.heap.size z8 v3 y9 z3) ∧ (Sl r_journal_Change z8 v3 y5 y4 l) ∧ (Sl (rInt .u8) z8 v3 z1 z2 ((lget l z0).Data)) ∧ (OB ([]) w.heap.size z8 v3 z9 [(.string ((lget l z0).Path)), (.bool ((lget l z0).Gone)), (.int .i64 ((lget l z0).Mode)), (.slice z1 (((lget l z0).Data).length) z2)] 34) ∧ (e2 t3)) (fun b5 k2 => ?_) ?_
     ·
      refine reg_ (pv (.int .i64 z5) ?_)
      by_cases t7 : z5 = (0 : Int)
      ·
       replace hp := hp.1 t7
       refine pw (.bool true) (x_dt (p := z5 = (0 : Int)) (by kernel_rfl) t7) ?_
       refine pv (.bool true) ?_
       refine pv (.pointer (some ⟨z9, 1, none⟩)) ?_
       refine pw (.bool ((lget l z0).Gone)) (x_load1 (by kernel_rfl) Tryz.isAgg4 (r4.2.1.cell' 1 rfl)) ?_
       refine pv (.bool (!((lget l z0).Gone))) ?_
       refine pv (.bool (!((lget l z0).Gone))) ?_
       refine nil_ (then_normal (k2 _ _ _ ⟨[(40, (.bool (!((lget l z0).Gone))))], fit_mk (fun _ _ => rfl) (by kernel_rfl) (vs_cons (by kernel_rfl) vs_nil), ?_⟩))
       exact ⟨y1, (!((lget l z0).Gone)), rfl, d1, s3, q9, d2, k0, u7, r4, hp⟩
      ·
       replace hp := hp.2 t7
       refine pw (.bool false) (x_df (p := z5 = (0 : Int)) (by kernel_rfl) t7) ?_
       refine pv (.bool false) ?_
       refine no ?_
       refine no ?_
       refine no ?_
       refine pv (.bool false) ?_
       refine nil_ (then_normal (k2 _ _ _ ⟨[(40, (.bool false))], fit_mk (fun _ _ => rfl) (by kernel_rfl) (vs_cons (by kernel_rfl) vs_nil), ?_⟩))
       exact ⟨y1, false, rfl, d1, s3, q9, d2, k0, u7, r4, hp⟩
     ·
      rintro _ v3 f7 ⟨z8, t3, rfl, d3, s4, k3, d4, k4, y7, r5, n5⟩
      replace hp := n4 t3 n5
      refine then_normal (e1 _ _ _ _ ?_)
      obtain ⟨e3, n6, hp⟩ := hp
      refine ground_ ?_
      refine join_ 6597069767168 (fun lq v4 => ∃ (y2 : List Nat) (z6 : Int), (lq = [(9, (.int .i64 z6))]) ∧ (Evo [] w v4) ∧ (Old y2 v4) ∧ (Sub X y2) ∧ (OM rBool false ([]) w.heap.size y2 v4 y9 z3) ∧ (Sl r_journal_Change y2 v4 y5 y4 l) ∧ (Sl (rInt .u8) y2 v4 z1 z2 ((lget l z0).Data)) ∧ (OB ([]) w.heap.size y2 v4 z9 [(.string ((lget l z0).Path)), (.bool ((lget l z0).Gone)), (.int .i64 ((lget l z0).Mode)), (.slice z1 (((lget l z0).Data).length) z2)] 34) ∧ (inR .i64 z6) ∧ (e3 z6)) (fun b6 k5 => ?_) ?_
      ·
       refine cond_b t3 (by kernel_rfl) (fun r6 => ?_) (fun r6 => ?_)
       ·
        replace hp := hp.1 r6
        refine reg_ (pw (.agg #[(.string ((lget l z0).Path)), (.bool ((lget l z0).Gone)), (.int .i64 ((lget l z0).Mode)), (.slice z1 (((lget l z0).Data).length) z2)]) (x_loadN [(.string ((lget l z0).Path)), (.bool ((lget l z0).Gone)), (.int .i64 ((lget l z0).Mode)), (.slice z1 (((lget l z0).Data).length) z2)] (by kernel_rfl) Tryz.isAgg34 Tryz.sizeOf34 (r5.2.1.cells' 0 rfl)) ?_)
        refine sq (o_call 45 #[(.agg #[(.string ((lget l z0).Path)), (.bool ((lget l z0).Gone)), (.int .i64 ((lget l z0).Mode)), (.slice z1 ((lget l z0).Data).length z2)])] rfl (x_call Tryz.call45 (by rw []; kernel_rfl)) (journal_kind_w (X := []) (c := (lget l z0)) (Old.nil _) z7 y6 (Sl.less y7 (Sub.nil _)) hp) ?_)
        rintro _ f8 ⟨r7, hp, d5, rfl, k6⟩
        have u2 := Step.of0 z8 d5
        replace hp := hp k6
        refine pv (.int .i64 r7) ?_
        refine nil_ ?_
        have e4 := Evo.then0 d3 d5
        have d6 := Old.step s4 u2
        have n7 := Sub.trans k3 (Step.up u2)
        have e5 := OM.step0 d4 u2
        have n8 := Sl.step k4 u2
        have s5 := Sl.step y7 u2
        have e6 := OB.step0 r5 u2
        refine then_normal (k5 _ _ _ ⟨[(9, (.int .i64 r7))], fit_mk (fun _ _ => rfl) (by kernel_rfl) (vs_cons (by kernel_rfl) vs_nil), ?_⟩)
        exact ⟨z8, r7, rfl, e4, d6, n7, e5, n8, s5, e6, k6, hp⟩
       ·
        replace hp := hp.2 r6
        refine wp_skip (then_normal (k5 _ _ _ ⟨[(9, (.int .i64 z5))], fit_mk (fun _ _ => rfl) (by kernel_rfl) (vs_cons (by kernel_rfl) vs_nil), ?_⟩))
        exact ⟨z8, z5, rfl, d3, s4, k3, d4, k4, y7, r5, k1, hp⟩
      ·
       rintro _ v4 f9 ⟨y2, z6, rfl, d7, s6, k7, d8, k8, u9, d9, k9, n9⟩
       replace hp := n6 z6 n9 k9
       refine then_normal (e0 _ _ _ _ (seq_ (fun _ e7 => seq_ (fun _ e8 => ?_))))
       obtain ⟨e9, o0, hp⟩ := hp
       refine ground_ ?_
       refine join_ 554153860399104 (fun lq v5 => ∃ (y3 : List Nat) (t4 : Bool), (lq = [(48, (.bool t4))]) ∧ (Evo [] w v5) ∧ (Old y3 v5) ∧ (Sub X y3) ∧ (OM rBool false ([]) w.heap.size y3 v5 y9 z3) ∧ (Sl r_journal_Change y3 v5 y5 y4 l) ∧ (Sl (rInt .u8) y3 v5 z1 z2 ((lget l z0).Data)) ∧ (OB ([]) w.heap.size y3 v5 z9 [(.string ((lget l z0).Path)), (.bool ((lget l z0).Gone)), (.int .i64 ((lget l z0).Mode)), (.slice z1 (((lget l z0).Data).length) z2)] 34) ∧ (e9 t4)) (fun b7 j0 => ?_) ?_
       ·
        refine reg_ (pv (.int .i64 z6) ?_)
        by_cases t8 : z6 = (0 : Int)
        ·
         replace hp := hp.1 t8
         refine pw (.bool true) (x_dt (p := z6 = (0 : Int)) (by kernel_rfl) t8) ?_
         refine pv (.bool true) ?_
         refine pv (.int .i64 z0) ?_
         refine pv (.bool (decide (z0 ≥ (256 : Int)))) ?_
         refine pv (.bool (decide (z0 ≥ (256 : Int)))) ?_
         refine nil_ (then_normal (j0 _ _ _ ⟨[(48, (.bool (decide (z0 ≥ (256 : Int)))))], fit_mk (fun _ _ => rfl) (by kernel_rfl) (vs_cons (by kernel_rfl) vs_nil), ?_⟩))
         exact ⟨y2, (decide (z0 ≥ (256 : Int))), rfl, d7, s6, k7, d8, k8, u9, d9, hp⟩
        ·
         replace hp := hp.2 t8
         refine pw (.bool false) (x_df (p := z6 = (0 : Int)) (by kernel_rfl) t8) ?_
         refine pv (.bool false) ?_
         refine no ?_
         refine no ?_
         refine pv (.bool false) ?_
         refine nil_ (then_normal (j0 _ _ _ ⟨[(48, (.bool false))], fit_mk (fun _ _ => rfl) (by kernel_rfl) (vs_cons (by kernel_rfl) vs_nil), ?_⟩))
         exact ⟨y2, false, rfl, d7, s6, k7, d8, k8, u9, d9, hp⟩
       ·
        rintro _ v5 p0 ⟨y3, t4, rfl, l0, s7, j1, l1, j2, t0, l2, o1⟩
        replace hp := o0 t4 o1
        refine then_normal (e8 _ _ _ _ ?_)
        obtain ⟨i0, o2, hp⟩ := hp
        refine ground_ ?_
        refine join_ 512 (fun lq v6 => ∃ (y8 : List Nat) (z4 : Int), (lq = [(9, (.int .i64 z4))]) ∧ (Evo [] w v6) ∧ (Old y8 v6) ∧ (Sub X y8) ∧ (OM rBool false ([]) w.heap.size y8 v6 y9 z3) ∧ (Sl r_journal_Change y8 v6 y5 y4 l) ∧ (Sl (rInt .u8) y8 v6 z1 z2 ((lget l z0).Data)) ∧ (OB ([]) w.heap.size y8 v6 z9 [(.string ((lget l z0).Path)), (.bool ((lget l z0).Gone)), (.int .i64 ((lget l z0).Mode)), (.slice z1 (((lget l z0).Data).length) z2)] 34) ∧ (inR .i64 z4) ∧ (i0 z4)) (fun b8 j3 => ?_) ?_
        ·
         refine cond_b t4 (by kernel_rfl) (fun r8 => ?_) (fun r8 => ?_)
         ·
          replace hp := hp.1 r8
          refine reg_ (pv (.int .i64 (4 : Int)) ?_)
          refine nil_ (then_normal (j3 _ _ _ ⟨[(9, (.int .i64 (4 : Int)))], fit_mk (fun _ _ => rfl) (by kernel_rfl) (vs_cons (by kernel_rfl) vs_nil), ?_⟩))
          exact ⟨y3, (4 : Int), rfl, l0, s7, j1, l1, j2, t0, l2, (by decide : inR .i64 (4 : Int)), hp⟩
         ·
          replace hp := hp.2 r8
          refine wp_skip (then_normal (j3 _ _ _ ⟨[(9, (.int .i64 z6))], fit_mk (fun _ _ => rfl) (by kernel_rfl) (vs_cons (by kernel_rfl) vs_nil), ?_⟩))
          exact ⟨y3, z6, rfl, l0, s7, j1, l1, j2, t0, l2, k9, hp⟩
        ·
         rintro _ v6 p1 ⟨y8, z4, rfl, l3, l4, o3, l5, o4, c0, i1, j4, o5⟩
         replace hp := o2 z4 o5 j4
         refine then_normal (e7 _ _ _ _ (seq_ (fun _ i2 => sr (fun _ i3 => pv (.int .i64 z4) ?_))))
         refine pv (.bool (!decide (z4 = (0 : Int)))) ?_
         refine nt i3 ?_
         refine cond_nd (z4 = (0 : Int)) (by kernel_rfl) (fun r9 => ?_) (fun r9 => ?_)
         ·
          replace hp := hp.1 r9
          refine sr (fun _ i4 => pv (.int .i64 z4) ?_)
          refine pv (.int .i64 z4) ?_
          refine nt i4 (wp_ret (then_ret (blk_ret (then_ret (then_ret (blk_ret (then_ret ?_)))))))
          refine end_ret hQ (.int .i64 z4) (by kernel_rfl) ?_
          exact ⟨z4, hp, l3, rfl, j4⟩
         ·
          replace hp := hp.2 r9
          refine wp_skip (then_normal (i2 _ _ _ _ (reg_ (pv (.map (some y9)) ?_))))
          refine pv (.pointer (some ⟨z9, 0, none⟩)) ?_
          refine pw (.string ((lget l z0).Path)) (x_load1 (by kernel_rfl) Tryz.isAgg9 (i1.2.1.cell' 0 rfl)) ?_
          refine sq (o_mapset (cs := [(.bool true)]) (d := true) rfl l5 Tryz.underlying87 Tryz.underlying9 (by kernel_rfl) (by kernel_rfl) (by kernel_rfl) rBool_mk z7 ?_)
          intro p2 t9 i5
          refine nil_ (blk_normal (then_normal (c6 _ _ _ _ (reg_ ?_))))
          obtain ⟨l6, hp⟩ := hp
          refine pw (.int .i64 (z0 + (1 : Int))) (x_add2 (k := .i64) (a := z0) (b := (1 : Int)) (z0 + (1 : Int)) (by kernel_rfl) (by kernel_rfl) (wrap_inR l6)) ?_
          refine pv (.int .i64 (z0 + (1 : Int))) ?_
          refine nil_ ?_
          have i6 := Evo.thenW l3 (Step.evo t9) l5.2.2
          have l7 := Old.step l4 t9
          have o6 := Sub.trans o3 (Step.up t9)
          have o7 := Sl.step o4 t9
          refine then_normal (m4 _ _ _ ⟨_, [(18, (.int .i64 (z0 + (1 : Int))))], hp.2, fit_mk (AgB.nest (AgB.look (AgB.nest (AgB.look (AgB.nest (AgB.look (AgB.nest (AgB.look (AgB.nest (AgB.look (AgB.nest (AgB.look (AgB.mix _ _ _) (by kernel_rfl)) (by kernel_rfl) (by kernel_rfl)) (by kernel_rfl)) (by kernel_rfl) (by kernel_rfl)) (by kernel_rfl)) (by kernel_rfl) (by kernel_rfl)) (by kernel_rfl)) (by kernel_rfl) (by kernel_rfl)) (by kernel_rfl)) (by kernel_rfl) (by kernel_rfl)) (by kernel_rfl)) (by kernel_rfl) (by kernel_rfl)) (by kernel_rfl) (vs_cons (by kernel_rfl) vs_nil), ?_⟩)
          exact ⟨y8, (mset z3 ((lget l z0).Path) true), (z0 + (1 : Int)), rfl, rfl, i6, l7, o6, o7, i5, l6, hp.1⟩
  ·
   replace hp := hp.2 s9
   refine wp_exit ?_
   refine then_exit (then_exit (blk_exit (then_normal (h6 _ _ _ _ (sr (fun _ i7 => pv (.int .i64 (0 : Int)) ?_))))))
   refine nt i7 (wp_ret ?_)
   refine end_ret hQ (.int .i64 (0 : Int)) (by kernel_rfl) ?_
   exact ⟨(0 : Int), hp, s8, rfl, (by decide : inR .i64 (0 : Int))⟩
def slices_Clip_string_string_p (s : (List ByteArray)) (Q : (List ByteArray) → Prop) : Prop :=
 ((s.length ≤ 9223372036854775807) → ((0 ≤ (s.length : Int) ∧ (s.length : Int) ≤ (s.length : Int)) ∧ Q s))
theorem slices_Clip_string_string_keep {w : World} {a : Option Addr} {m c : Nat} (hmc : m ≤ c) : Calls Tryz.prog 59 #[(.slice a m c)] w (Ret fun v w' => v = (.slice a m m) ∧ w = w') := by
 refine enter_ Tryz.func59 rfl 9 [(0, (.slice a m c))] (by kernel_rfl) (fun Qe hQ => ?_)
 refine sr (fun _ z0 => pv (.slice none 0 0) ?_)
 refine nt z0 (sr (fun _ z1 => pv (.slice a m c) ?_))
 refine pv (.slice a m c) ?_
 refine pv (.int .i64 (m : Int)) ?_
 refine pv (.slice a m c) ?_
 refine pv (.int .i64 (m : Int)) ?_
 refine sq (o_slice3K (a := a) (m := m) (c := c) (k := .i64) (k' := .i64) Tryz.underlying65 Tryz.sizeOf9 (by kernel_rfl) hmc rfl (by kernel_rfl) (by kernel_rfl) ?_)
 refine pv (.slice a m m) ?_
 refine nt z1 (wp_ret ?_)
 refine end_ret hQ (.slice a m m) (by kernel_rfl) ?_
 exact ⟨rfl, rfl⟩
def simfs_FS_List_p (f_ : S_simfs_FS) (Q : S_simfs_FS → (List ByteArray) → Int → Prop) : Prop :=
 ((f_.pending.length ≤ 9223372036854775807) → ((inR .i64 f_.quota) → ((inR .i64 f_.now) → ((inR .i64 f_.inodes) → ((inR .i64 f_.ops_) → ((inR .i64 f_.left) → ((f_.keep.length ≤ 9223372036854775807) → (((f_.off = true) → Q f_ ([] : List ByteArray) (13 : Int)) ∧ ((f_.off = false) → (((f_.files.map (·.1)).Nodup ∧ f_.files.length ≤ 8796093022208) ∧ Q f_ (keysB f_.files) (0 : Int)))))))))))
set_option maxRecDepth 20000 in
set_option maxHeartbeats 4000000 in
theorem simfs_FS_List_w {X : List Nat} {w : World} {f_ : S_simfs_FS} {z0 : Nat} {z7 : List Nat} {Q : S_simfs_FS → (List ByteArray) → Int → Prop} (s0 : Old X w) (v2 : MO o_simfs_FS 62 z7 w.heap.size X w z7 z0 f_) (hp : simfs_FS_List_p f_ Q) :
  Calls Tryz.prog 31 #[(.pointer (some ⟨z0, 0, none⟩))] w (Ret fun v w' => ∃ (s1 : S_simfs_FS) (v3 : (List ByteArray)) (t0 : Int), Q s1 v3 t0 ∧ ∃ (X' : List Nat) (v6 : List Nat) (t1 : Option Addr) (r9 : Nat), Step X w z7 X' w' ∧ v = .tuple #[.slice t1 v3.length v3.length, (.int .i64 t0)] ∧ MO o_simfs_FS 62 z7 w.heap.size X' w' v6 z0 s1 ∧ OS rStr ([]) w.heap.size X' w' 9 t1 v3.length r9 v3 ∧ inR .i64 t0 ∧ Ap v6 (blkL t1)) := by
 have hXo := s0
 have E0 : Evo z7 w w := RB.refl _ _ _
 have hS : Sub X X := Sub.refl _
 have hN : News X w X w := News.refl _ _
 have v7 : Sub z7 X := MO.mem v2
 unfold simfs_FS_List_p at hp
 refine enter_ Tryz.func31 rfl 15 [(0, (.pointer (some ⟨z0, 0, none⟩)))] (by kernel_rfl) (fun Qe hQ => ?_)
 refine sr (fun _ q0 => pv (.slice none 0 0) ?_)
 refine pv (.int .i64 (0 : Int)) ?_
 refine nt q0 (seq_ (fun _ q1 => sr (fun _ q2 => pv (.pointer (some ⟨z0, 0, none⟩)) ?_)))
 refine pv (.pointer (some ⟨z0, 0, none⟩)) ?_
 obtain ⟨t9, y2, q3, q4, q5, t2, t3, y9, y4, z9, y6, z2, z8, z1, z4, z5, z6, q6, q7, q8, q9, v8, v9, u1, u2, u3, u4⟩ := o_simfs_FS_open v2
 replace hp := hp (OS.len y6) z2 z8 z1 z4 z5 (Sl.len z6)
 refine pv (.pointer (some ⟨z0, 7, none⟩)) ?_
 refine pw (.bool f_.off) (x_load1 (by kernel_rfl) Tryz.isAgg4 (y9.2.1.cell' 7 rfl)) ?_
 refine nt q2 ?_
 refine cond_b f_.off (by kernel_rfl) (fun v4 => ?_) (fun v4 => ?_)
 ·
  replace hp := hp.1 v4
  refine sr (fun _ s2 => pv (.slice none 0 0) ?_)
  refine pv (.int .i64 (13 : Int)) ?_
  refine nt s2 (wp_ret (then_ret ?_))
  obtain ⟨s3, s4, k0⟩ := MO.pack (o_simfs_FS_mk y9 y4 z9 y6 z2 z8 z1 z4 z5 z6 rfl v8 v9 u1 u2 u3 u4)
  refine end_ret hQ (.tuple #[(.slice none 0 0), (.int .i64 (13 : Int))]) (by kernel_rfl) ?_
  exact ⟨f_, ([] : List ByteArray), (13 : Int), hp, X, s3, none, 0, step_of E0 v7 hS hN, rfl, s4, (OS.nil _ _ _ _), (by decide : inR .i64 (13 : Int)), (Ap.nil_r _)⟩
 ·
  replace hp := hp.2 v4
  refine wp_skip (then_normal (q1 _ _ _ _ (sr (fun _ s5 => pv (.pointer (some ⟨z0, 0, none⟩)) ?_))))
  refine pv (.pointer (some ⟨z0, 0, none⟩)) ?_
  refine pv (.pointer (some ⟨z0, 1, none⟩)) ?_
  refine pw (.map (some y2)) (x_load1 (by kernel_rfl) Tryz.isAgg59 (y9.2.1.cell' 1 rfl)) ?_
  refine sq (o_call 61 #[(.map (some y2))] rfl (x_call Tryz.call61 (by kernel_rfl)) (mkeys_w (X := X) (B := w.heap.size) E0.size) ?_)
  rintro _ k1 ⟨t4, s6, rfl, y0, s7, k2⟩
  have z3 := OM.step0 z9 y0
  obtain ⟨s8, hp⟩ := hp
  have u5 := OB.step0 y9 y0
  have y3 := OM.step0 y4 y0
  have v5 := OS.step0 y6 y0
  have u6 := Evo.then0 E0 (Step.evo y0)
  refine sq (o_call 60 #[(.func (.func 83) #[] #[(.pointer (some ⟨t4, 0, none⟩))])] rfl (x_call Tryz.call60 (by kernel_rfl)) (mkeys_sorted_w (X := s6) (B := w.heap.size) u6.size s7.2.1 z3.2.1 s8) ?_)
  rintro _ k3 ⟨v0, u7, s9, rfl, y1, u9, v1⟩
  have r0 := v1 _ (OB.old u5)
  have r1 := v1 _ (OM.old y3)
  have r2 := v1 _ (OM.old z3)
  have r3 := v1 _ (OS.old v5)
  refine sq (o_call 59 #[(.slice v0 ((keysB f_.files).length) u7)] rfl (x_call Tryz.call59 (by kernel_rfl)) (slices_Clip_string_string_keep (OS.nc u9)) ?_)
  rintro _ _ ⟨rfl, rfl⟩
  refine pv (.slice v0 ((keysB f_.files).length) ((keysB f_.files).length)) ?_
  refine pv (.int .i64 (0 : Int)) ?_
  refine nt s5 (wp_ret ?_)
  have r4 := Evo.then0 u6 (Step.evo y1)
  have t5 := Sub.trans (Sub.trans hS (Step.up y0)) (Step.up y1)
  have t6 := News.step (News.step hN y0) y1
  have r5 := OB.step0 u5 y1
  have y7 := OM.step0 y3 y1
  have y5 := OM.step0 z3 y1
  have t7 := OS.step0 v5 y1
  have y8 := Sl.step (Sl.step z6 y0) y1
  obtain ⟨r6, r7, t8⟩ := MO.pack (o_simfs_FS_mk r5 y7 y5 t7 z2 z8 z1 z4 z5 y8 rfl v8 v9 u1 u2 u3 u4)
  have r8 := t8 _ (Ap.cons (Ap.symm r0) (Ap.app (Ap.symm r1) (Ap.app (Ap.symm r2) (Ap.app (Ap.symm r3) (Ap.app (Ap.nil_r _) (Ap.app (Ap.nil_r _) (Ap.app (Ap.nil_r _) (Ap.app (Ap.nil_r _) (Ap.app (Ap.nil_r _) (Ap.app (Ap.nil_r _) (Ap.app (Ap.nil_r _) (Ap.nil_r _))))))))))))
  refine end_ret hQ (.tuple #[(.slice v0 ((keysB f_.files).length) ((keysB f_.files).length)), (.int .i64 (0 : Int))]) (by kernel_rfl) ?_
  exact ⟨f_, (keysB f_.files), (0 : Int), hp, s9, r6, v0, u7, step_of r4 v7 t5 t6, rfl, r7, u9, (by decide : inR .i64 (0 : Int)), (Ap.symm r8)⟩
def journal_own_p (f_ : S_simfs_FS) (dir : ByteArray) (Q : S_simfs_FS → (List ByteArray) → Int → Prop) : Prop :=
 ((dir.size ≤ maxLen) → (simfs_FS_List_p f_ (fun (z1 : S_simfs_FS) (z2 : (List ByteArray)) (z0 : Int) => ((z2.length ≤ 9223372036854775807) → ((inR .i64 z0) → (((¬ (z0 = (0 : Int))) → Q z1 ([] : List ByteArray) z0) ∧ ((z0 = (0 : Int)) → ((dir.size < maxLen) ∧ Q z1 (z2.filter (undB dir)) (0 : Int)))))))))
set_option maxRecDepth 20000 in
set_option maxHeartbeats 4000000 in
theorem journal_own_w {X : List Nat} {w : World} {f_ : S_simfs_FS} {dir : ByteArray} {z3 : Nat} {z4 : List Nat} {Q : S_simfs_FS → (List ByteArray) → Int → Prop} (v5 : Old X w) (z8 : MO o_simfs_FS 62 z4 w.heap.size X w z4 z3 f_) (v3 : dir.size ≤ maxLen) (hp : journal_own_p f_ dir Q) :
  Calls Tryz.prog 40 #[(.pointer (some ⟨z3, 0, none⟩)), (.string dir)] w (Ret fun v w' => ∃ (t3 : S_simfs_FS) (u3 : (List ByteArray)) (u4 : Int), Q t3 u3 u4 ∧ ∃ (X' : List Nat) (t4 : List Nat) (y1 : Option Addr) (y2 : Nat), Step X w z4 X' w' ∧ v = .tuple #[(.slice y1 u3.length y2), (.int .i64 u4)] ∧ MO o_simfs_FS 62 z4 w.heap.size X' w' t4 z3 t3 ∧ Sl rStr X' w' y1 y2 u3 ∧ inR .i64 u4) := by
 have hXo := v5
 have E0 : Evo z4 w w := RB.refl _ _ _
 have hS : Sub X X := Sub.refl _
 have hN : News X w X w := News.refl _ _
 have v6 : Sub z4 X := MO.mem z8
 unfold journal_own_p at hp
 refine enter_ Tryz.func40 rfl 19 [(0, (.pointer (some ⟨z3, 0, none⟩))), (1, (.string dir))] (by kernel_rfl) (fun Qe hQ => ?_)
 replace hp := hp v3
 refine sr (fun _ r2 => ?_)
 refine sq (o_newX [(.string dir)] 9 (X := X) (B := w.heap.size) E0.size rfl (by kernel_rfl) ?_)
 intro t5 r7 r3 y3 v7 t6
 have t7 := t6 _ (MO.old z8)
 refine pv (.slice none 0 0) ?_
 refine pv (.int .i64 (0 : Int)) ?_
 refine nt r2 (sr (fun _ t8 => pv (.pointer (some ⟨z3, 0, none⟩)) ?_))
 have z5 := MO.step0 z8 y3
 have v4 := Old.step hXo y3
 have z9 := Evo.then0 E0 (Step.evo y3)
 have y4 := Sub.trans hS (Step.up y3)
 have y5 := News.step hN y3
 refine sq (o_call 31 #[(.pointer (some ⟨z3, 0, none⟩))] rfl (x_call Tryz.call31 (by kernel_rfl)) (simfs_FS_List_w (X := r3) (f_ := f_) v4 (MO.re z5 (Wr.self _ _ (Sub.refl _))) hp) ?_)
 rintro _ r4 ⟨y6, z0, z1, hp, v8, v9, z2, r5, z6, rfl, u1, y7, y8, y9⟩
 have v0 := MO.re u1 (Wr.trans u1.wr z5.wr z9.size)
 have y0 := OS.re y7 (Wr.trans y7.wr (Wr.nil [] _) z9.size)
 have t9 := Ap.grow y7.wr (Ap.nil_r _) (OB.old v7) (Nat.le_refl _)
 replace hp := hp (OS.len y0) y8
 refine pv (.tuple #[(.slice z2 z0.length z0.length), (.int .i64 z1)]) ?_
 refine pv (.slice z2 z0.length z0.length) ?_
 refine pv (.int .i64 z1) ?_
 refine pv (.slice z2 z0.length z0.length) ?_
 refine pv (.int .i64 z1) ?_
 refine nt t8 (seq_ (fun _ s0 => sr (fun _ s1 => pv (.int .i64 z1) ?_)))
 refine pv (.bool (!decide (z1 = (0 : Int)))) ?_
 refine nt s1 ?_
 refine cond_nd (z1 = (0 : Int)) (by kernel_rfl) (fun v1 => ?_) (fun v1 => ?_)
 ·
  replace hp := hp.1 v1
  refine sr (fun _ s2 => pv (.int .i64 z1) ?_)
  refine pv (.slice none 0 0) ?_
  refine pv (.int .i64 z1) ?_
  refine nt s2 (wp_ret (then_ret ?_))
  have s3 := Evo.thenW z9 (Step.evo z6) z5.wr
  have u5 := Sub.trans y4 (Step.up z6)
  have u6 := News.step y5 z6
  refine end_ret hQ (.tuple #[(.slice none 0 0), (.int .i64 z1)]) (by kernel_rfl) ?_
  exact ⟨y6, ([] : List ByteArray), z1, hp, v8, v9, none, 0, step_of s3 v6 u5 u6, rfl, v0, Sl.nil, y8⟩
 ·
  replace hp := hp.2 v1
  refine wp_skip (then_normal (s0 _ _ _ _ (sr (fun _ s4 => pv (.slice z2 z0.length z0.length) ?_))))
  refine pv (.func (.func 72) #[] #[(.pointer (some ⟨t5, 0, none⟩))]) ?_
  obtain ⟨s5, hp⟩ := hp
  have s6 := Evo.thenW z9 (Step.evo z6) z5.wr
  have u7 := Sub.trans y4 (Step.up z6)
  have u9 := News.step y5 z6
  have s7 := OB.step v7 z6 (Ap.symm t7)
  have t0 := OS.apold y0 v5
  refine sq (o_call 71 #[(.slice z2 z0.length z0.length), (.func (.func 72) #[] #[(.pointer (some ⟨t5, 0, none⟩))])] rfl (x_call Tryz.call71 (by kernel_rfl)) (delf_w (X := v8) (B := w.heap.size) (l := z0) (a := z2) (dir := dir) y0 s7.2.1 t9 s5) ?_)
  rintro _ r6 ⟨s8, rfl, z7, u2, s9, v2⟩
  refine pv (.slice z2 ((z0.filter (undB dir)).length) z0.length) ?_
  refine pv (.int .i64 (0 : Int)) ?_
  refine nt s4 (wp_ret ?_)
  have r0 := Evo.thenW s6 (Step.evo z7) (Wr.of y0.2.2)
  have t1 := v2 _ t0 (Sub.trans u7 (Step.up z7))
  have t2 := News.less (News.step u9 z7) u2
  have r1 := MO.less (MO.step v0 z7 y9) u2 (v2 _ y9 (MO.mem (MO.step v0 z7 y9)))
  refine end_ret hQ (.tuple #[(.slice z2 ((z0.filter (undB dir)).length) z0.length), (.int .i64 (0 : Int))]) (by kernel_rfl) ?_
  exact ⟨y6, (z0.filter (undB dir)), (0 : Int), hp, s8, v9, z2, z0.length, step_of r0 v6 t1 t2, rfl, r1, s9, (by decide : inR .i64 (0 : Int))⟩
end Go.Proofs.YtlkfoebophjhfaaGreatDoor
