/- Walks of functions: what each asks and computes, as a plain predicate, and the contract from it. -/
import Derived.Test.YtaolmfepdmgohaaGreatDoorChecked
import Derived.Test.YtaolmfepdmgohaaGreatDoorStEq
import Derived.Test.YtaolmfepdmgohaaGreatDoorLib
import Derived.Test.YtaolmfepdmgohaaGreatDoorLibS
import Derived.Test.YtaolmfepdmgohaaGreatDoorShelf
namespace Go.Proofs.YtaolmfepdmgohaaGreatDoor
open Go
structure S_rectolaw5_Act where
 Op : Int
 Mode : Int
 N : Int
 P_ : ByteArray
 Q_ : ByteArray
 B : (List Int)
 Keep : (List Bool)
instance : Inhabited S_rectolaw5_Act := ⟨⟨default, default, default, default, default, default, default⟩⟩
def r_rectolaw5_Act : Rep S_rectolaw5_Act := rMap (fun d => (d.Op, (d.Mode, (d.N, (d.P_, (d.Q_, (d.B, d.Keep))))))) (rPair (rInt .i64) (rPair (rInt .i64) (rPair (rInt .i64) (rPair rStr (rPair rStr (rPair (rSl (rInt .u8)) (rSl rBool)))))))
theorem r_rectolaw5_Act_open {X : List Nat} {w : World} {cs : List Value} {d : S_rectolaw5_Act} (h : r_rectolaw5_Act.ok X w cs d) : ∃ (z1 : Option Addr) (z2 : Nat) (z3 : Option Addr) (z0 : Nat), cs = [.int .i64 d.Op, .int .i64 d.Mode, .int .i64 d.N, .string d.P_, .string d.Q_, .slice z1 d.B.length z2, .slice z3 d.Keep.length z0] ∧ inR .i64 d.Op ∧ inR .i64 d.Mode ∧ inR .i64 d.N ∧ d.P_.size ≤ maxLen ∧ d.Q_.size ≤ maxLen ∧ Sl (rInt .u8) X w z1 z2 d.B ∧ Sl rBool X w z3 z0 d.Keep := by
 obtain ⟨y1, y2, rfl, ⟨rfl, z5⟩, ⟨y3, y4, rfl, ⟨rfl, z6⟩, ⟨y5, y6, rfl, ⟨rfl, z7⟩, ⟨y7, y8, rfl, ⟨rfl, z8⟩, ⟨y9, v0, rfl, ⟨rfl, z9⟩, ⟨v1, v2, rfl, ⟨z1, z2, rfl, y0⟩, ⟨z3, z0, rfl, z4⟩⟩⟩⟩⟩⟩⟩ := h
 exact ⟨z1, z2, z3, z0, rfl, z5, z6, z7, z8, z9, y0, z4⟩
structure S_simfs_file where
 mode : Int
 time : Int
 inode : Int
 b : (List Int)
instance : Inhabited S_simfs_file := ⟨⟨default, default, default, default⟩⟩
def r_simfs_file : Rep S_simfs_file := rMap (fun d => (d.mode, (d.time, (d.inode, d.b)))) (rPair (rInt .i64) (rPair (rInt .i64) (rPair (rInt .i64) (rSl (rInt .u8)))))
theorem r_simfs_file_open {X : List Nat} {w : World} {cs : List Value} {d : S_simfs_file} (h : r_simfs_file.ok X w cs d) : ∃ (z0 : Option Addr) (z1 : Nat), cs = [.int .i64 d.mode, .int .i64 d.time, .int .i64 d.inode, .slice z0 d.b.length z1] ∧ inR .i64 d.mode ∧ inR .i64 d.time ∧ inR .i64 d.inode ∧ Sl (rInt .u8) X w z0 z1 d.b := by
 obtain ⟨z6, z7, rfl, ⟨rfl, z2⟩, ⟨z9, z8, rfl, ⟨rfl, z3⟩, ⟨y0, y1, rfl, ⟨rfl, z4⟩, ⟨z0, z1, rfl, z5⟩⟩⟩⟩ := h
 exact ⟨z0, z1, rfl, z2, z3, z4, z5⟩
theorem r_simfs_file_mk {X : List Nat} {w : World} {modeq : Int} {timeq : Int} {inodeq : Int} {bq : (List Int)} {z0 : Option Addr} {z1 : Nat} {z2 : Nat} (z3 : inR .i64 modeq) (z4 : inR .i64 timeq) (z5 : inR .i64 inodeq) (z6 : Sl (rInt .u8) X w z0 z1 bq) (h6n : z2 = bq.length) : r_simfs_file.ok X w [.int .i64 modeq, .int .i64 timeq, .int .i64 inodeq, .slice z0 z2 z1] ⟨modeq, timeq, inodeq, bq⟩ :=
 (rMap_mk _ (rPair_mk (rInt_mk z3) (rPair_mk (rInt_mk z4) (rPair_mk (rInt_mk z5) (rSl_mk' z6 h6n)))))
structure S_simfs_op where
 kind : Int
 path : ByteArray
 to_ : ByteArray
 file : S_simfs_file
instance : Inhabited S_simfs_op := ⟨⟨default, default, default, default⟩⟩
def r_simfs_op : Rep S_simfs_op := rMap (fun d => (d.kind, (d.path, (d.to_, d.file)))) (rPair (rInt .i64) (rPair rStr (rPair rStr r_simfs_file)))
theorem r_simfs_op_open {X : List Nat} {w : World} {cs : List Value} {d : S_simfs_op} (h : r_simfs_op.ok X w cs d) : ∃ (z0 : Option Addr) (z1 : Nat), cs = [.int .i64 d.kind, .string d.path, .string d.to_, .int .i64 d.file.mode, .int .i64 d.file.time, .int .i64 d.file.inode, .slice z0 d.file.b.length z1] ∧ inR .i64 d.kind ∧ d.path.size ≤ maxLen ∧ d.to_.size ≤ maxLen ∧ inR .i64 d.file.mode ∧ inR .i64 d.file.time ∧ inR .i64 d.file.inode ∧ Sl (rInt .u8) X w z0 z1 d.file.b := by
 obtain ⟨z9, y0, rfl, ⟨rfl, z2⟩, ⟨y1, y2, rfl, ⟨rfl, z3⟩, ⟨y3, y4, rfl, ⟨rfl, z4⟩, ⟨y5, y6, rfl, ⟨rfl, z5⟩, ⟨y7, y8, rfl, ⟨rfl, z6⟩, ⟨y9, v0, rfl, ⟨rfl, z7⟩, ⟨z0, z1, rfl, z8⟩⟩⟩⟩⟩⟩⟩ := h
 exact ⟨z0, z1, rfl, z2, z3, z4, z5, z6, z7, z8⟩
theorem r_simfs_op_mk {X : List Nat} {w : World} {kindq : Int} {pathq : ByteArray} {to_q : ByteArray} {fileq : S_simfs_file} {z1 : Option Addr} {z2 : Nat} {z0 : Nat} (z3 : inR .i64 kindq) (z4 : pathq.size ≤ maxLen) (z5 : to_q.size ≤ maxLen) (z6 : inR .i64 fileq.mode) (z7 : inR .i64 fileq.time) (z8 : inR .i64 fileq.inode) (z9 : Sl (rInt .u8) X w z1 z2 fileq.b) (h9n : z0 = fileq.b.length) : r_simfs_op.ok X w [.int .i64 kindq, .string pathq, .string to_q, .int .i64 fileq.mode, .int .i64 fileq.time, .int .i64 fileq.inode, .slice z1 z0 z2] ⟨kindq, pathq, to_q, fileq⟩ :=
 (rMap_mk _ (rPair_mk (rInt_mk z3) (rPair_mk (rStr_mk z4) (rPair_mk (rStr_mk z5) (rMap_mk _ (rPair_mk (rInt_mk z6) (rPair_mk (rInt_mk z7) (rPair_mk (rInt_mk z8) (rSl_mk' z9 h9n)))))))))
structure S_simfs_FS where
 kept : (List (ByteArray × S_simfs_file))
 files : (List (ByteArray × S_simfs_file))
 pending : (List S_simfs_op)
 quota : Int
 now : Int
 inodes : Int
 ops_ : Int
 off : Bool
 armed : Bool
 left : Int
 keep : (List Bool)
instance : Inhabited S_simfs_FS := ⟨⟨default, default, default, default, default, default, default, default, default, default, default⟩⟩
def o_simfs_FS : Obj S_simfs_FS := oMap (fun d => (d.kept, (d.files, (d.pending, (d.quota, (d.now, (d.inodes, (d.ops_, (d.off, (d.armed, (d.left, d.keep))))))))))) (oPair (oMp r_simfs_file true) (oPair (oMp r_simfs_file true) (oPair (oOwn r_simfs_op 84) (oPair (oRd (rInt .i64)) (oPair (oRd (rInt .i64)) (oPair (oRd (rInt .i64)) (oPair (oRd (rInt .i64)) (oPair (oRd rBool) (oPair (oRd rBool) (oPair (oRd (rInt .i64)) (oRd (rSl rBool))))))))))))
theorem o_simfs_FS_open {X F G : List Nat} {w : World} {B b : Nat} {d : S_simfs_FS} (h : MO o_simfs_FS 78 G B X w F b d) : ∃ (z0 : Nat) (z1 : Nat) (z2 : Option Addr) (z7 : Nat) (z5 : Nat) (z3 : Option Addr) (z4 : Nat), OB G B X w b [.map (some z0), .map (some z1), .slice z2 z7 z5, .int .i64 d.quota, .int .i64 d.now, .int .i64 d.inodes, .int .i64 d.ops_, .bool d.off, .bool d.armed, .int .i64 d.left, .slice z3 d.keep.length z4] 78 ∧ OM r_simfs_file true G B X w z0 d.kept ∧ OM r_simfs_file true G B X w z1 d.files ∧ OS r_simfs_op G B X w 84 z2 z7 z5 d.pending ∧ inR .i64 d.quota ∧ inR .i64 d.now ∧ inR .i64 d.inodes ∧ inR .i64 d.ops_ ∧ inR .i64 d.left ∧ Sl rBool X w z3 z4 d.keep ∧ Sub [b] F ∧ Sub ([z0]) F ∧ Sub ([z1]) F ∧ Sub (blkL z2) F ∧ Ap [b] ([z0]) ∧ Ap [b] ([z1]) ∧ Ap [b] (blkL z2) ∧ Ap ([z0]) ([z1]) ∧ Ap ([z0]) (blkL z2) ∧ Ap ([z1]) (blkL z2) := by
 obtain ⟨⟨cs, F1, rfl, hb, hn, hk, hO⟩, hw⟩ := h
 obtain ⟨_, _, _, _, rfl, rfl, z6, ⟨z0, rfl, rfl, z8⟩, ⟨_, _, _, _, rfl, rfl, z9, ⟨z1, rfl, rfl, y0⟩, ⟨_, _, _, _, rfl, rfl, y8, ⟨z2, z5, rfl, rfl, y6⟩, ⟨_, _, _, _, rfl, rfl, y9, ⟨rfl, ⟨rfl, y7⟩⟩, ⟨_, _, _, _, rfl, rfl, v0, ⟨rfl, ⟨rfl, y1⟩⟩, ⟨_, _, _, _, rfl, rfl, v1, ⟨rfl, ⟨rfl, y2⟩⟩, ⟨_, _, _, _, rfl, rfl, v2, ⟨rfl, ⟨rfl, y3⟩⟩, ⟨_, _, _, _, rfl, rfl, v3, ⟨rfl, rfl⟩, ⟨_, _, _, _, rfl, rfl, v4, ⟨rfl, rfl⟩, ⟨_, _, _, _, rfl, rfl, v5, ⟨rfl, ⟨rfl, y4⟩⟩, ⟨rfl, ⟨z3, z4, rfl, y5⟩⟩⟩⟩⟩⟩⟩⟩⟩⟩⟩⟩ := hO
 exact ⟨z0, z1, z2, _, z5, z3, z4, ⟨hb, hk, hw.sub (Sub.hd _ _)⟩, ⟨z8.1, z8.2, hw.sub (Sub.trans (Sub.inl _ _) (Sub.tl _ _))⟩, ⟨y0.1, y0.2, hw.sub (Sub.trans (Sub.trans (Sub.inl _ _) (Sub.inr _ _)) (Sub.tl _ _))⟩, ⟨rfl, y6, hw.sub (Sub.trans (Sub.trans (Sub.trans (Sub.inl _ _) (Sub.inr _ _)) (Sub.inr _ _)) (Sub.tl _ _))⟩, y7, y1, y2, y3, y4, y5, Sub.hd _ _, (Sub.trans (Sub.inl _ _) (Sub.tl _ _)), (Sub.trans (Sub.trans (Sub.inl _ _) (Sub.inr _ _)) (Sub.tl _ _)), (Sub.trans (Sub.trans (Sub.trans (Sub.inl _ _) (Sub.inr _ _)) (Sub.inr _ _)) (Sub.tl _ _)), (of_notin hn).subr (Sub.inl _ _), (of_notin hn).subr (Sub.trans (Sub.inl _ _) (Sub.inr _ _)), (of_notin hn).subr (Sub.trans (Sub.trans (Sub.inl _ _) (Sub.inr _ _)) (Sub.inr _ _)), z6.subr (Sub.inl _ _), z6.subr (Sub.trans (Sub.inl _ _) (Sub.inr _ _)), z9.subr (Sub.inl _ _)⟩
theorem o_simfs_FS_mk {X G : List Nat} {w : World} {B b : Nat} {keptq : (List (ByteArray × S_simfs_file))} {filesq : (List (ByteArray × S_simfs_file))} {pendingq : (List S_simfs_op)} {quotaq : Int} {nowq : Int} {inodesq : Int} {ops_q : Int} {offq : Bool} {armedq : Bool} {leftq : Int} {keepq : (List Bool)} {z0 : Nat} {z1 : Nat} {z2 : Option Addr} {z6 : Nat} {z7 : Nat} {z3 : Option Addr} {z4 : Nat} {z5 : Nat} (hb : OB G B X w b [.map (some z0), .map (some z1), .slice z2 z6 z7, .int .i64 quotaq, .int .i64 nowq, .int .i64 inodesq, .int .i64 ops_q, .bool offq, .bool armedq, .int .i64 leftq, .slice z3 z5 z4] 78) (z8 : OM r_simfs_file true G B X w z0 keptq) (z9 : OM r_simfs_file true G B X w z1 filesq) (y0 : OS r_simfs_op G B X w 84 z2 z6 z7 pendingq) (y9 : inR .i64 quotaq) (y1 : inR .i64 nowq) (y2 : inR .i64 inodesq) (y3 : inR .i64 ops_q) (y4 : inR .i64 leftq) (y5 : Sl rBool X w z3 z4 keepq) (h16n : z5 = keepq.length) (y6 : Ap [b] ([z0])) (y7 : Ap [b] ([z1])) (y8 : Ap [b] (blkL z2)) (p0_1 : Ap ([z0]) ([z1])) (p0_2 : Ap ([z0]) (blkL z2)) (p1_2 : Ap ([z1]) (blkL z2)) : MO o_simfs_FS 78 G B X w (b :: ([z0] ++ ([z1] ++ (blkL z2 ++ ([] ++ ([] ++ ([] ++ ([] ++ ([] ++ ([] ++ ([] ++ ([])))))))))))) b ⟨keptq, filesq, pendingq, quotaq, nowq, inodesq, ops_q, offq, armedq, leftq, keepq⟩ :=
 MO.mk (O := o_simfs_FS) hb (Ap.app y6 (Ap.app y7 (Ap.app y8 (Ap.app (Ap.nil_r _) (Ap.app (Ap.nil_r _) (Ap.app (Ap.nil_r _) (Ap.app (Ap.nil_r _) (Ap.app (Ap.nil_r _) (Ap.app (Ap.nil_r _) (Ap.app (Ap.nil_r _) (Ap.nil_r _))))))))))) (show o_simfs_FS.ok _ X w _ _ from (oPair_mk (Ap.app p0_1 (Ap.app p0_2 (Ap.app (Ap.nil_r _) (Ap.app (Ap.nil_r _) (Ap.app (Ap.nil_r _) (Ap.app (Ap.nil_r _) (Ap.app (Ap.nil_r _) (Ap.app (Ap.nil_r _) (Ap.app (Ap.nil_r _) (Ap.nil_r _)))))))))) (oMp_mk z8) (oPair_mk (Ap.app p1_2 (Ap.app (Ap.nil_r _) (Ap.app (Ap.nil_r _) (Ap.app (Ap.nil_r _) (Ap.app (Ap.nil_r _) (Ap.app (Ap.nil_r _) (Ap.app (Ap.nil_r _) (Ap.app (Ap.nil_r _) (Ap.nil_r _))))))))) (oMp_mk z9) (oPair_mk (Ap.app (Ap.nil_r _) (Ap.app (Ap.nil_r _) (Ap.app (Ap.nil_r _) (Ap.app (Ap.nil_r _) (Ap.app (Ap.nil_r _) (Ap.app (Ap.nil_r _) (Ap.app (Ap.nil_r _) (Ap.nil_r _)))))))) (oOwn_mk y0) (oPair_mk (Ap.nil_l _) (oRd_mk (rInt_mk y9)) (oPair_mk (Ap.nil_l _) (oRd_mk (rInt_mk y1)) (oPair_mk (Ap.nil_l _) (oRd_mk (rInt_mk y2)) (oPair_mk (Ap.nil_l _) (oRd_mk (rInt_mk y3)) (oPair_mk (Ap.nil_l _) (oRd_mk rBool_mk) (oPair_mk (Ap.nil_l _) (oRd_mk rBool_mk) (oPair_mk (Ap.nil_l _) (oRd_mk (rInt_mk y4)) (oRd_mk (rSl_mk' y5 h16n))))))))))))) (Wr.app z8.wr (Wr.app z9.wr (Wr.app y0.wr (Wr.app (Wr.nil _ _) (Wr.app (Wr.nil _ _) (Wr.app (Wr.nil _ _) (Wr.app (Wr.nil _ _) (Wr.app (Wr.nil _ _) (Wr.app (Wr.nil _ _) (Wr.app (Wr.nil _ _) (Wr.nil _ _)))))))))))
structure S_simfs_Stat where
 Size : Int
 Time : Int
 Inode : Int
 Mode : Int
instance : Inhabited S_simfs_Stat := ⟨⟨default, default, default, default⟩⟩
structure S_rectolaw5_one where
 path : ByteArray
 data : ByteArray
 mode : Int
 time : Int
 inode : Int
instance : Inhabited S_rectolaw5_one := ⟨⟨default, default, default, default, default⟩⟩
def r_rectolaw5_one : Rep S_rectolaw5_one := rMap (fun d => (d.path, (d.data, (d.mode, (d.time, d.inode))))) (rPair rStr (rPair rStr (rPair (rInt .i64) (rPair (rInt .i64) (rInt .i64)))))
theorem r_rectolaw5_one_open {X : List Nat} {w : World} {cs : List Value} {d : S_rectolaw5_one} (h : r_rectolaw5_one.ok X w cs d) : cs = [.string d.path, .string d.data, .int .i64 d.mode, .int .i64 d.time, .int .i64 d.inode] ∧ d.path.size ≤ maxLen ∧ d.data.size ≤ maxLen ∧ inR .i64 d.mode ∧ inR .i64 d.time ∧ inR .i64 d.inode := by
 obtain ⟨z5, z6, rfl, ⟨rfl, z0⟩, ⟨z7, z8, rfl, ⟨rfl, z1⟩, ⟨z9, y0, rfl, ⟨rfl, z2⟩, ⟨y1, y2, rfl, ⟨rfl, z3⟩, ⟨rfl, z4⟩⟩⟩⟩⟩ := h
 exact ⟨rfl, z0, z1, z2, z3, z4⟩
theorem r_rectolaw5_one_mk {X : List Nat} {w : World} {pathq : ByteArray} {dataq : ByteArray} {modeq : Int} {timeq : Int} {inodeq : Int} (z0 : pathq.size ≤ maxLen) (z1 : dataq.size ≤ maxLen) (z2 : inR .i64 modeq) (z3 : inR .i64 timeq) (z4 : inR .i64 inodeq) : r_rectolaw5_one.ok X w [.string pathq, .string dataq, .int .i64 modeq, .int .i64 timeq, .int .i64 inodeq] ⟨pathq, dataq, modeq, timeq, inodeq⟩ :=
 (rMap_mk _ (rPair_mk (rStr_mk z0) (rPair_mk (rStr_mk z1) (rPair_mk (rInt_mk z2) (rPair_mk (rInt_mk z3) (rInt_mk z4))))))
structure S_rectolaw5_op where
 kind : Int
 f : S_rectolaw5_one
 from_ : ByteArray
 to_ : ByteArray
instance : Inhabited S_rectolaw5_op := ⟨⟨default, default, default, default⟩⟩
def r_rectolaw5_op : Rep S_rectolaw5_op := rMap (fun d => (d.kind, (d.f, (d.from_, d.to_)))) (rPair (rInt .i64) (rPair r_rectolaw5_one (rPair rStr rStr)))
theorem r_rectolaw5_op_open {X : List Nat} {w : World} {cs : List Value} {d : S_rectolaw5_op} (h : r_rectolaw5_op.ok X w cs d) : cs = [.int .i64 d.kind, .string d.f.path, .string d.f.data, .int .i64 d.f.mode, .int .i64 d.f.time, .int .i64 d.f.inode, .string d.from_, .string d.to_] ∧ inR .i64 d.kind ∧ d.f.path.size ≤ maxLen ∧ d.f.data.size ≤ maxLen ∧ inR .i64 d.f.mode ∧ inR .i64 d.f.time ∧ inR .i64 d.f.inode ∧ d.from_.size ≤ maxLen ∧ d.to_.size ≤ maxLen := by
 obtain ⟨z8, z9, rfl, ⟨rfl, z2⟩, ⟨y0, y1, rfl, ⟨y2, y3, rfl, ⟨rfl, z3⟩, ⟨y4, y5, rfl, ⟨rfl, z4⟩, ⟨y9, y6, rfl, ⟨rfl, z5⟩, ⟨v0, v1, rfl, ⟨rfl, z6⟩, ⟨rfl, z7⟩⟩⟩⟩⟩, ⟨y7, y8, rfl, ⟨rfl, z0⟩, ⟨rfl, z1⟩⟩⟩⟩ := h
 exact ⟨rfl, z2, z3, z4, z5, z6, z7, z0, z1⟩
theorem r_rectolaw5_op_mk {X : List Nat} {w : World} {kindq : Int} {f_q : S_rectolaw5_one} {from_q : ByteArray} {to_q : ByteArray} (z2 : inR .i64 kindq) (z3 : f_q.path.size ≤ maxLen) (z4 : f_q.data.size ≤ maxLen) (z5 : inR .i64 f_q.mode) (z6 : inR .i64 f_q.time) (z7 : inR .i64 f_q.inode) (z0 : from_q.size ≤ maxLen) (z1 : to_q.size ≤ maxLen) : r_rectolaw5_op.ok X w [.int .i64 kindq, .string f_q.path, .string f_q.data, .int .i64 f_q.mode, .int .i64 f_q.time, .int .i64 f_q.inode, .string from_q, .string to_q] ⟨kindq, f_q, from_q, to_q⟩ :=
 (rMap_mk _ (rPair_mk (rInt_mk z2) (rPair_mk (rMap_mk _ (rPair_mk (rStr_mk z3) (rPair_mk (rStr_mk z4) (rPair_mk (rInt_mk z5) (rPair_mk (rInt_mk z6) (rInt_mk z7)))))) (rPair_mk (rStr_mk z0) (rStr_mk z1)))))
structure S_rectolaw5_Disk where
 kept : (List S_rectolaw5_one)
 now : (List S_rectolaw5_one)
 wait : (List S_rectolaw5_op)
 quota : Int
 time : Int
 inode : Int
 off : Bool
 armed : Bool
 left : Int
 keep : (List Bool)
 ops_ : Int
instance : Inhabited S_rectolaw5_Disk := ⟨⟨default, default, default, default, default, default, default, default, default, default, default⟩⟩
def o_rectolaw5_Disk : Obj S_rectolaw5_Disk := oMap (fun d => (d.kept, (d.now, (d.wait, (d.quota, (d.time, (d.inode, (d.off, (d.armed, (d.left, (d.keep, d.ops_))))))))))) (oPair (oRd (rSl r_rectolaw5_one)) (oPair (oRd (rSl r_rectolaw5_one)) (oPair (oRd (rSl r_rectolaw5_op)) (oPair (oRd (rInt .i64)) (oPair (oRd (rInt .i64)) (oPair (oRd (rInt .i64)) (oPair (oRd rBool) (oPair (oRd rBool) (oPair (oRd (rInt .i64)) (oPair (oRd (rSl rBool)) (oRd (rInt .i64))))))))))))
theorem o_rectolaw5_Disk_open {X F G : List Nat} {w : World} {B b : Nat} {d : S_rectolaw5_Disk} (h : MO o_rectolaw5_Disk 31 G B X w F b d) : ∃ (z2 : Option Addr) (z3 : Nat) (z4 : Option Addr) (z5 : Nat) (z6 : Option Addr) (z7 : Nat) (z0 : Option Addr) (z1 : Nat), OB G B X w b [.slice z2 d.kept.length z3, .slice z4 d.now.length z5, .slice z6 d.wait.length z7, .int .i64 d.quota, .int .i64 d.time, .int .i64 d.inode, .bool d.off, .bool d.armed, .int .i64 d.left, .slice z0 d.keep.length z1, .int .i64 d.ops_] 31 ∧ Sl r_rectolaw5_one X w z2 z3 d.kept ∧ Sl r_rectolaw5_one X w z4 z5 d.now ∧ Sl r_rectolaw5_op X w z6 z7 d.wait ∧ inR .i64 d.quota ∧ inR .i64 d.time ∧ inR .i64 d.inode ∧ inR .i64 d.left ∧ Sl rBool X w z0 z1 d.keep ∧ inR .i64 d.ops_ ∧ Sub [b] F := by
 obtain ⟨⟨cs, F1, rfl, hb, hn, hk, hO⟩, hw⟩ := h
 obtain ⟨_, _, _, _, rfl, rfl, y7, ⟨rfl, ⟨z2, z3, rfl, y4⟩⟩, ⟨_, _, _, _, rfl, rfl, y8, ⟨rfl, ⟨z4, z5, rfl, y5⟩⟩, ⟨_, _, _, _, rfl, rfl, y9, ⟨rfl, ⟨z6, z7, rfl, y6⟩⟩, ⟨_, _, _, _, rfl, rfl, v0, ⟨rfl, ⟨rfl, z8⟩⟩, ⟨_, _, _, _, rfl, rfl, v1, ⟨rfl, ⟨rfl, z9⟩⟩, ⟨_, _, _, _, rfl, rfl, v2, ⟨rfl, ⟨rfl, y0⟩⟩, ⟨_, _, _, _, rfl, rfl, v3, ⟨rfl, rfl⟩, ⟨_, _, _, _, rfl, rfl, v4, ⟨rfl, rfl⟩, ⟨_, _, _, _, rfl, rfl, v5, ⟨rfl, ⟨rfl, y1⟩⟩, ⟨_, _, _, _, rfl, rfl, v6, ⟨rfl, ⟨z0, z1, rfl, y2⟩⟩, ⟨rfl, ⟨rfl, y3⟩⟩⟩⟩⟩⟩⟩⟩⟩⟩⟩⟩ := hO
 exact ⟨z2, z3, z4, z5, z6, z7, z0, z1, ⟨hb, hk, hw.sub (Sub.hd _ _)⟩, y4, y5, y6, z8, z9, y0, y1, y2, y3, Sub.hd _ _⟩
theorem o_rectolaw5_Disk_mk {X G : List Nat} {w : World} {B b : Nat} {keptq : (List S_rectolaw5_one)} {nowq : (List S_rectolaw5_one)} {waitq : (List S_rectolaw5_op)} {quotaq : Int} {timeq : Int} {inodeq : Int} {offq : Bool} {armedq : Bool} {leftq : Int} {keepq : (List Bool)} {ops_q : Int} {z5 : Option Addr} {z6 : Nat} {z7 : Nat} {z8 : Option Addr} {z9 : Nat} {y0 : Nat} {y1 : Option Addr} {z0 : Nat} {z1 : Nat} {z2 : Option Addr} {z3 : Nat} {z4 : Nat} (hb : OB G B X w b [.slice z5 z7 z6, .slice z8 y0 z9, .slice y1 z1 z0, .int .i64 quotaq, .int .i64 timeq, .int .i64 inodeq, .bool offq, .bool armedq, .int .i64 leftq, .slice z2 z4 z3, .int .i64 ops_q] 31) (y9 : Sl r_rectolaw5_one X w z5 z6 keptq) (h3n : z7 = keptq.length) (v0 : Sl r_rectolaw5_one X w z8 z9 nowq) (h7n : y0 = nowq.length) (y2 : Sl r_rectolaw5_op X w y1 z0 waitq) (h11n : z1 = waitq.length) (y3 : inR .i64 quotaq) (y4 : inR .i64 timeq) (y5 : inR .i64 inodeq) (y6 : inR .i64 leftq) (y7 : Sl rBool X w z2 z3 keepq) (h19n : z4 = keepq.length) (y8 : inR .i64 ops_q)  : MO o_rectolaw5_Disk 31 G B X w (b :: ([] ++ ([] ++ ([] ++ ([] ++ ([] ++ ([] ++ ([] ++ ([] ++ ([] ++ ([] ++ ([])))))))))))) b ⟨keptq, nowq, waitq, quotaq, timeq, inodeq, offq, armedq, leftq, keepq, ops_q⟩ :=
 MO.mk (O := o_rectolaw5_Disk) hb (Ap.app (Ap.nil_r _) (Ap.app (Ap.nil_r _) (Ap.app (Ap.nil_r _) (Ap.app (Ap.nil_r _) (Ap.app (Ap.nil_r _) (Ap.app (Ap.nil_r _) (Ap.app (Ap.nil_r _) (Ap.app (Ap.nil_r _) (Ap.app (Ap.nil_r _) (Ap.app (Ap.nil_r _) (Ap.nil_r _))))))))))) (show o_rectolaw5_Disk.ok _ X w _ _ from (oPair_mk (Ap.nil_l _) (oRd_mk (rSl_mk' y9 h3n)) (oPair_mk (Ap.nil_l _) (oRd_mk (rSl_mk' v0 h7n)) (oPair_mk (Ap.nil_l _) (oRd_mk (rSl_mk' y2 h11n)) (oPair_mk (Ap.nil_l _) (oRd_mk (rInt_mk y3)) (oPair_mk (Ap.nil_l _) (oRd_mk (rInt_mk y4)) (oPair_mk (Ap.nil_l _) (oRd_mk (rInt_mk y5)) (oPair_mk (Ap.nil_l _) (oRd_mk rBool_mk) (oPair_mk (Ap.nil_l _) (oRd_mk rBool_mk) (oPair_mk (Ap.nil_l _) (oRd_mk (rInt_mk y6)) (oPair_mk (Ap.nil_l _) (oRd_mk (rSl_mk' y7 h19n)) (oRd_mk (rInt_mk y8))))))))))))) (Wr.app (Wr.nil _ _) (Wr.app (Wr.nil _ _) (Wr.app (Wr.nil _ _) (Wr.app (Wr.nil _ _) (Wr.app (Wr.nil _ _) (Wr.app (Wr.nil _ _) (Wr.app (Wr.nil _ _) (Wr.app (Wr.nil _ _) (Wr.app (Wr.nil _ _) (Wr.app (Wr.nil _ _) (Wr.nil _ _)))))))))))
def simfs_New_p (quota : Int) (Q : S_simfs_FS → Prop) : Prop :=
 ((inR .i64 quota) → Q (S_simfs_FS.mk ([] : (List (ByteArray × S_simfs_file))) ([] : (List (ByteArray × S_simfs_file))) ([] : List S_simfs_op) quota (0 : Int) (0 : Int) (0 : Int) false false (0 : Int) ([] : List Bool)))
set_option maxRecDepth 20000 in
set_option maxHeartbeats 4000000 in
theorem simfs_New_w {X : List Nat} {w : World} {quota : Int} {Q : S_simfs_FS → Prop} (y5 : Old X w) (z0 : inR .i64 quota) (hp : simfs_New_p quota Q) :
  Calls Tryz.prog 9 #[(.int .i64 quota)] w (Ret fun v w' => ∃ (y6 : S_simfs_FS), Q y6 ∧ ∃ (X' : List Nat) (z3 : Nat) (y1 : List Nat), Step X w ([]) X' w' ∧ v = (.pointer (some ⟨z3, 0, none⟩)) ∧ MO o_simfs_FS 78 ([]) w.heap.size X' w' y1 z3 y6) := by
 have hXo := y5
 have E0 : Evo [] w w := RB.refl _ _ _
 have hS : Sub X X := Sub.refl _
 have hN : News X w X w := News.refl _ _
 have y7 : Sub [] X := Sub.nil _
 unfold simfs_New_p at hp
 refine enter_ Tryz.func9 rfl 8 [(0, (.int .i64 quota))] (by kernel_rfl) (fun Qe hQ => ?_)
 replace hp := hp z0
 refine seq_ (fun _ u2 => ?_)
 refine reg_ ?_
 refine sq (o_pv (.pointer none) rfl (by kernel_rfl) ?_)
 refine nil_ ?_
 refine then_normal (u2 _ _ _ _ ?_)
 refine seq_ (fun _ u3 => ?_)
 refine reg_ ?_
 refine sq (o_mkmap (R := r_simfs_file) (ag := true) (X := X) (B := w.heap.size) E0.size rfl ?_)
 intro y8 u9 u4 y2 y9 t0
 have z5 := (Evo.then0 E0 (Step.evo y2))
 refine sq (o_mkmap (R := r_simfs_file) (ag := true) (X := u4) (B := w.heap.size) z5.size rfl ?_)
 intro z6 u6 v0 z2 z7 v1
 have v2 := v1 _ (OM.old y9)
 refine sq (o_pv (.int .i64 quota) rfl (by kernel_rfl) ?_)
 refine sq (o_pv (.agg #[(.map (some y8)), (.map (some z6)), (.slice none 0 0), (.int .i64 quota), (.int .i64 (0 : Int)), (.int .i64 (0 : Int)), (.int .i64 (0 : Int)), (.bool false), (.bool false), (.int .i64 (0 : Int)), (.slice none 0 0)]) rfl (by kernel_rfl) ?_)
 have z8 := (OM.step0 y9 z2)
 have z9 := (Evo.then0 z5 (Step.evo z2))
 refine sq (o_newX [(.map (some y8)), (.map (some z6)), (.slice none 0 0), (.int .i64 quota), (.int .i64 (0 : Int)), (.int .i64 (0 : Int)), (.int .i64 (0 : Int)), (.bool false), (.bool false), (.int .i64 (0 : Int)), (.slice none 0 0)] 78 (X := v0) (B := w.heap.size) z9.size rfl (by kernel_rfl) ?_)
 intro z4 u7 v3 z1 v4 y0
 have v5 := y0 _ (OM.old z8)
 have v6 := y0 _ (OM.old z7)
 refine sq (o_pv (.pointer (some ⟨z4, 0, none⟩)) rfl (by kernel_rfl) ?_)
 refine nil_ ?_
 refine then_normal (u3 _ _ _ _ ?_)
 refine wp_ret ?_
 have v7 := (Evo.then0 z9 (Step.evo z1))
 have y3 := (Sub.trans (Sub.trans (Sub.trans hS (Step.up y2)) (Step.up z2)) (Step.up z1))
 have y4 := (News.step (News.step (News.step hN y2) z2) z1)
 have v8 := (OM.step0 z8 z1)
 have v9 := (OM.step0 z7 z1)
 obtain ⟨u0, u1, u5⟩ := MO.pack (o_simfs_FS_mk v4 v8 v9 (OS.nil2 _ _ _ _ _) z0 (by decide : inR .i64 (0 : Int)) (by decide : inR .i64 (0 : Int)) (by decide : inR .i64 (0 : Int)) (by decide : inR .i64 (0 : Int)) (Sl.nil) rfl (Ap.symm v5) (Ap.symm v6) (Ap.nil_r _) v2 (Ap.nil_r _) (Ap.nil_r _))
 refine end_ret hQ (.pointer (some ⟨z4, 0, none⟩)) (by kernel_rfl) ?_
 exact ⟨(S_simfs_FS.mk ([] : (List (ByteArray × S_simfs_file))) ([] : (List (ByteArray × S_simfs_file))) ([] : List S_simfs_op) quota (0 : Int) (0 : Int) (0 : Int) false false (0 : Int) ([] : List Bool)), hp, v3, z4, u0, step_of v7 y7 y3 y4, rfl, u1⟩
/-- strings.genSplit: all parts, at a separator of one byte. -/
def strings_genSplit_p (s sep : ByteArray) (sepSave n : Int) (Q : List ByteArray → Prop) : Prop := ∃ c : UInt8, sep = ByteArray.mk #[c] ∧ sepSave = 0 ∧ n = -1 ∧ s.size < 4294967281 ∧ Q (partsB s c)
theorem strings_genSplit_w {X : List Nat} {w : World} {s sep : ByteArray} {sepSave n_ : Int} {Q : List ByteArray → Prop} (z3 : Old X w) (_hs : s.size ≤ maxLen) (_ht : sep.size ≤ maxLen) (z4 : inR .i64 sepSave) (z5 : inR .i64 n_) (hp : strings_genSplit_p s sep sepSave n_ Q) :
  Calls Tryz.prog 118 #[(.string s), (.string sep), (.int .i64 sepSave), (.int .i64 n_)] w (Ret fun v w' => ∃ z2 : List ByteArray, Q z2 ∧ Evo [] w w' ∧ ∃ (z0 : Option Addr) (z1 : Nat), v = (.slice z0 z2.length z1) ∧ Sl rStr X w' z0 z1 z2) := by
 obtain ⟨c, rfl, rfl, rfl, hs, hq⟩ := hp
 have L := Tryz.lays146
 refine (genSplit_one (ρ := Tryz.lays146_ren) { L with } (by kernel_rfl) s c w hs).mono ?_
 rintro e w' ⟨rfl, rfl⟩
 obtain ⟨hE, hS⟩ := parts_sl (s := s) (c := c) (t := Tryz.lays146_ren.t 9) z3 hs
 exact ⟨_, rfl, _, hq, hE, _, _, rfl, hS⟩
def strings_Split_p (s : ByteArray) (sep : ByteArray) (Q : (List ByteArray) → Prop) : Prop :=
 ((s.size ≤ maxLen) → ((sep.size ≤ maxLen) → (strings_genSplit_p s sep (0 : Int) (-1 : Int) (fun (z0 : (List ByteArray)) => ((z0.length ≤ 9223372036854775807) → Q z0)))))
set_option maxRecDepth 20000 in
set_option maxHeartbeats 4000000 in
theorem strings_Split_w {X : List Nat} {w : World} {s : ByteArray} {sep : ByteArray} {Q : (List ByteArray) → Prop} (y0 : Old X w) (z6 : s.size ≤ maxLen) (z1 : sep.size ≤ maxLen) (hp : strings_Split_p s sep Q) :
  Calls Tryz.prog 107 #[(.string s), (.string sep)] w (Ret fun v w' => ∃ (z7 : (List ByteArray)), Q z7 ∧ Evo [] w w' ∧ ∃ (z2 : Option Addr) (z3 : Nat), v = (.slice z2 z7.length z3) ∧ Sl rStr X w' z2 z3 z7) := by
 have hXo := y0
 have E0 : Evo [] w w := RB.refl _ _ _
 have hS : Sub X X := Sub.refl _
 unfold strings_Split_p at hp
 refine enter_ Tryz.func107 rfl 8 [(0, (.string s)), (1, (.string sep))] (by kernel_rfl) (fun Qe hQ => ?_)
 replace hp := hp z6
 replace hp := hp z1
 refine seq_ (fun _ y3 => ?_)
 refine reg_ ?_
 refine sq (o_pv (.slice none 0 0) rfl (by kernel_rfl) ?_)
 refine nil_ ?_
 refine then_normal (y3 _ _ _ _ ?_)
 refine seq_ (fun _ y4 => ?_)
 refine reg_ ?_
 refine sq (o_pv (.string s) rfl (by kernel_rfl) ?_)
 refine sq (o_pv (.string sep) rfl (by kernel_rfl) ?_)
 refine sq (o_call 118 #[(.string s), (.string sep), (.int .i64 (0 : Int)), (.int .i64 (-1 : Int))] rfl (x_call Tryz.call118 (by kernel_rfl)) (strings_genSplit_w (X := X) (s := s) (sep := sep) (sepSave := (0 : Int)) (n_ := (-1 : Int)) hXo z6 z1 (by decide : inR .i64 (0 : Int)) (by decide : inR .i64 (-1 : Int)) hp) ?_)
 rintro _ y6 ⟨z8, hp, y1, z4, z0, rfl, z5⟩
 have y5 := Step.of0 X y1
 replace hp := hp (Sl.len z5)
 refine sq (o_pv (.slice z4 z8.length z0) rfl (by kernel_rfl) ?_)
 refine nil_ ?_
 refine then_normal (y4 _ _ _ _ ?_)
 refine wp_ret ?_
 have z9 := (Sub.trans hS (Step.up y5))
 have y2 := (Evo.then0 E0 y1)
 refine end_ret hQ (.slice z4 z8.length z0) (by kernel_rfl) ?_
 exact ⟨z8, hp, y2, z4, z0, rfl, (Sl.less z5 z9)⟩
def path_good_p (c : Int) (Q : Bool → Prop) : Prop :=
 ((inR .u8 c) → (∃ z0 : Prop, (z0 → Q true) ∧ (((c = (46 : Int)) → (z0)) ∧ ((¬ (c = (46 : Int))) → (((c = (45 : Int)) → (z0)) ∧ ((¬ (c = (45 : Int))) → (((c = (95 : Int)) → (z0)) ∧ ((¬ (c = (95 : Int))) → Q (decide (((c ≥ (97 : Int)) ∧ ((c ≤ (122 : Int)) ∨ ((c ≥ (48 : Int)) ∧ (c ≤ (57 : Int))))) ∨ ((¬ (c ≥ (97 : Int))) ∧ ((c ≥ (48 : Int)) ∧ (c ≤ (57 : Int))))))))))))))
set_option maxRecDepth 20000 in
set_option maxHeartbeats 4000000 in
theorem path_good_w {X : List Nat} {w : World} {c : Int} {Q : Bool → Prop} (y4 : Old X w) (y5 : inR .u8 c) (hp : path_good_p c Q) :
  Calls Tryz.prog 119 #[(.int .u8 c)] w (Ret fun v w' => ∃ (y6 : Bool), Q y6 ∧ Evo [] w w' ∧ v = (.bool y6)) := by
 have hXo := y4
 have E0 : Evo [] w w := RB.refl _ _ _
 have hS : Sub X X := Sub.refl _
 unfold path_good_p at hp
 refine enter_ Tryz.func119 rfl 24 [(0, (.int .u8 c))] (by kernel_rfl) (fun Qe hQ => ?_)
 replace hp := hp y5
 refine seq_ (fun _ v8 => ?_)
 refine reg_ ?_
 refine sq (o_pv (.bool false) rfl (by kernel_rfl) ?_)
 refine nil_ ?_
 refine then_normal (v8 _ _ _ _ ?_)
 refine seq_ (fun _ v9 => ?_)
 refine seq_ (fun _ u0 => ?_)
 refine reg_ ?_
 refine sq (o_pv (.int .u8 c) rfl (by kernel_rfl) ?_)
 refine nil_ ?_
 refine then_normal (u0 _ _ _ _ ?_)
 refine wp_block ?_
 refine seq_ (fun _ u1 => ?_)
 obtain ⟨y7, y2, hp⟩ := hp
 refine ground_ ?_
 refine join_ 1008 (fun lq z6 => ∃ (z7 : List Nat), (lq = []) ∧ (Evo [] w z6) ∧ (Old z7 z6) ∧ (Sub X z7) ∧ (y7)) (fun u2 z3 => ?_) ?_
 ·
  refine wp_block ?_
  refine wp_block ?_
  refine wp_block ?_
  refine seq_ (fun _ y8 => ?_)
  refine seq_ (fun _ y9 => ?_)
  refine seq_ (fun _ v0 => ?_)
  refine reg_ ?_
  refine sq (o_pv (.bool (decide (c = (46 : Int)))) rfl (by kernel_rfl) ?_)
  refine sq (o_pv (.bool (decide (c = (46 : Int)))) rfl (by kernel_rfl) ?_)
  refine nil_ ?_
  refine then_normal (v0 _ _ _ _ ?_)
  refine cond_d (c = (46 : Int)) (by kernel_rfl) (fun z8 => ?_) (fun z8 => ?_)
  ·
   replace hp := hp.1 z8
   refine wp_exit ?_
   refine then_exit ?_
   refine then_exit ?_
   refine blk_exit ?_
   refine blk_normal ?_
   refine blk_normal ?_
   refine then_normal (z3 _ _ _ ⟨[], fit_mk (fun _ _ => rfl) (by kernel_rfl) vs_nil, ?_⟩)
   exact ⟨X, rfl, E0, hXo, hS, hp⟩
  ·
   replace hp := hp.2 z8
   refine wp_skip ?_
   refine then_normal (y9 _ _ _ _ ?_)
   refine seq_ (fun _ v1 => ?_)
   refine seq_ (fun _ v2 => ?_)
   refine reg_ ?_
   refine sq (o_pv (.bool (decide (c = (45 : Int)))) rfl (by kernel_rfl) ?_)
   refine sq (o_pv (.bool (decide (c = (45 : Int)))) rfl (by kernel_rfl) ?_)
   refine nil_ ?_
   refine then_normal (v2 _ _ _ _ ?_)
   refine cond_d (c = (45 : Int)) (by kernel_rfl) (fun z9 => ?_) (fun z9 => ?_)
   ·
    replace hp := hp.1 z9
    refine wp_exit ?_
    refine then_exit ?_
    refine then_exit ?_
    refine blk_exit_ne rfl ?_
    refine blk_exit ?_
    refine blk_normal ?_
    refine then_normal (z3 _ _ _ ⟨[], fit_mk (fun _ _ => rfl) (by kernel_rfl) vs_nil, ?_⟩)
    exact ⟨X, rfl, E0, hXo, hS, hp⟩
   ·
    replace hp := hp.2 z9
    refine wp_skip ?_
    refine then_normal (v1 _ _ _ _ ?_)
    refine seq_ (fun _ v3 => ?_)
    refine reg_ ?_
    refine sq (o_pv (.bool (decide (c = (95 : Int)))) rfl (by kernel_rfl) ?_)
    refine sq (o_pv (.bool (decide (c = (95 : Int)))) rfl (by kernel_rfl) ?_)
    refine nil_ ?_
    refine then_normal (v3 _ _ _ _ ?_)
    refine cond_d (c = (95 : Int)) (by kernel_rfl) (fun y0 => ?_) (fun y0 => ?_)
    ·
     replace hp := hp.1 y0
     refine wp_exit ?_
     refine then_exit ?_
     refine blk_exit_ne rfl ?_
     refine blk_exit_ne rfl ?_
     refine blk_exit ?_
     refine then_normal (z3 _ _ _ ⟨[], fit_mk (fun _ _ => rfl) (by kernel_rfl) vs_nil, ?_⟩)
     exact ⟨X, rfl, E0, hXo, hS, hp⟩
    ·
     replace hp := hp.2 y0
     refine wp_skip ?_
     refine then_normal (y8 _ _ _ _ ?_)
     refine wp_exit ?_
     refine blk_exit_ne rfl ?_
     refine blk_exit_ne rfl ?_
     refine blk_exit_ne rfl ?_
     refine then_exit ?_
     refine then_exit ?_
     refine blk_exit ?_
     refine then_normal (v9 _ _ _ _ ?_)
     refine seq_ (fun _ v4 => ?_)
     refine ground_ ?_
     refine join_ 16776196 (fun lq y1 => lq = [(2, (.bool (decide (((c ≥ (97 : Int)) ∧ ((c ≤ (122 : Int)) ∨ ((c ≥ (48 : Int)) ∧ (c ≤ (57 : Int))))) ∨ ((¬ (c ≥ (97 : Int))) ∧ ((c ≥ (48 : Int)) ∧ (c ≤ (57 : Int))))))))] ∧ w = y1) (fun u3 z0 => ?_) ?_
     ·
      refine reg_ ?_
      refine sq (o_pv (.int .u8 c) rfl (by kernel_rfl) ?_)
      by_cases z1 : c ≥ (97 : Int)
      ·
       refine sq (o_pv (.bool true) rfl (x_dt (p := c ≥ (97 : Int)) (by kernel_rfl) z1) ?_)
       refine sq (o_pv (.bool true) rfl (by kernel_rfl) ?_)
       refine sq (o_pv (.int .u8 c) (by kernel_rfl) (by kernel_rfl) ?_)
       by_cases z2 : c ≤ (122 : Int)
       ·
        refine sq (o_pv (.bool true) (by kernel_rfl) (x_dt (p := c ≤ (122 : Int)) (by kernel_rfl) z2) ?_)
        refine sq (o_pv (.bool true) rfl (by kernel_rfl) ?_)
        refine sq (o_pv (.bool true) rfl (by kernel_rfl) ?_)
        refine sq (o_not (by kernel_rfl) ?_)
        refine sq (o_not (by kernel_rfl) ?_)
        refine sq (o_not (by kernel_rfl) ?_)
        refine sq (o_not (by kernel_rfl) ?_)
        refine sq (o_not (by kernel_rfl) ?_)
        refine sq (o_not (by kernel_rfl) ?_)
        refine sq (o_pv (.bool true) rfl (by kernel_rfl) ?_)
        refine sq (o_pv (.bool true) rfl (by kernel_rfl) ?_)
        refine nil_ ?_
        refine then_normal (z0 _ _ _ ⟨[(2, (.bool (decide (((c ≥ (97 : Int)) ∧ ((c ≤ (122 : Int)) ∨ ((c ≥ (48 : Int)) ∧ (c ≤ (57 : Int))))) ∨ ((¬ (c ≥ (97 : Int))) ∧ ((c ≥ (48 : Int)) ∧ (c ≤ (57 : Int))))))))], fit_mk (fun _ _ => rfl) (by kernel_rfl) (vs_cons (Eq.trans (b := (.bool true)) (by kernel_rfl) (dec_t (by simp [z1, z2])).symm) vs_nil), rfl, rfl⟩)
       ·
        refine sq (o_pv (.bool false) (by kernel_rfl) (x_df (p := c ≤ (122 : Int)) (by kernel_rfl) z2) ?_)
        refine sq (o_pv (.bool false) rfl (by kernel_rfl) ?_)
        refine sq (o_pv (.bool false) rfl (by kernel_rfl) ?_)
        refine sq (o_pv (.int .u8 c) (by kernel_rfl) (by kernel_rfl) ?_)
        by_cases z4 : c ≥ (48 : Int)
        ·
         refine sq (o_pv (.bool true) (by kernel_rfl) (x_dt (p := c ≥ (48 : Int)) (by kernel_rfl) z4) ?_)
         refine sq (o_pv (.bool true) (by kernel_rfl) (by kernel_rfl) ?_)
         refine sq (o_pv (.int .u8 c) (by kernel_rfl) (by kernel_rfl) ?_)
         refine sq (o_pv (.bool (decide (c ≤ (57 : Int)))) (by kernel_rfl) (by kernel_rfl) ?_)
         refine sq (o_pv (.bool (decide (c ≤ (57 : Int)))) (by kernel_rfl) (by kernel_rfl) ?_)
         refine sq (o_pv (.bool (decide (c ≤ (57 : Int)))) rfl (by kernel_rfl) ?_)
         refine sq (o_pv (.bool (decide (c ≤ (57 : Int)))) rfl (by kernel_rfl) ?_)
         refine nil_ ?_
         refine then_normal (z0 _ _ _ ⟨[(2, (.bool (decide (((c ≥ (97 : Int)) ∧ ((c ≤ (122 : Int)) ∨ ((c ≥ (48 : Int)) ∧ (c ≤ (57 : Int))))) ∨ ((¬ (c ≥ (97 : Int))) ∧ ((c ≥ (48 : Int)) ∧ (c ≤ (57 : Int))))))))], fit_mk (fun _ _ => rfl) (by kernel_rfl) (vs_cons (Eq.trans (b := (.bool (decide (c ≤ (57 : Int))))) (by kernel_rfl) (dec_d (by simp [z1, z2, z4])).symm) vs_nil), rfl, rfl⟩)
        ·
         refine sq (o_pv (.bool false) (by kernel_rfl) (x_df (p := c ≥ (48 : Int)) (by kernel_rfl) z4) ?_)
         refine sq (o_pv (.bool false) (by kernel_rfl) (by kernel_rfl) ?_)
         refine sq (o_not (by kernel_rfl) ?_)
         refine sq (o_not (by kernel_rfl) ?_)
         refine sq (o_pv (.bool false) (by kernel_rfl) (by kernel_rfl) ?_)
         refine sq (o_pv (.bool false) rfl (by kernel_rfl) ?_)
         refine sq (o_pv (.bool false) rfl (by kernel_rfl) ?_)
         refine nil_ ?_
         refine then_normal (z0 _ _ _ ⟨[(2, (.bool (decide (((c ≥ (97 : Int)) ∧ ((c ≤ (122 : Int)) ∨ ((c ≥ (48 : Int)) ∧ (c ≤ (57 : Int))))) ∨ ((¬ (c ≥ (97 : Int))) ∧ ((c ≥ (48 : Int)) ∧ (c ≤ (57 : Int))))))))], fit_mk (fun _ _ => rfl) (by kernel_rfl) (vs_cons (Eq.trans (b := (.bool false)) (by kernel_rfl) (dec_f (by simp [z1, z2, z4])).symm) vs_nil), rfl, rfl⟩)
      ·
       refine sq (o_pv (.bool false) rfl (x_df (p := c ≥ (97 : Int)) (by kernel_rfl) z1) ?_)
       refine sq (o_pv (.bool false) rfl (by kernel_rfl) ?_)
       refine sq (o_not (by kernel_rfl) ?_)
       refine sq (o_not (by kernel_rfl) ?_)
       refine sq (o_pv (.bool false) rfl (by kernel_rfl) ?_)
       refine sq (o_pv (.bool false) rfl (by kernel_rfl) ?_)
       refine sq (o_pv (.int .u8 c) (by kernel_rfl) (by kernel_rfl) ?_)
       by_cases z5 : c ≥ (48 : Int)
       ·
        refine sq (o_pv (.bool true) (by kernel_rfl) (x_dt (p := c ≥ (48 : Int)) (by kernel_rfl) z5) ?_)
        refine sq (o_pv (.bool true) (by kernel_rfl) (by kernel_rfl) ?_)
        refine sq (o_pv (.int .u8 c) (by kernel_rfl) (by kernel_rfl) ?_)
        refine sq (o_pv (.bool (decide (c ≤ (57 : Int)))) (by kernel_rfl) (by kernel_rfl) ?_)
        refine sq (o_pv (.bool (decide (c ≤ (57 : Int)))) (by kernel_rfl) (by kernel_rfl) ?_)
        refine sq (o_pv (.bool (decide (c ≤ (57 : Int)))) rfl (by kernel_rfl) ?_)
        refine sq (o_pv (.bool (decide (c ≤ (57 : Int)))) rfl (by kernel_rfl) ?_)
        refine nil_ ?_
        refine then_normal (z0 _ _ _ ⟨[(2, (.bool (decide (((c ≥ (97 : Int)) ∧ ((c ≤ (122 : Int)) ∨ ((c ≥ (48 : Int)) ∧ (c ≤ (57 : Int))))) ∨ ((¬ (c ≥ (97 : Int))) ∧ ((c ≥ (48 : Int)) ∧ (c ≤ (57 : Int))))))))], fit_mk (fun _ _ => rfl) (by kernel_rfl) (vs_cons (Eq.trans (b := (.bool (decide (c ≤ (57 : Int))))) (by kernel_rfl) (dec_d (by simp [z1, z5])).symm) vs_nil), rfl, rfl⟩)
       ·
        refine sq (o_pv (.bool false) (by kernel_rfl) (x_df (p := c ≥ (48 : Int)) (by kernel_rfl) z5) ?_)
        refine sq (o_pv (.bool false) (by kernel_rfl) (by kernel_rfl) ?_)
        refine sq (o_not (by kernel_rfl) ?_)
        refine sq (o_not (by kernel_rfl) ?_)
        refine sq (o_pv (.bool false) (by kernel_rfl) (by kernel_rfl) ?_)
        refine sq (o_pv (.bool false) rfl (by kernel_rfl) ?_)
        refine sq (o_pv (.bool false) rfl (by kernel_rfl) ?_)
        refine nil_ ?_
        refine then_normal (z0 _ _ _ ⟨[(2, (.bool (decide (((c ≥ (97 : Int)) ∧ ((c ≤ (122 : Int)) ∨ ((c ≥ (48 : Int)) ∧ (c ≤ (57 : Int))))) ∨ ((¬ (c ≥ (97 : Int))) ∧ ((c ≥ (48 : Int)) ∧ (c ≤ (57 : Int))))))))], fit_mk (fun _ _ => rfl) (by kernel_rfl) (vs_cons (Eq.trans (b := (.bool false)) (by kernel_rfl) (dec_f (by simp [z1, z5])).symm) vs_nil), rfl, rfl⟩)
     ·
      rintro _ y1 u5 ⟨rfl, hw⟩
      subst hw
      refine then_normal (v4 _ _ _ _ ?_)
      refine wp_ret ?_
      refine end_ret hQ (.bool (decide (((c ≥ (97 : Int)) ∧ ((c ≤ (122 : Int)) ∨ ((c ≥ (48 : Int)) ∧ (c ≤ (57 : Int))))) ∨ ((¬ (c ≥ (97 : Int))) ∧ ((c ≥ (48 : Int)) ∧ (c ≤ (57 : Int))))))) (by kernel_rfl) ?_
      exact ⟨(decide (((c ≥ (97 : Int)) ∧ ((c ≤ (122 : Int)) ∨ ((c ≥ (48 : Int)) ∧ (c ≤ (57 : Int))))) ∨ ((¬ (c ≥ (97 : Int))) ∧ ((c ≥ (48 : Int)) ∧ (c ≤ (57 : Int)))))), hp, E0, rfl⟩
 ·
  rintro _ z6 u6 ⟨z7, rfl, v5, v7, u4, y3⟩
  replace hp := y2 y3
  refine then_normal (u1 _ _ _ _ ?_)
  refine seq_ (fun _ u7 => ?_)
  refine seq_ (fun _ v6 => ?_)
  refine reg_ ?_
  refine sq (o_pv (.bool true) rfl (by kernel_rfl) ?_)
  refine nil_ ?_
  refine then_normal (v6 _ _ _ _ ?_)
  refine wp_ret ?_
  refine then_ret ?_
  refine blk_ret ?_
  refine then_ret ?_
  refine end_ret hQ (.bool true) (by kernel_rfl) ?_
  exact ⟨true, hp, v5, rfl⟩
def path_part_p (s : ByteArray) (Q : Bool → Prop) : Prop :=
 ((s.size ≤ maxLen) → (((((s : ByteArray) = (ByteArray.mk #[])) ∨ (((s : ByteArray) = (ByteArray.mk #[46])) ∨ ((s : ByteArray) = (ByteArray.mk #[46, 46])))) → Q false) ∧ ((¬ (((s : ByteArray) = (ByteArray.mk #[])) ∨ (((s : ByteArray) = (ByteArray.mk #[46])) ∨ ((s : ByteArray) = (ByteArray.mk #[46, 46]))))) → (∃ (z1 : Int → Prop) (z2 : Int → Nat), (z1 (0 : Int)) ∧ (∀ (z0 : Int), (z1 z0) → (inR .i64 z0) → (((z0 < ((bytesL s).length : Int)) → ((inL (bytesL s) z0) ∧ ((inR .u8 (lget (bytesL s) z0)) → (path_good_p (lget (bytesL s) z0) (fun (z3 : Bool) => ((((!z3) = true) → Q false) ∧ (((!z3) = false) → ((inR .i64 (z0 + (1 : Int))) ∧ ((z1 (z0 + (1 : Int))) ∧ z2 (z0 + (1 : Int)) < z2 z0))))))))) ∧ ((¬ (z0 < ((bytesL s).length : Int))) → Q true)))))))
set_option maxRecDepth 20000 in
set_option maxHeartbeats 4000000 in
theorem path_part_w {X : List Nat} {w : World} {s : ByteArray} {Q : Bool → Prop} (u4 : Old X w) (y7 : s.size ≤ maxLen) (hp : path_part_p s Q) :
  Calls Tryz.prog 108 #[(.string s)] w (Ret fun v w' => ∃ (u5 : Bool), Q u5 ∧ Evo [] w w' ∧ v = (.bool u5)) := by
 have hXo := u4
 have E0 : Evo [] w w := RB.refl _ _ _
 have hS : Sub X X := Sub.refl _
 unfold path_part_p at hp
 refine enter_ Tryz.func108 rfl 26 [(0, (.string s))] (by kernel_rfl) (fun Qe hQ => ?_)
 replace hp := hp y7
 refine seq_ (fun _ s7 => ?_)
 refine reg_ ?_
 refine sq (o_pv (.bool false) rfl (by kernel_rfl) ?_)
 refine nil_ ?_
 refine then_normal (s7 _ _ _ _ ?_)
 refine seq_ (fun _ s8 => ?_)
 refine seq_ (fun _ s9 => ?_)
 refine ground_ ?_
 refine join_ 32736 (fun lq u6 => lq = [(14, (.bool (decide (((s : ByteArray) = (ByteArray.mk #[])) ∨ (((s : ByteArray) = (ByteArray.mk #[46])) ∨ ((s : ByteArray) = (ByteArray.mk #[46, 46])))))))] ∧ w = u6) (fun r4 z5 => ?_) ?_
 ·
  refine reg_ ?_
  refine sq (o_pv (.string s) rfl (by kernel_rfl) ?_)
  by_cases z2 : (s : ByteArray) = (ByteArray.mk #[])
  ·
   refine sq (o_pv (.bool true) rfl (x_dt (p := (s : ByteArray) = (ByteArray.mk #[])) (x_streq (by kernel_rfl) (by kernel_rfl)) z2) ?_)
   refine sq (o_pv (.bool true) rfl (by kernel_rfl) ?_)
   refine sq (o_not (by kernel_rfl) ?_)
   refine sq (o_not (by kernel_rfl) ?_)
   refine sq (o_pv (.bool true) rfl (by kernel_rfl) ?_)
   refine sq (o_pv (.bool true) rfl (by kernel_rfl) ?_)
   refine sq (o_not (by kernel_rfl) ?_)
   refine sq (o_not (by kernel_rfl) ?_)
   refine sq (o_pv (.bool true) rfl (by kernel_rfl) ?_)
   refine nil_ ?_
   refine then_normal (z5 _ _ _ ⟨[(14, (.bool (decide (((s : ByteArray) = (ByteArray.mk #[])) ∨ (((s : ByteArray) = (ByteArray.mk #[46])) ∨ ((s : ByteArray) = (ByteArray.mk #[46, 46])))))))], fit_mk (fun _ _ => rfl) (by kernel_rfl) (vs_cons (Eq.trans (b := (.bool true)) (by kernel_rfl) (dec_t (iff_true_intro (Or.inl z2))).symm) vs_nil), rfl, rfl⟩)
  ·
   refine sq (o_pv (.bool false) rfl (x_df (p := (s : ByteArray) = (ByteArray.mk #[])) (x_streq (by kernel_rfl) (by kernel_rfl)) z2) ?_)
   refine sq (o_pv (.bool false) rfl (by kernel_rfl) ?_)
   refine sq (o_pv (.string s) (by kernel_rfl) (by kernel_rfl) ?_)
   by_cases z3 : (s : ByteArray) = (ByteArray.mk #[46])
   ·
    refine sq (o_pv (.bool true) (by kernel_rfl) (x_dt (p := (s : ByteArray) = (ByteArray.mk #[46])) (x_streq (by kernel_rfl) (by kernel_rfl)) z3) ?_)
    refine sq (o_pv (.bool true) rfl (by kernel_rfl) ?_)
    refine sq (o_pv (.bool true) rfl (by kernel_rfl) ?_)
    refine sq (o_not (by kernel_rfl) ?_)
    refine sq (o_not (by kernel_rfl) ?_)
    refine sq (o_pv (.bool true) rfl (by kernel_rfl) ?_)
    refine nil_ ?_
    refine then_normal (z5 _ _ _ ⟨[(14, (.bool (decide (((s : ByteArray) = (ByteArray.mk #[])) ∨ (((s : ByteArray) = (ByteArray.mk #[46])) ∨ ((s : ByteArray) = (ByteArray.mk #[46, 46])))))))], fit_mk (fun _ _ => rfl) (by kernel_rfl) (vs_cons (Eq.trans (b := (.bool true)) (by kernel_rfl) (dec_t ((or_iff_right z2).trans (iff_true_intro (Or.inl z3)))).symm) vs_nil), rfl, rfl⟩)
   ·
    refine sq (o_pv (.bool false) (by kernel_rfl) (x_df (p := (s : ByteArray) = (ByteArray.mk #[46])) (x_streq (by kernel_rfl) (by kernel_rfl)) z3) ?_)
    refine sq (o_pv (.bool false) rfl (by kernel_rfl) ?_)
    refine sq (o_pv (.bool false) rfl (by kernel_rfl) ?_)
    refine sq (o_pv (.string s) (by kernel_rfl) (by kernel_rfl) ?_)
    refine sq (o_pv (.bool (decide ((s : ByteArray) = (ByteArray.mk #[46, 46])))) (by kernel_rfl) (x_streq (by kernel_rfl) (by kernel_rfl)) ?_)
    refine sq (o_pv (.bool (decide ((s : ByteArray) = (ByteArray.mk #[46, 46])))) rfl (by kernel_rfl) ?_)
    refine nil_ ?_
    refine then_normal (z5 _ _ _ ⟨[(14, (.bool (decide (((s : ByteArray) = (ByteArray.mk #[])) ∨ (((s : ByteArray) = (ByteArray.mk #[46])) ∨ ((s : ByteArray) = (ByteArray.mk #[46, 46])))))))], fit_mk (fun _ _ => rfl) (by kernel_rfl) (vs_cons (Eq.trans (b := (.bool (decide ((s : ByteArray) = (ByteArray.mk #[46, 46]))))) (by kernel_rfl) (dec_d ((or_iff_right z2).trans ((or_iff_right z3).trans Iff.rfl))).symm) vs_nil), rfl, rfl⟩)
 ·
  rintro _ u6 r5 ⟨rfl, hw⟩
  subst hw
  refine then_normal (s9 _ _ _ _ ?_)
  refine cond_d (((s : ByteArray) = (ByteArray.mk #[])) ∨ (((s : ByteArray) = (ByteArray.mk #[46])) ∨ ((s : ByteArray) = (ByteArray.mk #[46, 46])))) (by kernel_rfl) (fun z6 => ?_) (fun z6 => ?_)
  ·
   replace hp := hp.1 z6
   refine seq_ (fun _ u7 => ?_)
   refine reg_ ?_
   refine sq (o_pv (.bool false) rfl (by kernel_rfl) ?_)
   refine nil_ ?_
   refine then_normal (u7 _ _ _ _ ?_)
   refine wp_ret ?_
   refine then_ret ?_
   refine end_ret hQ (.bool false) (by kernel_rfl) ?_
   exact ⟨false, hp, E0, rfl⟩
  ·
   replace hp := hp.2 z6
   refine wp_skip ?_
   refine then_normal (s8 _ _ _ _ ?_)
   refine seq_ (fun _ u9 => ?_)
   refine seq_ (fun _ t0 => ?_)
   refine reg_ ?_
   refine sq (o_pv (.string s) rfl (by kernel_rfl) ?_)
   refine sq (o_s2b (X := X) (sv := s) hXo rfl Tryz.underlying9 Tryz.underlying32 Tryz.underlying5 (by kernel_rfl) y7 ?_)
   intro t1 y8 r6 z7 t2
   refine sq (o_pv (.int .i64 ((bytesL s).length : Int)) rfl (by kernel_rfl) ?_)
   refine sq (o_pv (.int .i64 (0 : Int)) rfl (by kernel_rfl) ?_)
   refine nil_ ?_
   refine then_normal (t0 _ _ _ _ ?_)
   refine wp_block ?_
   have y4 := (Old.step hXo z7)
   have t3 := (Evo.then0 E0 (Step.evo z7))
   have v4 := (Sub.trans hS (Step.up z7))
   obtain ⟨t4, y9, v5, hp⟩ := hp
   refine loop_ 66846740 (fun kq lq z4 => ∃ (z1 : List Nat) (z0 : Int), (lq = [(18, (.int .i64 z0))]) ∧ (kq = y9 z0) ∧ (Evo [] w z4) ∧ (Old z1 z4) ∧ (Sub X z1) ∧ (Sl (rInt .u8) z1 z4 t1 y8 (bytesL s)) ∧ (inR .i64 z0) ∧ (t4 z0)) (y9 (0 : Int)) [(18, (.int .i64 (0 : Int)))] (vs_cons (by kernel_rfl) vs_nil) ⟨X, (0 : Int), rfl, rfl, t3, y4, v4, t2, (by decide : inR .i64 (0 : Int)), v5⟩ ?_
   rintro _ _ z4 r7 ⟨z1, z0, rfl, rfl, z8, y5, v6, v0, v7, v8⟩ r0 v9
   replace hp := hp z0 v8 v7
   refine seq_ (fun _ t5 => ?_)
   refine reg_ ?_
   refine sq (o_pv (.bool (decide (z0 < ((bytesL s).length : Int)))) rfl (by kernel_rfl) ?_)
   refine nil_ ?_
   refine then_normal (t5 _ _ _ _ ?_)
   refine seq_ (fun _ t6 => ?_)
   refine cond_d (z0 < ((bytesL s).length : Int)) (by kernel_rfl) (fun z9 => ?_) (fun z9 => ?_)
   ·
    replace hp := hp.1 z9
    refine wp_skip ?_
    refine then_normal (t6 _ _ _ _ ?_)
    refine seq_ (fun _ t7 => ?_)
    refine wp_block ?_
    refine seq_ (fun _ t8 => ?_)
    refine reg_ ?_
    obtain ⟨v1, hp⟩ := hp
    obtain ⟨t9, s0, r1, u0, r2, r3, u1, u2⟩ := Sl.atI v0 z0 v1
    obtain ⟨rfl, y0⟩ := u1
    replace hp := hp y0
    refine sq (o_pv (.pointer (some ⟨t9, s0 + z0.toNat * 1, none⟩)) rfl (x_ixA (m := (bytesL s).length) (c := y8) (k := .i64) (i := z0) Tryz.underlying32 Tryz.sizeOf5 (by rw [← u0]; kernel_rfl) (by kernel_rfl) v1) ?_)
    refine sq (o_pv (.int .u8 (lget (bytesL s) z0)) rfl (x_load1 (by kernel_rfl) Tryz.isAgg5 (u2 0 _ rfl)) ?_)
    refine sq (o_pv (.int .u8 (lget (bytesL s) z0)) rfl (by kernel_rfl) ?_)
    refine nil_ ?_
    refine then_normal (t8 _ _ _ _ ?_)
    refine seq_ (fun _ s1 => ?_)
    refine reg_ ?_
    refine sq (o_pv (.int .u8 (lget (bytesL s) z0)) rfl (by kernel_rfl) ?_)
    refine sq (o_call 119 #[(.int .u8 (lget (bytesL s) z0))] rfl (x_call Tryz.call119 (by kernel_rfl)) (path_good_w (X := []) (c := lget (bytesL s) z0) (Old.nil _) y0 hp) ?_)
    rintro _ r8 ⟨v2, hp, y1, rfl⟩
    have y2 := Step.of0 z1 y1
    refine sq (o_pv (.bool (!v2)) rfl (by kernel_rfl) ?_)
    refine nil_ ?_
    refine then_normal (s1 _ _ _ _ ?_)
    refine cond_b (!v2) (by kernel_rfl) (fun y3 => ?_) (fun y3 => ?_)
    ·
     replace hp := hp.1 y3
     refine seq_ (fun _ s2 => ?_)
     refine reg_ ?_
     refine sq (o_pv (.bool false) rfl (by kernel_rfl) ?_)
     refine nil_ ?_
     refine then_normal (s2 _ _ _ _ ?_)
     refine wp_ret ?_
     refine blk_ret ?_
     refine then_ret ?_
     refine then_ret ?_
     refine blk_ret ?_
     refine then_ret ?_
     have s3 := (Evo.then0 z8 y1)
     refine end_ret hQ (.bool false) (by kernel_rfl) ?_
     exact ⟨false, hp, s3, rfl⟩
    ·
     replace hp := hp.2 y3
     refine wp_skip ?_
     refine blk_normal ?_
     refine then_normal (t7 _ _ _ _ ?_)
     refine reg_ ?_
     obtain ⟨v3, hp⟩ := hp
     refine sq (o_pv (.int .i64 (z0 + (1 : Int))) rfl (x_add2 (k := .i64) (a := z0) (b := (1 : Int)) (z0 + (1 : Int)) (by kernel_rfl) (by kernel_rfl) (wrap_inR v3)) ?_)
     refine sq (o_pv (.int .i64 (z0 + (1 : Int))) rfl (by kernel_rfl) ?_)
     refine nil_ ?_
     have s4 := (Evo.then0 z8 y1)
     have y6 := (Old.step y5 y2)
     have u3 := (Sub.trans v6 (Step.up y2))
     have s5 := (Sl.step v0 y2)
     refine then_normal (v9 _ _ _ ⟨_, [(18, (.int .i64 (z0 + (1 : Int))))], hp.2, fit_mk (AgB.mix _ _ _) (by kernel_rfl) (vs_cons (by kernel_rfl) vs_nil), ?_⟩)
     exact ⟨z1, (z0 + (1 : Int)), rfl, rfl, s4, y6, u3, s5, v3, hp.1⟩
   ·
    replace hp := hp.2 z9
    refine wp_exit ?_
    refine then_exit ?_
    refine then_exit ?_
    refine blk_exit ?_
    refine then_normal (u9 _ _ _ _ ?_)
    refine seq_ (fun _ s6 => ?_)
    refine reg_ ?_
    refine sq (o_pv (.bool true) rfl (by kernel_rfl) ?_)
    refine nil_ ?_
    refine then_normal (s6 _ _ _ _ ?_)
    refine wp_ret ?_
    refine end_ret hQ (.bool true) (by kernel_rfl) ?_
    exact ⟨true, hp, z8, rfl⟩
def path_Check_p (p : ByteArray) (Q : Int → Prop) : Prop :=
 ((p.size ≤ maxLen) → ((((p.size : Int) > (64 : Int)) → Q (4 : Int)) ∧ ((¬ ((p.size : Int) > (64 : Int))) → (strings_Split_p p (ByteArray.mk #[47]) (fun (z1 : (List ByteArray)) => ((z1.length ≤ 9223372036854775807) → (∃ (z2 : Int → Prop) (z3 : Int → Nat), (z2 (0 : Int)) ∧ (∀ (z0 : Int), (z2 z0) → (inR .i64 z0) → (((z0 < (z1.length : Int)) → ((inL z1 z0) ∧ (((lget z1 z0).size ≤ maxLen) → (path_part_p (lget z1 z0) (fun (z4 : Bool) => ((((!z4) = true) → Q (5 : Int)) ∧ (((!z4) = false) → ((inR .i64 (z0 + (1 : Int))) ∧ ((z2 (z0 + (1 : Int))) ∧ z3 (z0 + (1 : Int)) < z3 z0))))))))) ∧ ((¬ (z0 < (z1.length : Int))) → Q (0 : Int)))))))))))
set_option maxRecDepth 20000 in
set_option maxHeartbeats 4000000 in
theorem path_Check_w {X : List Nat} {w : World} {p : ByteArray} {Q : Int → Prop} (u7 : Old X w) (y6 : p.size ≤ maxLen) (hp : path_Check_p p Q) :
  Calls Tryz.prog 82 #[(.string p)] w (Ret fun v w' => ∃ (v3 : Int), Q v3 ∧ Evo [] w w' ∧ v = (.int .i64 v3) ∧ inR .i64 v3) := by
 have hXo := u7
 have E0 : Evo [] w w := RB.refl _ _ _
 have hS : Sub X X := Sub.refl _
 unfold path_Check_p at hp
 refine enter_ Tryz.func82 rfl 19 [(0, (.string p))] (by kernel_rfl) (fun Qe hQ => ?_)
 replace hp := hp y6
 refine seq_ (fun _ s2 => ?_)
 refine reg_ ?_
 refine sq (o_pv (.int .i64 (0 : Int)) rfl (by kernel_rfl) ?_)
 refine nil_ ?_
 refine then_normal (s2 _ _ _ _ ?_)
 refine seq_ (fun _ s3 => ?_)
 refine seq_ (fun _ s4 => ?_)
 refine reg_ ?_
 refine sq (o_pv (.string p) rfl (by kernel_rfl) ?_)
 refine sq (o_pv (.int .i64 (p.size : Int)) rfl (by kernel_rfl) ?_)
 refine sq (o_pv (.bool (decide ((p.size : Int) > (64 : Int)))) rfl (by kernel_rfl) ?_)
 refine nil_ ?_
 refine then_normal (s4 _ _ _ _ ?_)
 refine cond_d ((p.size : Int) > (64 : Int)) (by kernel_rfl) (fun v4 => ?_) (fun v4 => ?_)
 ·
  replace hp := hp.1 v4
  refine seq_ (fun _ s5 => ?_)
  refine reg_ ?_
  refine sq (o_pv (.int .i64 (4 : Int)) rfl (by kernel_rfl) ?_)
  refine nil_ ?_
  refine then_normal (s5 _ _ _ _ ?_)
  refine wp_ret ?_
  refine then_ret ?_
  refine end_ret hQ (.int .i64 (4 : Int)) (by kernel_rfl) ?_
  exact ⟨(4 : Int), hp, E0, rfl, (by decide : inR .i64 (4 : Int))⟩
 ·
  replace hp := hp.2 v4
  refine wp_skip ?_
  refine then_normal (s3 _ _ _ _ ?_)
  refine seq_ (fun _ s6 => ?_)
  refine seq_ (fun _ s7 => ?_)
  refine reg_ ?_
  refine sq (o_pv (.string p) rfl (by kernel_rfl) ?_)
  refine sq (o_call 107 #[(.string p), (.string (ByteArray.mk #[47]))] rfl (x_call Tryz.call107 (by kernel_rfl)) (strings_Split_w (X := X) (s := p) (sep := (ByteArray.mk #[47])) hXo y6 (by decide : (ByteArray.mk #[47]).size ≤ maxLen) hp) ?_)
  rintro _ r2 ⟨z1, hp, y7, v5, z4, rfl, z5⟩
  have y8 := Step.of0 X y7
  replace hp := hp (Sl.len z5)
  refine sq (o_pv (.int .i64 (z1.length : Int)) rfl (by kernel_rfl) ?_)
  refine sq (o_pv (.int .i64 (0 : Int)) rfl (by kernel_rfl) ?_)
  refine nil_ ?_
  refine then_normal (s7 _ _ _ _ ?_)
  refine wp_block ?_
  have y3 := (Old.step hXo y8)
  have u9 := (Evo.then0 E0 y7)
  have v6 := (Sub.trans hS (Step.up y8))
  obtain ⟨t0, y9, v7, hp⟩ := hp
  refine loop_ 522260 (fun kq lq z3 => ∃ (z2 : List Nat) (z0 : Int), (lq = [(11, (.int .i64 z0))]) ∧ (kq = y9 z0) ∧ (Evo [] w z3) ∧ (Old z2 z3) ∧ (Sub X z2) ∧ (Sl rStr z2 z3 v5 z4 z1) ∧ (inR .i64 z0) ∧ (t0 z0)) (y9 (0 : Int)) [(11, (.int .i64 (0 : Int)))] (vs_cons (by kernel_rfl) vs_nil) ⟨X, (0 : Int), rfl, rfl, u9, y3, v6, z5, (by decide : inR .i64 (0 : Int)), v7⟩ ?_
  rintro _ _ z3 r3 ⟨z2, z0, rfl, rfl, z6, y4, v8, z7, v9, u0⟩ s8 u1
  replace hp := hp z0 u0 v9
  refine seq_ (fun _ t1 => ?_)
  refine reg_ ?_
  refine sq (o_pv (.bool (decide (z0 < (z1.length : Int)))) rfl (by kernel_rfl) ?_)
  refine nil_ ?_
  refine then_normal (t1 _ _ _ _ ?_)
  refine seq_ (fun _ t2 => ?_)
  refine cond_d (z0 < (z1.length : Int)) (by kernel_rfl) (fun z8 => ?_) (fun z8 => ?_)
  ·
   replace hp := hp.1 z8
   refine wp_skip ?_
   refine then_normal (t2 _ _ _ _ ?_)
   refine seq_ (fun _ t3 => ?_)
   refine wp_block ?_
   refine seq_ (fun _ t4 => ?_)
   refine reg_ ?_
   obtain ⟨v0, hp⟩ := hp
   obtain ⟨t5, t6, s9, u2, r0, r1, u3, u4⟩ := Sl.atI z7 z0 v0
   obtain ⟨rfl, z9⟩ := u3
   replace hp := hp z9
   refine sq (o_pv (.pointer (some ⟨t5, t6 + z0.toNat * 1, none⟩)) rfl (x_ixA (m := z1.length) (c := z4) (k := .i64) (i := z0) Tryz.underlying72 Tryz.sizeOf9 (by rw [← u2]; kernel_rfl) (by kernel_rfl) v0) ?_)
   refine sq (o_pv (.string (lget z1 z0)) rfl (x_load1 (by kernel_rfl) Tryz.isAgg9 (u4 0 _ rfl)) ?_)
   refine sq (o_pv (.string (lget z1 z0)) rfl (by kernel_rfl) ?_)
   refine nil_ ?_
   refine then_normal (t4 _ _ _ _ ?_)
   refine seq_ (fun _ t7 => ?_)
   refine reg_ ?_
   refine sq (o_pv (.string (lget z1 z0)) rfl (by kernel_rfl) ?_)
   refine sq (o_call 108 #[(.string (lget z1 z0))] rfl (x_call Tryz.call108 (by kernel_rfl)) (path_part_w (X := []) (s := lget z1 z0) (Old.nil _) z9 hp) ?_)
   rintro _ r4 ⟨v1, hp, y0, rfl⟩
   have y1 := Step.of0 z2 y0
   refine sq (o_pv (.bool (!v1)) rfl (by kernel_rfl) ?_)
   refine nil_ ?_
   refine then_normal (t7 _ _ _ _ ?_)
   refine cond_b (!v1) (by kernel_rfl) (fun y2 => ?_) (fun y2 => ?_)
   ·
    replace hp := hp.1 y2
    refine seq_ (fun _ t8 => ?_)
    refine reg_ ?_
    refine sq (o_pv (.int .i64 (5 : Int)) rfl (by kernel_rfl) ?_)
    refine nil_ ?_
    refine then_normal (t8 _ _ _ _ ?_)
    refine wp_ret ?_
    refine blk_ret ?_
    refine then_ret ?_
    refine then_ret ?_
    refine blk_ret ?_
    refine then_ret ?_
    have t9 := (Evo.then0 z6 y0)
    refine end_ret hQ (.int .i64 (5 : Int)) (by kernel_rfl) ?_
    exact ⟨(5 : Int), hp, t9, rfl, (by decide : inR .i64 (5 : Int))⟩
   ·
    replace hp := hp.2 y2
    refine wp_skip ?_
    refine blk_normal ?_
    refine then_normal (t3 _ _ _ _ ?_)
    refine reg_ ?_
    obtain ⟨v2, hp⟩ := hp
    refine sq (o_pv (.int .i64 (z0 + (1 : Int))) rfl (x_add2 (k := .i64) (a := z0) (b := (1 : Int)) (z0 + (1 : Int)) (by kernel_rfl) (by kernel_rfl) (wrap_inR v2)) ?_)
    refine sq (o_pv (.int .i64 (z0 + (1 : Int))) rfl (by kernel_rfl) ?_)
    refine nil_ ?_
    have s0 := (Evo.then0 z6 y0)
    have y5 := (Old.step y4 y1)
    have u5 := (Sub.trans v8 (Step.up y1))
    have u6 := (Sl.step z7 y1)
    refine then_normal (u1 _ _ _ ⟨_, [(11, (.int .i64 (z0 + (1 : Int))))], hp.2, fit_mk (AgB.mix _ _ _) (by kernel_rfl) (vs_cons (by kernel_rfl) vs_nil), ?_⟩)
    exact ⟨z2, (z0 + (1 : Int)), rfl, rfl, s0, y5, u5, u6, v2, hp.1⟩
  ·
   replace hp := hp.2 z8
   refine wp_exit ?_
   refine then_exit ?_
   refine then_exit ?_
   refine blk_exit ?_
   refine then_normal (s6 _ _ _ _ ?_)
   refine seq_ (fun _ s1 => ?_)
   refine reg_ ?_
   refine sq (o_pv (.int .i64 (0 : Int)) rfl (by kernel_rfl) ?_)
   refine nil_ ?_
   refine then_normal (s1 _ _ _ _ ?_)
   refine wp_ret ?_
   refine end_ret hQ (.int .i64 (0 : Int)) (by kernel_rfl) ?_
   exact ⟨(0 : Int), hp, z6, rfl, (by decide : inR .i64 (0 : Int))⟩
def internal_stringslite_HasPrefix_p (s : ByteArray) (prefix_ : ByteArray) (Q : Bool → Prop) : Prop :=
 ((s.size ≤ maxLen) → ((prefix_.size ≤ maxLen) → (((((s.size : Int) ≥ (prefix_.size : Int)) → ((0 ≤ (0 : Int) ∧ (0 : Int) ≤ (prefix_.size : Int) ∧ (prefix_.size : Int) ≤ (s.size : Int)) ∧ True)) ∧ ((¬ ((s.size : Int) ≥ (prefix_.size : Int))) → True)) ∧ Q (decide (((s.size : Int) ≥ (prefix_.size : Int)) ∧ ((bsub s (0 : Int) (prefix_.size : Int) : ByteArray) = prefix_))))))
set_option maxRecDepth 20000 in
set_option maxHeartbeats 4000000 in
theorem internal_stringslite_HasPrefix_w {X : List Nat} {w : World} {s : ByteArray} {prefix_ : ByteArray} {Q : Bool → Prop} (z3 : Old X w) (z4 : s.size ≤ maxLen) (z1 : prefix_.size ≤ maxLen) (hp : internal_stringslite_HasPrefix_p s prefix_ Q) :
  Calls Tryz.prog 120 #[(.string s), (.string prefix_)] w (Ret fun v w' => ∃ (z5 : Bool), Q z5 ∧ Evo [] w w' ∧ v = (.bool z5)) := by
 have hXo := z3
 have E0 : Evo [] w w := RB.refl _ _ _
 have hS : Sub X X := Sub.refl _
 unfold internal_stringslite_HasPrefix_p at hp
 refine enter_ Tryz.func120 rfl 18 [(0, (.string s)), (1, (.string prefix_))] (by kernel_rfl) (fun Qe hQ => ?_)
 replace hp := hp z4
 replace hp := hp z1
 refine seq_ (fun _ z8 => ?_)
 refine reg_ ?_
 refine sq (o_pv (.bool false) rfl (by kernel_rfl) ?_)
 refine nil_ ?_
 refine then_normal (z8 _ _ _ _ ?_)
 refine seq_ (fun _ z9 => ?_)
 obtain ⟨hp, hq⟩ := hp
 refine ground_ ?_
 refine join_ 262128 (fun lq z6 => lq = [(4, (.bool (decide (((s.size : Int) ≥ (prefix_.size : Int)) ∧ ((bsub s (0 : Int) (prefix_.size : Int) : ByteArray) = prefix_)))))] ∧ w = z6) (fun y0 z2 => ?_) ?_
 ·
  refine reg_ ?_
  refine sq (o_pv (.string s) rfl (by kernel_rfl) ?_)
  refine sq (o_pv (.int .i64 (s.size : Int)) rfl (by kernel_rfl) ?_)
  refine sq (o_pv (.string prefix_) rfl (by kernel_rfl) ?_)
  refine sq (o_pv (.int .i64 (prefix_.size : Int)) rfl (by kernel_rfl) ?_)
  by_cases z0 : (s.size : Int) ≥ (prefix_.size : Int)
  ·
   replace hp := hp.1 z0
   refine sq (o_pv (.bool true) rfl (x_dt (p := (s.size : Int) ≥ (prefix_.size : Int)) (by kernel_rfl) z0) ?_)
   refine sq (o_pv (.bool true) rfl (by kernel_rfl) ?_)
   refine sq (o_pv (.string s) (by kernel_rfl) (by kernel_rfl) ?_)
   refine sq (o_pv (.string prefix_) (by kernel_rfl) (by kernel_rfl) ?_)
   refine sq (o_pv (.int .i64 (prefix_.size : Int)) (by kernel_rfl) (by kernel_rfl) ?_)
   obtain ⟨z7, hp⟩ := hp
   refine sq (o_pv (.string (bsub s (0 : Int) (prefix_.size : Int))) (by kernel_rfl) (x_sub01 (k := .i64) (by kernel_rfl)  (by kernel_rfl) Tryz.underlying9 z7) ?_)
   refine sq (o_pv (.string prefix_) (by kernel_rfl) (by kernel_rfl) ?_)
   refine sq (o_pv (.bool (decide ((bsub s (0 : Int) (prefix_.size : Int) : ByteArray) = prefix_))) (by kernel_rfl) (x_streq (by kernel_rfl) (by kernel_rfl)) ?_)
   refine sq (o_pv (.bool (decide ((bsub s (0 : Int) (prefix_.size : Int) : ByteArray) = prefix_))) rfl (by kernel_rfl) ?_)
   refine sq (o_pv (.bool (decide ((bsub s (0 : Int) (prefix_.size : Int) : ByteArray) = prefix_))) rfl (by kernel_rfl) ?_)
   refine nil_ ?_
   refine then_normal (z2 _ _ _ ⟨[(4, (.bool (decide (((s.size : Int) ≥ (prefix_.size : Int)) ∧ ((bsub s (0 : Int) (prefix_.size : Int) : ByteArray) = prefix_)))))], fit_mk (fun _ _ => rfl) (by kernel_rfl) (vs_cons (Eq.trans (b := (.bool (decide ((bsub s (0 : Int) (prefix_.size : Int) : ByteArray) = prefix_)))) (by kernel_rfl) (dec_d ((and_iff_right z0).trans Iff.rfl)).symm) vs_nil), rfl, rfl⟩)
  ·
   replace hp := hp.2 z0
   refine sq (o_pv (.bool false) rfl (x_df (p := (s.size : Int) ≥ (prefix_.size : Int)) (by kernel_rfl) z0) ?_)
   refine sq (o_pv (.bool false) rfl (by kernel_rfl) ?_)
   refine sq (o_not (by kernel_rfl) ?_)
   refine sq (o_not (by kernel_rfl) ?_)
   refine sq (o_not (by kernel_rfl) ?_)
   refine sq (o_not (by kernel_rfl) ?_)
   refine sq (o_not (by kernel_rfl) ?_)
   refine sq (o_not (by kernel_rfl) ?_)
   refine sq (o_pv (.bool false) rfl (by kernel_rfl) ?_)
   refine sq (o_pv (.bool false) rfl (by kernel_rfl) ?_)
   refine nil_ ?_
   refine then_normal (z2 _ _ _ ⟨[(4, (.bool (decide (((s.size : Int) ≥ (prefix_.size : Int)) ∧ ((bsub s (0 : Int) (prefix_.size : Int) : ByteArray) = prefix_)))))], fit_mk (fun _ _ => rfl) (by kernel_rfl) (vs_cons (Eq.trans (b := (.bool false)) (by kernel_rfl) (dec_f (iff_false_intro (fun h => z0 h.1))).symm) vs_nil), rfl, rfl⟩)
 ·
  rintro _ z6 y1 ⟨rfl, hw⟩
  subst hw
  have hp := hq
  refine then_normal (z9 _ _ _ _ ?_)
  refine wp_ret ?_
  refine end_ret hQ (.bool (decide (((s.size : Int) ≥ (prefix_.size : Int)) ∧ ((bsub s (0 : Int) (prefix_.size : Int) : ByteArray) = prefix_)))) (by kernel_rfl) ?_
  exact ⟨(decide (((s.size : Int) ≥ (prefix_.size : Int)) ∧ ((bsub s (0 : Int) (prefix_.size : Int) : ByteArray) = prefix_))), hp, E0, rfl⟩
def strings_HasPrefix_p (s : ByteArray) (prefix_ : ByteArray) (Q : Bool → Prop) : Prop :=
 ((s.size ≤ maxLen) → ((prefix_.size ≤ maxLen) → (internal_stringslite_HasPrefix_p s prefix_ (fun (z0 : Bool) => Q z0))))
set_option maxRecDepth 20000 in
set_option maxHeartbeats 4000000 in
theorem strings_HasPrefix_w {X : List Nat} {w : World} {s : ByteArray} {prefix_ : ByteArray} {Q : Bool → Prop} (z3 : Old X w) (z1 : s.size ≤ maxLen) (z0 : prefix_.size ≤ maxLen) (hp : strings_HasPrefix_p s prefix_ Q) :
  Calls Tryz.prog 109 #[(.string s), (.string prefix_)] w (Ret fun v w' => ∃ (z4 : Bool), Q z4 ∧ Evo [] w w' ∧ v = (.bool z4)) := by
 have hXo := z3
 have E0 : Evo [] w w := RB.refl _ _ _
 have hS : Sub X X := Sub.refl _
 unfold strings_HasPrefix_p at hp
 refine enter_ Tryz.func109 rfl 8 [(0, (.string s)), (1, (.string prefix_))] (by kernel_rfl) (fun Qe hQ => ?_)
 replace hp := hp z1
 replace hp := hp z0
 refine seq_ (fun _ z5 => ?_)
 refine reg_ ?_
 refine sq (o_pv (.bool false) rfl (by kernel_rfl) ?_)
 refine nil_ ?_
 refine then_normal (z5 _ _ _ _ ?_)
 refine seq_ (fun _ z6 => ?_)
 refine reg_ ?_
 refine sq (o_pv (.string s) rfl (by kernel_rfl) ?_)
 refine sq (o_pv (.string prefix_) rfl (by kernel_rfl) ?_)
 refine sq (o_call 120 #[(.string s), (.string prefix_)] rfl (x_call Tryz.call120 (by kernel_rfl)) (internal_stringslite_HasPrefix_w (X := []) (s := s) (prefix_ := prefix_) (Old.nil _) z1 z0 hp) ?_)
 rintro _ z9 ⟨z2, hp, z7, rfl⟩
 refine sq (o_pv (.bool z2) rfl (by kernel_rfl) ?_)
 refine nil_ ?_
 refine then_normal (z6 _ _ _ _ ?_)
 refine wp_ret ?_
 have z8 := (Evo.then0 E0 z7)
 refine end_ret hQ (.bool z2) (by kernel_rfl) ?_
 exact ⟨z2, hp, z8, rfl⟩
def path_Under_p (p : ByteArray) (dir : ByteArray) (Q : Bool → Prop) : Prop :=
 ((p.size ≤ maxLen) → ((dir.size ≤ maxLen) → ((((dir : ByteArray) = (ByteArray.mk #[])) → Q (!decide ((p : ByteArray) = (ByteArray.mk #[])))) ∧ ((¬ ((dir : ByteArray) = (ByteArray.mk #[]))) → (∃ z0 : Bool → Prop, (∀ (z1 : Bool), z0 z1 → Q z1) ∧ ((inR .i64 ((dir.size : Int) + (1 : Int))) ∧ ((((p.size : Int) > ((dir.size : Int) + (1 : Int))) → (((dir ++ (ByteArray.mk #[47])).size ≤ maxLen) ∧ (strings_HasPrefix_p p (dir ++ (ByteArray.mk #[47])) (fun (z2 : Bool) => (z0 z2))))) ∧ ((¬ ((p.size : Int) > ((dir.size : Int) + (1 : Int)))) → (z0 false)))))))))
set_option maxRecDepth 20000 in
set_option maxHeartbeats 4000000 in
theorem path_Under_w {X : List Nat} {w : World} {p : ByteArray} {dir : ByteArray} {Q : Bool → Prop} (y6 : Old X w) (z8 : p.size ≤ maxLen) (z6 : dir.size ≤ maxLen) (hp : path_Under_p p dir Q) :
  Calls Tryz.prog 88 #[(.string p), (.string dir)] w (Ret fun v w' => ∃ (y7 : Bool), Q y7 ∧ Evo [] w w' ∧ v = (.bool y7)) := by
 have hXo := y6
 have E0 : Evo [] w w := RB.refl _ _ _
 have hS : Sub X X := Sub.refl _
 unfold path_Under_p at hp
 refine enter_ Tryz.func88 rfl 21 [(0, (.string p)), (1, (.string dir))] (by kernel_rfl) (fun Qe hQ => ?_)
 replace hp := hp z8
 replace hp := hp z6
 refine seq_ (fun _ v3 => ?_)
 refine reg_ ?_
 refine sq (o_pv (.bool false) rfl (by kernel_rfl) ?_)
 refine nil_ ?_
 refine then_normal (v3 _ _ _ _ ?_)
 refine seq_ (fun _ v4 => ?_)
 refine seq_ (fun _ v5 => ?_)
 refine reg_ ?_
 refine sq (o_pv (.string dir) rfl (by kernel_rfl) ?_)
 refine sq (o_pv (.bool (decide ((dir : ByteArray) = (ByteArray.mk #[])))) rfl (x_streq (by kernel_rfl) (by kernel_rfl)) ?_)
 refine nil_ ?_
 refine then_normal (v5 _ _ _ _ ?_)
 refine cond_d ((dir : ByteArray) = (ByteArray.mk #[])) (by kernel_rfl) (fun y2 => ?_) (fun y2 => ?_)
 ·
  replace hp := hp.1 y2
  refine seq_ (fun _ v6 => ?_)
  refine reg_ ?_
  refine sq (o_pv (.string p) rfl (by kernel_rfl) ?_)
  refine sq (o_pv (.bool (!decide ((p : ByteArray) = (ByteArray.mk #[])))) rfl (x_strne (by kernel_rfl) (by kernel_rfl)) ?_)
  refine sq (o_pv (.bool (!decide ((p : ByteArray) = (ByteArray.mk #[])))) rfl (by kernel_rfl) ?_)
  refine nil_ ?_
  refine then_normal (v6 _ _ _ _ ?_)
  refine wp_ret ?_
  refine then_ret ?_
  refine end_ret hQ (.bool (!decide ((p : ByteArray) = (ByteArray.mk #[])))) (by kernel_rfl) ?_
  exact ⟨(!decide ((p : ByteArray) = (ByteArray.mk #[]))), hp, E0, rfl⟩
 ·
  replace hp := hp.2 y2
  refine wp_skip ?_
  refine then_normal (v4 _ _ _ _ ?_)
  refine seq_ (fun _ v7 => ?_)
  obtain ⟨y8, y3, hp⟩ := hp
  refine ground_ ?_
  refine join_ 2096656 (fun lq z3 => ∃ (z4 : List Nat) (z0 : Bool), (lq = [(4, (.bool z0))]) ∧ (Evo [] w z3) ∧ (Old z4 z3) ∧ (Sub X z4) ∧ (y8 z0)) (fun v8 z5 => ?_) ?_
  ·
   refine reg_ ?_
   refine sq (o_pv (.string p) rfl (by kernel_rfl) ?_)
   refine sq (o_pv (.int .i64 (p.size : Int)) rfl (by kernel_rfl) ?_)
   refine sq (o_pv (.string dir) rfl (by kernel_rfl) ?_)
   refine sq (o_pv (.int .i64 (dir.size : Int)) rfl (by kernel_rfl) ?_)
   obtain ⟨y9, hp⟩ := hp
   refine sq (o_pv (.int .i64 ((dir.size : Int) + (1 : Int))) rfl (x_add2 (k := .i64) (a := (dir.size : Int)) (b := (1 : Int)) ((dir.size : Int) + (1 : Int)) (by kernel_rfl) (by kernel_rfl) (wrap_inR y9)) ?_)
   by_cases z1 : (p.size : Int) > ((dir.size : Int) + (1 : Int))
   ·
    replace hp := hp.1 z1
    refine sq (o_pv (.bool true) rfl (x_dt (p := (p.size : Int) > ((dir.size : Int) + (1 : Int))) (by kernel_rfl) z1) ?_)
    refine sq (o_pv (.bool true) rfl (by kernel_rfl) ?_)
    refine sq (o_pv (.string p) (by kernel_rfl) (by kernel_rfl) ?_)
    refine sq (o_pv (.string dir) (by kernel_rfl) (by kernel_rfl) ?_)
    obtain ⟨z9, hp⟩ := hp
    refine sq (o_pv (.string (dir ++ (ByteArray.mk #[47]))) (by kernel_rfl) (x_cat (by kernel_rfl) (by kernel_rfl) z9) ?_)
    refine sq (o_call 109 #[(.string p), (.string (dir ++ (ByteArray.mk #[47])))] (by kernel_rfl) (x_call Tryz.call109 (by kernel_rfl)) (strings_HasPrefix_w (X := []) (s := p) (prefix_ := dir ++ (ByteArray.mk #[47])) (Old.nil _) z8 z9 hp) ?_)
    rintro _ u0 ⟨z2, hp, y0, rfl⟩
    have y1 := Step.of0 X y0
    refine sq (o_pv (.bool z2) rfl (by kernel_rfl) ?_)
    refine sq (o_pv (.bool z2) rfl (by kernel_rfl) ?_)
    refine nil_ ?_
    have v0 := (Evo.then0 E0 y0)
    have z7 := (Old.step hXo y1)
    have y4 := (Sub.trans hS (Step.up y1))
    refine then_normal (z5 _ _ _ ⟨[(4, (.bool z2))], fit_mk (fun _ _ => rfl) (by kernel_rfl) (vs_cons (by kernel_rfl) vs_nil), ?_⟩)
    exact ⟨X, z2, rfl, v0, z7, y4, hp⟩
   ·
    replace hp := hp.2 z1
    refine sq (o_pv (.bool false) rfl (x_df (p := (p.size : Int) > ((dir.size : Int) + (1 : Int))) (by kernel_rfl) z1) ?_)
    refine sq (o_pv (.bool false) rfl (by kernel_rfl) ?_)
    refine sq (o_not (by kernel_rfl) ?_)
    refine sq (o_not (by kernel_rfl) ?_)
    refine sq (o_not (by kernel_rfl) ?_)
    refine sq (o_not (by kernel_rfl) ?_)
    refine sq (o_pv (.bool false) rfl (by kernel_rfl) ?_)
    refine sq (o_pv (.bool false) rfl (by kernel_rfl) ?_)
    refine nil_ ?_
    refine then_normal (z5 _ _ _ ⟨[(4, (.bool false))], fit_mk (fun _ _ => rfl) (by kernel_rfl) (vs_cons (by kernel_rfl) vs_nil), ?_⟩)
    exact ⟨X, false, rfl, E0, hXo, hS, hp⟩
  ·
   rintro _ z3 u1 ⟨z4, z0, rfl, v1, v2, v9, y5⟩
   replace hp := y3 z0 y5
   refine then_normal (v7 _ _ _ _ ?_)
   refine wp_ret ?_
   refine end_ret hQ (.bool z0) (by kernel_rfl) ?_
   exact ⟨z0, hp, v1, rfl⟩
def path_Clash_p (a : ByteArray) (b : ByteArray) (Q : Bool → Prop) : Prop :=
 ((a.size ≤ maxLen) → ((b.size ≤ maxLen) → (∃ z0 : Bool → Prop, (∀ (z1 : Bool), z0 z1 → Q z1) ∧ ((((a : ByteArray) = (ByteArray.mk #[])) → (z0 false)) ∧ ((¬ ((a : ByteArray) = (ByteArray.mk #[]))) → ((((b : ByteArray) = (ByteArray.mk #[])) → (z0 false)) ∧ ((¬ ((b : ByteArray) = (ByteArray.mk #[]))) → (path_Under_p a b (fun (z2 : Bool) => (((z2 = true) → (z0 true)) ∧ ((z2 = false) → (path_Under_p b a (fun (z3 : Bool) => (z0 z3))))))))))))))
set_option maxRecDepth 20000 in
set_option maxHeartbeats 4000000 in
theorem path_Clash_w {X : List Nat} {w : World} {a : ByteArray} {b : ByteArray} {Q : Bool → Prop} (y9 : Old X w) (z6 : a.size ≤ maxLen) (z7 : b.size ≤ maxLen) (hp : path_Clash_p a b Q) :
  Calls Tryz.prog 89 #[(.string a), (.string b)] w (Ret fun v w' => ∃ (v0 : Bool), Q v0 ∧ Evo [] w w' ∧ v = (.bool v0)) := by
 have hXo := y9
 have E0 : Evo [] w w := RB.refl _ _ _
 have hS : Sub X X := Sub.refl _
 unfold path_Clash_p at hp
 refine enter_ Tryz.func89 rfl 21 [(0, (.string a)), (1, (.string b))] (by kernel_rfl) (fun Qe hQ => ?_)
 replace hp := hp z6
 replace hp := hp z7
 refine seq_ (fun _ v7 => ?_)
 refine reg_ ?_
 refine sq (o_pv (.bool false) rfl (by kernel_rfl) ?_)
 refine nil_ ?_
 refine then_normal (v7 _ _ _ _ ?_)
 refine seq_ (fun _ v8 => ?_)
 obtain ⟨v1, y5, hp⟩ := hp
 refine ground_ ?_
 refine join_ 2097136 (fun lq z8 => ∃ (z9 : List Nat) (z0 : Bool), (lq = [(4, (.bool z0))]) ∧ (Evo [] w z8) ∧ (Old z9 z8) ∧ (Sub X z9) ∧ (v1 z0)) (fun v9 z1 => ?_) ?_
 ·
  refine reg_ ?_
  refine sq (o_pv (.string a) rfl (by kernel_rfl) ?_)
  by_cases z3 : (a : ByteArray) = (ByteArray.mk #[])
  ·
   replace hp := hp.1 z3
   refine sq (o_pv (.bool false) rfl (x_ndf (p := (a : ByteArray) = (ByteArray.mk #[])) (x_strne (by kernel_rfl) (by kernel_rfl)) z3) ?_)
   refine sq (o_pv (.bool false) rfl (by kernel_rfl) ?_)
   refine sq (o_not (by kernel_rfl) ?_)
   refine sq (o_not (by kernel_rfl) ?_)
   refine sq (o_pv (.bool false) rfl (by kernel_rfl) ?_)
   refine sq (o_pv (.bool false) rfl (by kernel_rfl) ?_)
   refine sq (o_not (by kernel_rfl) ?_)
   refine sq (o_not (by kernel_rfl) ?_)
   refine sq (o_not (by kernel_rfl) ?_)
   refine sq (o_not (by kernel_rfl) ?_)
   refine sq (o_not (by kernel_rfl) ?_)
   refine sq (o_not (by kernel_rfl) ?_)
   refine sq (o_not (by kernel_rfl) ?_)
   refine sq (o_not (by kernel_rfl) ?_)
   refine sq (o_pv (.bool false) rfl (by kernel_rfl) ?_)
   refine sq (o_pv (.bool false) rfl (by kernel_rfl) ?_)
   refine nil_ ?_
   refine then_normal (z1 _ _ _ ⟨[(4, (.bool false))], fit_mk (fun _ _ => rfl) (by kernel_rfl) (vs_cons (by kernel_rfl) vs_nil), ?_⟩)
   exact ⟨X, false, rfl, E0, hXo, hS, hp⟩
  ·
   replace hp := hp.2 z3
   refine sq (o_pv (.bool true) rfl (x_ndt (p := (a : ByteArray) = (ByteArray.mk #[])) (x_strne (by kernel_rfl) (by kernel_rfl)) z3) ?_)
   refine sq (o_pv (.bool true) rfl (by kernel_rfl) ?_)
   refine sq (o_pv (.string b) (by kernel_rfl) (by kernel_rfl) ?_)
   by_cases z4 : (b : ByteArray) = (ByteArray.mk #[])
   ·
    replace hp := hp.1 z4
    refine sq (o_pv (.bool false) (by kernel_rfl) (x_ndf (p := (b : ByteArray) = (ByteArray.mk #[])) (x_strne (by kernel_rfl) (by kernel_rfl)) z4) ?_)
    refine sq (o_pv (.bool false) rfl (by kernel_rfl) ?_)
    refine sq (o_pv (.bool false) rfl (by kernel_rfl) ?_)
    refine sq (o_not (by kernel_rfl) ?_)
    refine sq (o_not (by kernel_rfl) ?_)
    refine sq (o_not (by kernel_rfl) ?_)
    refine sq (o_not (by kernel_rfl) ?_)
    refine sq (o_not (by kernel_rfl) ?_)
    refine sq (o_not (by kernel_rfl) ?_)
    refine sq (o_not (by kernel_rfl) ?_)
    refine sq (o_not (by kernel_rfl) ?_)
    refine sq (o_pv (.bool false) rfl (by kernel_rfl) ?_)
    refine sq (o_pv (.bool false) rfl (by kernel_rfl) ?_)
    refine nil_ ?_
    refine then_normal (z1 _ _ _ ⟨[(4, (.bool false))], fit_mk (fun _ _ => rfl) (by kernel_rfl) (vs_cons (by kernel_rfl) vs_nil), ?_⟩)
    exact ⟨X, false, rfl, E0, hXo, hS, hp⟩
   ·
    replace hp := hp.2 z4
    refine sq (o_pv (.bool true) (by kernel_rfl) (x_ndt (p := (b : ByteArray) = (ByteArray.mk #[])) (x_strne (by kernel_rfl) (by kernel_rfl)) z4) ?_)
    refine sq (o_pv (.bool true) rfl (by kernel_rfl) ?_)
    refine sq (o_pv (.bool true) rfl (by kernel_rfl) ?_)
    refine sq (o_pv (.string a) (by kernel_rfl) (by kernel_rfl) ?_)
    refine sq (o_pv (.string b) (by kernel_rfl) (by kernel_rfl) ?_)
    refine sq (o_call 88 #[(.string a), (.string b)] (by kernel_rfl) (x_call Tryz.call88 (by kernel_rfl)) (path_Under_w (X := []) (p := a) (dir := b) (Old.nil _) z6 z7 hp) ?_)
    rintro _ u1 ⟨v2, hp, y0, rfl⟩
    have z5 := Step.of0 X y0
    cases v2
    ·
     replace hp := hp.2 rfl
     refine sq (o_pv (.bool false) (by kernel_rfl) (by kernel_rfl) ?_)
     refine sq (o_pv (.string b) (by kernel_rfl) (by kernel_rfl) ?_)
     refine sq (o_pv (.string a) (by kernel_rfl) (by kernel_rfl) ?_)
     refine sq (o_call 88 #[(.string b), (.string a)] (by kernel_rfl) (x_call Tryz.call88 (by kernel_rfl)) (path_Under_w (X := []) (p := b) (dir := a) (Old.nil _) z7 z6 hp) ?_)
     rintro _ u2 ⟨z2, hp, y3, rfl⟩
     have y4 := Step.of0 X y3
     refine sq (o_pv (.bool z2) (by kernel_rfl) (by kernel_rfl) ?_)
     refine sq (o_pv (.bool z2) rfl (by kernel_rfl) ?_)
     refine sq (o_pv (.bool z2) rfl (by kernel_rfl) ?_)
     refine nil_ ?_
     have v3 := (Evo.then0 (Evo.then0 E0 y0) y3)
     have y1 := (Old.step (Old.step hXo z5) y4)
     have y6 := (Sub.trans (Sub.trans hS (Step.up z5)) (Step.up y4))
     refine then_normal (z1 _ _ _ ⟨[(4, (.bool z2))], fit_mk (fun _ _ => rfl) (by kernel_rfl) (vs_cons (by kernel_rfl) vs_nil), ?_⟩)
     exact ⟨X, z2, rfl, v3, y1, y6, hp⟩
    ·
     replace hp := hp.1 rfl
     refine sq (o_pv (.bool true) (by kernel_rfl) (by kernel_rfl) ?_)
     refine sq (o_not (by kernel_rfl) ?_)
     refine sq (o_not (by kernel_rfl) ?_)
     refine sq (o_not (by kernel_rfl) ?_)
     refine sq (o_pv (.bool true) (by kernel_rfl) (by kernel_rfl) ?_)
     refine sq (o_pv (.bool true) rfl (by kernel_rfl) ?_)
     refine sq (o_pv (.bool true) rfl (by kernel_rfl) ?_)
     refine nil_ ?_
     have v4 := (Evo.then0 E0 y0)
     have y2 := (Old.step hXo z5)
     have y7 := (Sub.trans hS (Step.up z5))
     refine then_normal (z1 _ _ _ ⟨[(4, (.bool true))], fit_mk (fun _ _ => rfl) (by kernel_rfl) (vs_cons (by kernel_rfl) vs_nil), ?_⟩)
     exact ⟨X, true, rfl, v4, y2, y7, hp⟩
 ·
  rintro _ z8 u3 ⟨z9, z0, rfl, v5, v6, u0, y8⟩
  replace hp := y5 z0 y8
  refine then_normal (v8 _ _ _ _ ?_)
  refine wp_ret ?_
  refine end_ret hQ (.bool z0) (by kernel_rfl) ?_
  exact ⟨z0, hp, v5, rfl⟩
def simfs_clash_p (l : (List (ByteArray × S_simfs_file))) (p : ByteArray) (but : ByteArray) (Q : Bool → Prop) : Prop :=
 ((p.size ≤ maxLen) → ((but.size ≤ maxLen) → (∃ (z6 : (List (ByteArray × S_simfs_file)) → Prop) (z9 : (List (ByteArray × S_simfs_file)) → Nat), (z6 l) ∧ (∀ (z2 : (List (ByteArray × S_simfs_file))), (z6 z2) → ((z2 = [] → Q false) ∧ (∀ (z4 : List (ByteArray × S_simfs_file)) (z0 : ByteArray) (z1 : S_simfs_file) (z5 : List (ByteArray × S_simfs_file)), z2 = z4 ++ (z0, z1) :: z5 → ((z0.size ≤ maxLen) → ((inR .i64 z1.mode) → ((inR .i64 z1.time) → ((inR .i64 z1.inode) → ((z1.b.length ≤ 9223372036854775807) → (∃ z7 : (List (ByteArray × S_simfs_file)) → Bool → Prop, (∀ (z3 : (List (ByteArray × S_simfs_file))) (z8 : Bool), z7 z3 z8 → (((z8 = true) → Q true) ∧ ((z8 = false) → ((z6 z3) ∧ z9 z3 < z9 z2)))) ∧ ((((z0 : ByteArray) = but) → (z7 (z4 ++ z5) false)) ∧ ((¬ ((z0 : ByteArray) = but)) → (path_Clash_p p z0 (fun (y0 : Bool) => (z7 (z4 ++ z5) y0)))))))))))))))))
set_option maxRecDepth 20000 in
set_option maxHeartbeats 4000000 in
theorem simfs_clash_w {X : List Nat} {w : World} {l : (List (ByteArray × S_simfs_file))} {p : ByteArray} {but : ByteArray} {z7 : Nat} {Q : Bool → Prop} (r6 : Old X w) (r7 : RM r_simfs_file true X w z7 l) (s4 : p.size ≤ maxLen) (t2 : but.size ≤ maxLen) (hp : simfs_clash_p l p but Q) :
  Calls Tryz.prog 80 #[(.map (some z7)), (.string p), (.string but)] w (Ret fun v w' => ∃ (r8 : Bool), Q r8 ∧ Evo [] w w' ∧ v = (.bool r8)) := by
 have hXo := r6
 have E0 : Evo [] w w := RB.refl _ _ _
 have hS : Sub X X := Sub.refl _
 unfold simfs_clash_p at hp
 refine enter_ Tryz.func80 rfl 22 [(0, (.map (some z7))), (1, (.string p)), (2, (.string but))] (by kernel_rfl) (fun Qe hQ => ?_)
 replace hp := hp s4
 replace hp := hp t2
 refine seq_ (fun _ q4 => ?_)
 refine reg_ ?_
 refine sq (o_pv (.bool false) rfl (by kernel_rfl) ?_)
 refine nil_ ?_
 refine then_normal (q4 _ _ _ _ ?_)
 refine seq_ (fun _ q5 => ?_)
 refine seq_ (fun _ q6 => ?_)
 refine reg_ ?_
 refine sq (o_pv (.map (some z7)) rfl (by kernel_rfl) ?_)
 refine sq (o_rangeR (X := X) (B := w.heap.size) E0.size rfl r7 Tryz.underlying75 (by kernel_rfl) ?_)
 intro s5 k3 r9 v5 q0 k2
 refine nil_ ?_
 refine then_normal (q6 _ _ _ _ ?_)
 refine wp_block ?_
 have v6 := (Old.step hXo v5)
 have s6 := (Evo.then0 E0 (Step.evo v5))
 have t3 := (Sub.trans hS (Step.up v5))
 obtain ⟨s7, v7, t4, hp⟩ := hp
 refine loop_ 4193472 (fun kq lq z8 => ∃ (z4 : List Nat) (z2 : (List (ByteArray × S_simfs_file))), (lq = []) ∧ (kq = v7 z2) ∧ (Evo [] w z8) ∧ (Old z4 z8) ∧ (Sub X z4) ∧ (ITR r_simfs_file true z4 z8 ([]) w.heap.size s5 z7 l z2 none) ∧ (s7 z2)) (v7 l) [] vs_nil ⟨r9, l, rfl, rfl, s6, v6, t3, (ITR.drop q0), t4⟩ ?_
 rintro _ _ z8 q7 ⟨z4, z2, rfl, rfl, v8, v9, t5, u0, t6⟩ q1 t7
 replace hp := hp z2 t6
 refine seq_ (fun _ u1 => ?_)
 refine reg_ ?_
 refine sq (o_nextR rfl u0 (by kernel_rfl) (fun z9 => ?_) (fun y0 z0 z3 y1 q2 q8 z9 y8 y9 t8 u2 => ?_))
 ·
  replace hp := hp.1 z9
  refine sq (o_pv (.bool false) rfl (by kernel_rfl) ?_)
  refine nil_ ?_
  refine then_normal (u1 _ _ _ _ ?_)
  refine seq_ (fun _ q9 => ?_)
  refine cond_f (by kernel_rfl) ?_
  refine wp_exit ?_
  refine then_exit ?_
  refine then_exit ?_
  refine blk_exit ?_
  refine then_normal (q5 _ _ _ _ ?_)
  refine seq_ (fun _ s8 => ?_)
  refine reg_ ?_
  refine sq (o_pv (.bool false) rfl (by kernel_rfl) ?_)
  refine nil_ ?_
  refine then_normal (s8 _ _ _ _ ?_)
  refine wp_ret ?_
  refine end_ret hQ (.bool false) (by kernel_rfl) ?_
  exact ⟨false, hp, v8, rfl⟩
 ·
  replace hp := hp.2 y0 z0 z3 y1 z9
  replace hp := hp u2
  obtain ⟨u3, u4, rfl, y5, y6, y2, u5⟩ := r_simfs_file_open t8
  replace hp := hp y5
  replace hp := hp y6
  replace hp := hp y2
  replace hp := hp (Sl.len u5)
  refine sq (o_pv (.bool true) rfl (by kernel_rfl) ?_)
  refine nil_ ?_
  refine then_normal (u1 _ _ _ _ ?_)
  refine seq_ (fun _ s9 => ?_)
  refine cond_t (by kernel_rfl) ?_
  refine wp_skip ?_
  refine then_normal (s9 _ _ _ _ ?_)
  refine wp_block ?_
  refine seq_ (fun _ r0 => ?_)
  refine reg_ ?_
  refine sq (o_pv (.tuple #[(.string z0), (.agg #[(.int .i64 z3.mode), (.int .i64 z3.time), (.int .i64 z3.inode), (.slice u3 z3.b.length u4)])]) rfl (x_entryR y9 (by kernel_rfl)) ?_)
  refine sq (o_pv (.string z0) rfl (by kernel_rfl) ?_)
  refine sq (o_pv (.string z0) rfl (by kernel_rfl) ?_)
  refine nil_ ?_
  refine then_normal (r0 _ _ _ _ ?_)
  refine seq_ (fun _ r1 => ?_)
  have u6 := (Evo.thenW v8 (Step.evo y8) u0.wr)
  have y7 := (Old.step v9 y8)
  have v3 := (Sub.trans t5 (Step.up y8))
  obtain ⟨r2, t9, hp⟩ := hp
  refine ground_ ?_
  refine join_ 4177920 (fun lq y3 => ∃ (z5 : List Nat) (z1 : (List (ByteArray × S_simfs_file))) (z6 : Bool), (lq = [(21, (.bool z6))]) ∧ (Evo [] w y3) ∧ (Old z5 y3) ∧ (Sub X z5) ∧ (ITR r_simfs_file true z5 y3 ([]) w.heap.size s5 z7 l z1 none) ∧ (r2 z1 z6)) (fun q3 v4 => ?_) ?_
  ·
   refine reg_ ?_
   refine sq (o_pv (.string z0) rfl (by kernel_rfl) ?_)
   refine sq (o_pv (.string but) rfl (by kernel_rfl) ?_)
   by_cases y4 : (z0 : ByteArray) = but
   ·
    replace hp := hp.1 y4
    refine sq (o_pv (.bool false) rfl (x_ndf (p := (z0 : ByteArray) = but) (x_strne (by kernel_rfl) (by kernel_rfl)) y4) ?_)
    refine sq (o_pv (.bool false) rfl (by kernel_rfl) ?_)
    refine sq (o_not (by kernel_rfl) ?_)
    refine sq (o_not (by kernel_rfl) ?_)
    refine sq (o_not (by kernel_rfl) ?_)
    refine sq (o_pv (.bool false) rfl (by kernel_rfl) ?_)
    refine nil_ ?_
    refine then_normal (v4 _ _ _ ⟨[(21, (.bool false))], fit_mk (fun _ _ => rfl) (by kernel_rfl) (vs_cons (by kernel_rfl) vs_nil), ?_⟩)
    exact ⟨z4, (y0 ++ y1), false, rfl, u6, y7, v3, (ITR.drop y9), hp⟩
   ·
    replace hp := hp.2 y4
    refine sq (o_pv (.bool true) rfl (x_ndt (p := (z0 : ByteArray) = but) (x_strne (by kernel_rfl) (by kernel_rfl)) y4) ?_)
    refine sq (o_pv (.bool true) rfl (by kernel_rfl) ?_)
    refine sq (o_pv (.string p) (by kernel_rfl) (by kernel_rfl) ?_)
    refine sq (o_pv (.string z0) (by kernel_rfl) (by kernel_rfl) ?_)
    refine sq (o_call 89 #[(.string p), (.string z0)] (by kernel_rfl) (x_call Tryz.call89 (by kernel_rfl)) (path_Clash_w (X := []) (a := p) (b := z0) (Old.nil _) s4 u2 hp) ?_)
    rintro _ k0 ⟨v0, hp, u7, rfl⟩
    have v1 := Step.of0 z4 u7
    refine sq (o_pv (.bool v0) rfl (by kernel_rfl) ?_)
    refine nil_ ?_
    have r3 := (Evo.then0 u6 u7)
    have u9 := (Old.step y7 v1)
    have s0 := (Sub.trans v3 (Step.up v1))
    have r4 := (ITR.step0 y9 v1)
    refine then_normal (v4 _ _ _ ⟨[(21, (.bool v0))], fit_mk (fun _ _ => rfl) (by kernel_rfl) (vs_cons (by kernel_rfl) vs_nil), ?_⟩)
    exact ⟨z4, (y0 ++ y1), v0, rfl, r3, u9, s0, (ITR.drop r4), hp⟩
  ·
   rintro _ y3 k1 ⟨z5, z1, z6, rfl, t0, t1, s1, s2, s3⟩
   replace hp := t9 z1 z6 s3
   refine then_normal (r1 _ _ _ _ ?_)
   refine cond_b z6 (by kernel_rfl) (fun v2 => ?_) (fun v2 => ?_)
   ·
    replace hp := hp.1 v2
    refine seq_ (fun _ r5 => ?_)
    refine reg_ ?_
    refine sq (o_pv (.bool true) rfl (by kernel_rfl) ?_)
    refine nil_ ?_
    refine then_normal (r5 _ _ _ _ ?_)
    refine wp_ret ?_
    refine blk_ret ?_
    refine then_ret ?_
    refine blk_ret ?_
    refine then_ret ?_
    refine end_ret hQ (.bool true) (by kernel_rfl) ?_
    exact ⟨true, hp, t0, rfl⟩
   ·
    replace hp := hp.2 v2
    refine wp_skip ?_
    refine blk_normal ?_
    refine then_normal (t7 _ _ _ ⟨_, [], hp.2, fit_mk (AgB.nest (AgB.look (AgB.mix _ _ _) (by kernel_rfl)) (by kernel_rfl) (by kernel_rfl)) (by kernel_rfl) vs_nil, ?_⟩)
    exact ⟨z5, z1, rfl, rfl, t0, t1, s1, (ITR.drop s2), hp.1⟩
def simfs_sum_p (l : (List (ByteArray × S_simfs_file))) (Q : Int → Prop) : Prop :=
 (∃ (z6 : Int → (List (ByteArray × S_simfs_file)) → Prop) (z7 : Int → (List (ByteArray × S_simfs_file)) → Nat), (z6 (0 : Int) l) ∧ (∀ (z1 : Int) (z2 : (List (ByteArray × S_simfs_file))), (z6 z1 z2) → (inR .i64 z1) → ((z2 = [] → Q z1) ∧ (∀ (z3 : List (ByteArray × S_simfs_file)) (z5 : ByteArray) (z0 : S_simfs_file) (z4 : List (ByteArray × S_simfs_file)), z2 = z3 ++ (z5, z0) :: z4 → ((z5.size ≤ maxLen) → ((inR .i64 z0.mode) → ((inR .i64 z0.time) → ((inR .i64 z0.inode) → ((z0.b.length ≤ 9223372036854775807) → ((inR .i64 (z1 + (z0.b.length : Int))) ∧ ((z6 (z1 + (z0.b.length : Int)) (z3 ++ z4)) ∧ z7 (z1 + (z0.b.length : Int)) (z3 ++ z4) < z7 z1 z2)))))))))))
set_option maxRecDepth 20000 in
set_option maxHeartbeats 4000000 in
theorem simfs_sum_w {X : List Nat} {w : World} {l : (List (ByteArray × S_simfs_file))} {y1 : Nat} {Q : Int → Prop} (s5 : Old X w) (s6 : RM r_simfs_file true X w y1 l) (hp : simfs_sum_p l Q) :
  Calls Tryz.prog 78 #[(.map (some y1))] w (Ret fun v w' => ∃ (u9 : Int), Q u9 ∧ Evo [] w w' ∧ v = (.int .i64 u9) ∧ inR .i64 u9) := by
 have hXo := s5
 have E0 : Evo [] w w := RB.refl _ _ _
 have hS : Sub X X := Sub.refl _
 unfold simfs_sum_p at hp
 refine enter_ Tryz.func78 rfl 18 [(0, (.map (some y1)))] (by kernel_rfl) (fun Qe hQ => ?_)
 refine seq_ (fun _ r2 => ?_)
 refine reg_ ?_
 refine sq (o_pv (.int .i64 (0 : Int)) rfl (by kernel_rfl) ?_)
 refine nil_ ?_
 refine then_normal (r2 _ _ _ _ ?_)
 refine seq_ (fun _ r3 => ?_)
 refine reg_ ?_
 refine sq (o_pv (.int .i64 (0 : Int)) rfl (by kernel_rfl) ?_)
 refine nil_ ?_
 refine then_normal (r3 _ _ _ _ ?_)
 refine seq_ (fun _ r4 => ?_)
 refine seq_ (fun _ r5 => ?_)
 refine reg_ ?_
 refine sq (o_pv (.map (some y1)) rfl (by kernel_rfl) ?_)
 refine sq (o_rangeR (X := X) (B := w.heap.size) E0.size rfl s6 Tryz.underlying75 (by kernel_rfl) ?_)
 intro s7 q3 r6 v0 s8 q2
 refine nil_ ?_
 refine then_normal (r5 _ _ _ _ ?_)
 refine wp_block ?_
 have v1 := (Old.step hXo v0)
 have t0 := (Evo.then0 E0 (Step.evo v0))
 have u1 := (Sub.trans hS (Step.up v0))
 obtain ⟨s9, u7, t1, hp⟩ := hp
 refine loop_ 130856 (fun kq lq z6 => ∃ (z5 : List Nat) (z1 : Int) (z2 : (List (ByteArray × S_simfs_file))), (lq = [(3, (.int .i64 z1))]) ∧ (kq = u7 z1 z2) ∧ (Evo [] w z6) ∧ (Old z5 z6) ∧ (Sub X z5) ∧ (ITR r_simfs_file true z5 z6 ([]) w.heap.size s7 y1 l z2 none) ∧ (inR .i64 z1) ∧ (s9 z1 z2)) (u7 (0 : Int) l) [(3, (.int .i64 (0 : Int)))] (vs_cons (by kernel_rfl) vs_nil) ⟨r6, (0 : Int), l, rfl, rfl, t0, v1, u1, (ITR.drop s8), (by decide : inR .i64 (0 : Int)), t1⟩ ?_
 rintro _ _ z6 r7 ⟨z5, z1, z2, rfl, rfl, v2, v3, u2, v4, y7, u3⟩ r0 u4
 replace hp := hp z1 z2 u3 y7
 refine seq_ (fun _ v5 => ?_)
 refine reg_ ?_
 refine sq (o_nextR rfl v4 (by kernel_rfl) (fun z7 => ?_) (fun y8 y2 z0 y9 r1 r8 z7 y5 y6 u5 t2 => ?_))
 ·
  replace hp := hp.1 z7
  refine sq (o_pv (.bool false) rfl (by kernel_rfl) ?_)
  refine nil_ ?_
  refine then_normal (v5 _ _ _ _ ?_)
  refine seq_ (fun _ r9 => ?_)
  refine cond_f (by kernel_rfl) ?_
  refine wp_exit ?_
  refine then_exit ?_
  refine then_exit ?_
  refine blk_exit ?_
  refine then_normal (r4 _ _ _ _ ?_)
  refine seq_ (fun _ t3 => ?_)
  refine reg_ ?_
  refine sq (o_pv (.int .i64 z1) rfl (by kernel_rfl) ?_)
  refine sq (o_pv (.int .i64 z1) rfl (by kernel_rfl) ?_)
  refine nil_ ?_
  refine then_normal (t3 _ _ _ _ ?_)
  refine wp_ret ?_
  refine end_ret hQ (.int .i64 z1) (by kernel_rfl) ?_
  exact ⟨z1, hp, v2, rfl, y7⟩
 ·
  replace hp := hp.2 y8 y2 z0 y9 z7
  replace hp := hp t2
  obtain ⟨z3, z4, rfl, y3, y4, z8, v6⟩ := r_simfs_file_open u5
  replace hp := hp y3
  replace hp := hp y4
  replace hp := hp z8
  replace hp := hp (Sl.len v6)
  refine sq (o_pv (.bool true) rfl (by kernel_rfl) ?_)
  refine nil_ ?_
  refine then_normal (v5 _ _ _ _ ?_)
  refine seq_ (fun _ t4 => ?_)
  refine cond_t (by kernel_rfl) ?_
  refine wp_skip ?_
  refine then_normal (t4 _ _ _ _ ?_)
  refine wp_block ?_
  refine seq_ (fun _ t5 => ?_)
  refine reg_ ?_
  refine sq (o_pv (.tuple #[(.string y2), (.agg #[(.int .i64 z0.mode), (.int .i64 z0.time), (.int .i64 z0.inode), (.slice z3 z0.b.length z4)])]) rfl (x_entryR y6 (by kernel_rfl)) ?_)
  refine sq (o_pv (.agg #[(.int .i64 z0.mode), (.int .i64 z0.time), (.int .i64 z0.inode), (.slice z3 z0.b.length z4)]) rfl (by kernel_rfl) ?_)
  have v7 := (Evo.thenW v2 (Step.evo y5) v4.wr)
  refine sq (o_newX [(.int .i64 (0 : Int)), (.int .i64 (0 : Int)), (.int .i64 (0 : Int)), (.slice none 0 0)] 81 (X := z5) (B := w.heap.size) v7.size rfl (by kernel_rfl) ?_)
  intro t6 q0 t7 z9 v8 t8
  have t9 := t8 _ (ITR.old y6)
  have s0 := (ITR.step0 y6 z9)
  have s1 := (Evo.then0 v7 (Step.evo z9))
  refine sq (o_stB (o := 0) (v := (.agg #[(.int .i64 z0.mode), (.int .i64 z0.time), (.int .i64 z0.inode), (.slice z3 z0.b.length z4)])) [(.int .i64 z0.mode), (.int .i64 z0.time), (.int .i64 z0.inode), (.slice z3 z0.b.length z4)] rfl v8 (by kernel_rfl) (by kernel_rfl) Tryz.sizeOf81 rfl rfl rfl ?_)
  intro q1 y0 s2
  refine nil_ ?_
  refine then_normal (t5 _ _ _ _ ?_)
  refine reg_ ?_
  refine sq (o_pv (.int .i64 z1) rfl (by kernel_rfl) ?_)
  refine sq (o_pv (.pointer (some ⟨t6, 3, none⟩)) rfl (by kernel_rfl) ?_)
  refine sq (o_pv (.slice z3 z0.b.length z4) rfl (x_load1 (by kernel_rfl) Tryz.isAgg32 (s2.2.1.cell' 3 rfl)) ?_)
  refine sq (o_pv (.int .i64 (z0.b.length : Int)) rfl (by kernel_rfl) ?_)
  obtain ⟨v9, hp⟩ := hp
  refine sq (o_pv (.int .i64 (z1 + (z0.b.length : Int))) rfl (x_add2 (k := .i64) (a := z1) (b := (z0.b.length : Int)) (z1 + (z0.b.length : Int)) (by kernel_rfl) (by kernel_rfl) (wrap_inR v9)) ?_)
  refine sq (o_pv (.int .i64 (z1 + (z0.b.length : Int))) rfl (by kernel_rfl) ?_)
  refine nil_ ?_
  refine blk_normal ?_
  have s3 := (Evo.thenW s1 (Step.evo y0) v8.2.2)
  have u0 := (Old.step (Old.step (Old.step v3 y5) z9) y0)
  have u6 := (Sub.trans (Sub.trans (Sub.trans u2 (Step.up y5)) (Step.up z9)) (Step.up y0))
  have s4 := (ITR.step s0 y0 t9)
  refine then_normal (u4 _ _ _ ⟨_, [(3, (.int .i64 (z1 + (z0.b.length : Int))))], hp.2, fit_mk (AgB.mix _ _ _) (by kernel_rfl) (vs_cons (by kernel_rfl) vs_nil), ?_⟩)
  exact ⟨t7, (z1 + (z0.b.length : Int)), (y8 ++ y9), rfl, rfl, s3, u0, u6, (ITR.drop s4), v9, hp.1⟩
def simfs_FS_room_p (f_ : S_simfs_FS) (p : ByteArray) (n_ : Int) (Q : S_simfs_FS → Bool → Prop) : Prop :=
 ((p.size ≤ maxLen) → ((inR .i64 n_) → ((f_.pending.length ≤ 9223372036854775807) → ((inR .i64 f_.quota) → ((inR .i64 f_.now) → ((inR .i64 f_.inodes) → ((inR .i64 f_.ops_) → ((inR .i64 f_.left) → ((f_.keep.length ≤ 9223372036854775807) → ((inR .i64 ((mgetD f_.files p).mode)) → ((inR .i64 ((mgetD f_.files p).time)) → ((inR .i64 ((mgetD f_.files p).inode)) → ((((mgetD f_.files p).b).length ≤ 9223372036854775807) → (∃ z0 : Bool → Prop, (∀ (z3 : Bool), z0 z3 → Q f_ z3) ∧ (((f_.quota ≤ (0 : Int)) → (z0 true)) ∧ ((¬ (f_.quota ≤ (0 : Int))) → (((n_ = (0 : Int)) → (z0 true)) ∧ ((¬ (n_ = (0 : Int))) → ((((mhas f_.files p) = true) → (((n_ ≤ (((mgetD f_.files p).b).length : Int)) → (z0 true)) ∧ ((¬ (n_ ≤ (((mgetD f_.files p).b).length : Int))) → (simfs_sum_p f_.files (fun (z1 : Int) => ((inR .i64 z1) → ((inR .i64 (z1 - (((mgetD f_.files p).b).length : Int))) ∧ ((inR .i64 ((z1 - (((mgetD f_.files p).b).length : Int)) + n_)) ∧ (z0 (decide (((z1 - (((mgetD f_.files p).b).length : Int)) + n_) ≤ f_.quota))))))))))) ∧ ((¬ ((mhas f_.files p) = true)) → (simfs_sum_p f_.files (fun (z2 : Int) => ((inR .i64 z2) → ((inR .i64 (z2 - (((mgetD f_.files p).b).length : Int))) ∧ ((inR .i64 ((z2 - (((mgetD f_.files p).b).length : Int)) + n_)) ∧ (z0 (decide (((z2 - (((mgetD f_.files p).b).length : Int)) + n_) ≤ f_.quota))))))))))))))))))))))))))))
set_option maxRecDepth 20000 in
set_option maxHeartbeats 4000000 in
theorem simfs_FS_room_w {X : List Nat} {w : World} {f_ : S_simfs_FS} {p : ByteArray} {n_ : Int} {z0 : Nat} {z9 : List Nat} {Q : S_simfs_FS → Bool → Prop} (d6 : Old X w) (r7 : MO o_simfs_FS 78 z9 w.heap.size X w z9 z0 f_) (d7 : p.size ≤ maxLen) (j6 : inR .i64 n_) (hp : simfs_FS_room_p f_ p n_ Q) :
  Calls Tryz.prog 103 #[(.pointer (some ⟨z0, 0, none⟩)), (.string p), (.int .i64 n_)] w (Ret fun v w' => ∃ (d8 : S_simfs_FS) (d9 : Bool), Q d8 d9 ∧ ∃ (X' : List Nat) (l0 : List Nat), Step X w z9 X' w' ∧ v = (.bool d9) ∧ MO o_simfs_FS 78 z9 w.heap.size X' w' l0 z0 d8) := by
 have hXo := d6
 have E0 : Evo z9 w w := RB.refl _ _ _
 have hS : Sub X X := Sub.refl _
 have hN : News X w X w := News.refl _ _
 have l1 : Sub z9 X := MO.mem r7
 unfold simfs_FS_room_p at hp
 refine enter_ Tryz.func103 rfl 55 [(0, (.pointer (some ⟨z0, 0, none⟩))), (1, (.string p)), (2, (.int .i64 n_))] (by kernel_rfl) (fun Qe hQ => ?_)
 replace hp := hp d7
 replace hp := hp j6
 refine seq_ (fun _ m9 => ?_)
 refine reg_ ?_
 refine sq (o_pv (.bool false) rfl (by kernel_rfl) ?_)
 refine nil_ ?_
 refine then_normal (m9 _ _ _ _ ?_)
 refine seq_ (fun _ n0 => ?_)
 refine reg_ ?_
 refine sq (o_pv (.pointer (some ⟨z0, 0, none⟩)) rfl (by kernel_rfl) ?_)
 refine sq (o_pv (.pointer (some ⟨z0, 0, none⟩)) rfl (by kernel_rfl) ?_)
 obtain ⟨u7, z2, r8, r9, q0, u1, u2, q1, u9, y6, r0, v9, t0, v0, u3, u4, u5, n1, n2, n3, n4, l2, l3, l4, l5, l6, l7⟩ := o_simfs_FS_open r7
 replace hp := hp (OS.len r0)
 replace hp := hp v9
 replace hp := hp t0
 replace hp := hp v0
 replace hp := hp u3
 replace hp := hp u4
 replace hp := hp (Sl.len u5)
 refine sq (o_pv (.pointer (some ⟨z0, 1, none⟩)) rfl (by kernel_rfl) ?_)
 refine sq (o_pv (.map (some z2)) rfl (x_load1 (by kernel_rfl) Tryz.isAgg75 (q1.2.1.cell' 1 rfl)) ?_)
 refine sq (o_pv (.string p) rfl (by kernel_rfl) ?_)
 obtain ⟨n5, j7, j8⟩ := MapAt.look y6.2.1 p [(.int .i64 (0 : Int)), (.int .i64 (0 : Int)), (.int .i64 (0 : Int)), (.slice none 0 0)] (fun _ _ => (r_simfs_file_mk (by decide : inR .i64 (0 : Int)) (by decide : inR .i64 (0 : Int)) (by decide : inR .i64 (0 : Int)) (Sl.nil) rfl))
 obtain ⟨z7, z8, rfl, r1, r2, s0, q8⟩ := r_simfs_file_open j7
 replace hp := hp r1
 replace hp := hp r2
 replace hp := hp s0
 replace hp := hp (Sl.len q8)
 refine sq (o_pv (.tuple #[(.agg #[(.int .i64 ((mgetD f_.files p).mode)), (.int .i64 ((mgetD f_.files p).time)), (.int .i64 ((mgetD f_.files p).inode)), (.slice z7 (((mgetD f_.files p).b).length) z8)]), (.bool (mhas f_.files p))]) rfl (x_lookup2 (w0 := w) (k := p) (v := (.agg #[(.int .i64 ((mgetD f_.files p).mode)), (.int .i64 ((mgetD f_.files p).time)), (.int .i64 ((mgetD f_.files p).inode)), (.slice z7 (((mgetD f_.files p).b).length) z8)])) (z := (.agg #[(.int .i64 (0 : Int)), (.int .i64 (0 : Int)), (.int .i64 (0 : Int)), (.slice none 0 0)])) (b := mhas f_.files p) (s := 4) (bts := 48) (by kernel_rfl) (by kernel_rfl) j8 rfl Tryz.underlying75 Tryz.underlying9 (by kernel_rfl)) ?_)
 refine sq (o_pv (.tuple #[(.agg #[(.int .i64 ((mgetD f_.files p).mode)), (.int .i64 ((mgetD f_.files p).time)), (.int .i64 ((mgetD f_.files p).inode)), (.slice z7 (((mgetD f_.files p).b).length) z8)]), (.bool (mhas f_.files p))]) rfl (by kernel_rfl) ?_)
 refine sq (o_pv (.agg #[(.int .i64 ((mgetD f_.files p).mode)), (.int .i64 ((mgetD f_.files p).time)), (.int .i64 ((mgetD f_.files p).inode)), (.slice z7 (((mgetD f_.files p).b).length) z8)]) rfl (by kernel_rfl) ?_)
 refine sq (o_pv (.bool (mhas f_.files p)) rfl (by kernel_rfl) ?_)
 refine sq (o_newX [(.int .i64 (0 : Int)), (.int .i64 (0 : Int)), (.int .i64 (0 : Int)), (.slice none 0 0)] 81 (X := X) (B := w.heap.size) E0.size rfl (by kernel_rfl) ?_)
 intro q2 n9 u0 v1 j5 r6
 have l8 := r6 _ (OB.old q1)
 have l9 := r6 _ (OM.old u9)
 have m0 := r6 _ (OM.old y6)
 have m1 := r6 _ (OS.old r0)
 have m2 := (OB.step0 q1 v1)
 have r3 := (OM.step0 u9 v1)
 have s1 := (OM.step0 y6 v1)
 have j9 := (OS.step0 r0 v1)
 have m3 := (Evo.then0 E0 (Step.evo v1))
 refine sq (o_stB (o := 0) (v := (.agg #[(.int .i64 ((mgetD f_.files p).mode)), (.int .i64 ((mgetD f_.files p).time)), (.int .i64 ((mgetD f_.files p).inode)), (.slice z7 (((mgetD f_.files p).b).length) z8)])) [(.int .i64 ((mgetD f_.files p).mode)), (.int .i64 ((mgetD f_.files p).time)), (.int .i64 ((mgetD f_.files p).inode)), (.slice z7 (((mgetD f_.files p).b).length) z8)] rfl j5 (by kernel_rfl) (by kernel_rfl) Tryz.sizeOf81 rfl rfl rfl ?_)
 intro q3 v2 m4
 refine sq (o_pv (.bool (mhas f_.files p)) rfl (by kernel_rfl) ?_)
 refine nil_ ?_
 refine then_normal (n0 _ _ _ _ ?_)
 refine seq_ (fun _ m5 => ?_)
 have q4 := (Old.step (Old.step hXo v1) v2)
 have g0 := (Evo.thenW m3 (Step.evo v2) (Wr.of j5.2.2))
 have q9 := (Sub.trans (Sub.trans hS (Step.up v1)) (Step.up v2))
 have k0 := (News.step (News.step hN v1) v2)
 have g1 := (OB.step m2 v2 l8)
 have s2 := (OM.step r3 v2 l9)
 have t1 := (OM.step s1 v2 m0)
 have k1 := (OS.step j9 v2 m1)
 have s3 := (Sl.step (Sl.step u5 v1) v2)
 obtain ⟨g2, k2, hp⟩ := hp
 refine ground_ ?_
 refine join_ 36028797018701888 (fun lq y5 => ∃ (y2 : List Nat) (v7 : Bool), (lq = [(6, (.bool v7))]) ∧ (Evo z9 w y5) ∧ (Old y2 y5) ∧ (Sub X y2) ∧ (News X w y2 y5) ∧ (OM r_simfs_file true z9 w.heap.size y2 y5 u7 f_.kept) ∧ (OM r_simfs_file true z9 w.heap.size y2 y5 z2 f_.files) ∧ (OS r_simfs_op z9 w.heap.size y2 y5 84 r8 r9 q0 f_.pending) ∧ (Sl rBool y2 y5 u1 u2 f_.keep) ∧ (OB z9 w.heap.size y2 y5 z0 [(.map (some u7)), (.map (some z2)), (.slice r8 r9 q0), (.int .i64 f_.quota), (.int .i64 f_.now), (.int .i64 f_.inodes), (.int .i64 f_.ops_), (.bool f_.off), (.bool f_.armed), (.int .i64 f_.left), (.slice u1 f_.keep.length u2)] 78) ∧ (g2 v7)) (fun m7 v3 => ?_) ?_
 ·
  refine reg_drawn (RB q3.heap.size []) 37 (by kernel_rfl) (fun q5 t2 => ?_)
  have g3 := Evo.of_drew t2
  have y3 : q5.heap.size = q3.heap.size := by rw [t2]
  clear t2
  have y4 := Step.of0 u0 g3
  have z4 := RB.refl q3.heap.size [] q5
  have y7 := (Old.step q4 y4)
  have u6 := (Evo.then0 g0 (Step.evo y4))
  have v4 := (Sub.trans q9 (Step.up y4))
  have v5 := (News.step k0 y4)
  have z3 := (OB.step0 g1 y4)
  have z5 := (OM.step0 s2 y4)
  have z1 := (OM.step0 t1 y4)
  have v6 := (OS.step0 k1 y4)
  have z6 := (Sl.step s3 y4)
  have v8 := (OB.step0 m4 y4)
  refine r_take 0 (.pointer (some ⟨z0, 0, none⟩)) (RB.pre _ _) rfl (by kernel_rfl) (fun _ _ _ h => hQ.panic _ _ _ _ _ h) (.inl ⟨rfl, fun wq hq => (by kernel_rfl)⟩) ?_
  refine r_take 1 (.pointer (some ⟨z0, 0, none⟩)) (RB.pre _ _) rfl (by kernel_rfl) (fun _ _ _ h => hQ.panic _ _ _ _ _ h) (.inl ⟨rfl, fun wq hq => (by kernel_rfl)⟩) ?_
  refine r_take 2 (.pointer (some ⟨z0, 3, none⟩)) (RB.pre _ _) rfl (by kernel_rfl) (fun _ _ _ h => hQ.panic _ _ _ _ _ h) (.inl ⟨rfl, fun wq hq => (by kernel_rfl)⟩) ?_
  refine r_take 3 (.int .i64 f_.quota) (RB.pre _ _) rfl (by kernel_rfl) (fun _ _ _ h => hQ.panic _ _ _ _ _ h) (.inl ⟨rfl, fun wq hq => (x_load1 (by kernel_rfl) Tryz.isAgg3 ((Blk.rb z3.2.1 (RB.trans z4 hq) (Nat.lt_of_lt_of_eq (Blk.lt z3.2.1) y3) (fun h => by cases h)).cell' 3 rfl))⟩) ?_
  by_cases t3 : f_.quota ≤ (0 : Int)
  ·
   replace hp := hp.1 t3
   refine r_take 4 (.bool true) (RB.pre _ _) rfl (by kernel_rfl) (fun _ _ _ h => hQ.panic _ _ _ _ _ h) (.inl ⟨rfl, fun wq hq => (x_dt (p := f_.quota ≤ (0 : Int)) (by kernel_rfl) t3)⟩) ?_
   refine r_take 5 (.bool true) (RB.pre _ _) rfl (by kernel_rfl) (fun _ _ _ h => hQ.panic _ _ _ _ _ h) (.inl ⟨rfl, fun wq hq => (by kernel_rfl)⟩) ?_
   refine r_take 6 undef (RB.pre _ _) rfl (by kernel_rfl) (fun _ _ _ h => hQ.panic _ _ _ _ _ h) (.inr ⟨by kernel_rfl, rfl⟩) ?_
   refine r_take 7 undef (RB.pre _ _) rfl (by kernel_rfl) (fun _ _ _ h => hQ.panic _ _ _ _ _ h) (.inr ⟨by kernel_rfl, rfl⟩) ?_
   refine r_take 8 (.bool true) (RB.pre _ _) rfl (by kernel_rfl) (fun _ _ _ h => hQ.panic _ _ _ _ _ h) (.inl ⟨rfl, fun wq hq => (by kernel_rfl)⟩) ?_
   refine r_take 9 (.bool true) (RB.pre _ _) rfl (by kernel_rfl) (fun _ _ _ h => hQ.panic _ _ _ _ _ h) (.inl ⟨rfl, fun wq hq => (by kernel_rfl)⟩) ?_
   refine r_take 10 undef (RB.pre _ _) rfl (by kernel_rfl) (fun _ _ _ h => hQ.panic _ _ _ _ _ h) (.inr ⟨by kernel_rfl, rfl⟩) ?_
   refine r_take 11 undef (RB.pre _ _) rfl (by kernel_rfl) (fun _ _ _ h => hQ.panic _ _ _ _ _ h) (.inr ⟨by kernel_rfl, rfl⟩) ?_
   refine r_take 12 undef (RB.pre _ _) rfl (by kernel_rfl) (fun _ _ _ h => hQ.panic _ _ _ _ _ h) (.inr ⟨by kernel_rfl, rfl⟩) ?_
   refine r_take 13 undef (RB.pre _ _) rfl (by kernel_rfl) (fun _ _ _ h => hQ.panic _ _ _ _ _ h) (.inr ⟨by kernel_rfl, rfl⟩) ?_
   refine r_take 14 undef (RB.pre _ _) rfl (by kernel_rfl) (fun _ _ _ h => hQ.panic _ _ _ _ _ h) (.inr ⟨by kernel_rfl, rfl⟩) ?_
   refine r_take 15 undef (RB.pre _ _) rfl (by kernel_rfl) (fun _ _ _ h => hQ.panic _ _ _ _ _ h) (.inr ⟨by kernel_rfl, rfl⟩) ?_
   refine r_take 16 undef (RB.pre _ _) rfl (by kernel_rfl) (fun _ _ _ h => hQ.panic _ _ _ _ _ h) (.inr ⟨by kernel_rfl, rfl⟩) ?_
   refine r_take 17 undef (RB.pre _ _) rfl (by kernel_rfl) (fun _ _ _ h => hQ.panic _ _ _ _ _ h) (.inr ⟨by kernel_rfl, rfl⟩) ?_
   refine r_take 18 (.bool true) (RB.pre _ _) rfl (by kernel_rfl) (fun _ _ _ h => hQ.panic _ _ _ _ _ h) (.inl ⟨rfl, fun wq hq => (by kernel_rfl)⟩) ?_
   refine r_take 19 (.bool true) (RB.pre _ _) rfl (by kernel_rfl) (fun _ _ _ h => hQ.panic _ _ _ _ _ h) (.inl ⟨rfl, fun wq hq => (by kernel_rfl)⟩) ?_
   refine r_take 20 undef (RB.pre _ _) rfl (by kernel_rfl) (fun _ _ _ h => hQ.panic _ _ _ _ _ h) (.inr ⟨by kernel_rfl, rfl⟩) ?_
   refine r_take 21 undef (RB.pre _ _) rfl (by kernel_rfl) (fun _ _ _ h => hQ.panic _ _ _ _ _ h) (.inr ⟨by kernel_rfl, rfl⟩) ?_
   refine r_take 22 undef (RB.pre _ _) rfl (by kernel_rfl) (fun _ _ _ h => hQ.panic _ _ _ _ _ h) (.inr ⟨by kernel_rfl, rfl⟩) ?_
   refine r_take 23 undef (RB.pre _ _) rfl (by kernel_rfl) (fun _ _ _ h => hQ.panic _ _ _ _ _ h) (.inr ⟨by kernel_rfl, rfl⟩) ?_
   refine r_take 24 undef (RB.pre _ _) rfl (by kernel_rfl) (fun _ _ _ h => hQ.panic _ _ _ _ _ h) (.inr ⟨by kernel_rfl, rfl⟩) ?_
   refine r_take 25 undef (RB.pre _ _) rfl (by kernel_rfl) (fun _ _ _ h => hQ.panic _ _ _ _ _ h) (.inr ⟨by kernel_rfl, rfl⟩) ?_
   refine r_take 26 undef (RB.pre _ _) rfl (by kernel_rfl) (fun _ _ _ h => hQ.panic _ _ _ _ _ h) (.inr ⟨by kernel_rfl, rfl⟩) ?_
   refine r_take 27 undef (RB.pre _ _) rfl (by kernel_rfl) (fun _ _ _ h => hQ.panic _ _ _ _ _ h) (.inr ⟨by kernel_rfl, rfl⟩) ?_
   refine r_take 28 undef (RB.pre _ _) rfl (by kernel_rfl) (fun _ _ _ h => hQ.panic _ _ _ _ _ h) (.inr ⟨by kernel_rfl, rfl⟩) ?_
   refine r_take 29 undef (RB.pre _ _) rfl (by kernel_rfl) (fun _ _ _ h => hQ.panic _ _ _ _ _ h) (.inr ⟨by kernel_rfl, rfl⟩) ?_
   refine r_take 30 undef (RB.pre _ _) rfl (by kernel_rfl) (fun _ _ _ h => hQ.panic _ _ _ _ _ h) (.inr ⟨by kernel_rfl, rfl⟩) ?_
   refine r_take 31 undef (RB.pre _ _) rfl (by kernel_rfl) (fun _ _ _ h => hQ.panic _ _ _ _ _ h) (.inr ⟨by kernel_rfl, rfl⟩) ?_
   refine r_take 32 undef (RB.pre _ _) rfl (by kernel_rfl) (fun _ _ _ h => hQ.panic _ _ _ _ _ h) (.inr ⟨by kernel_rfl, rfl⟩) ?_
   refine r_take 33 undef (RB.pre _ _) rfl (by kernel_rfl) (fun _ _ _ h => hQ.panic _ _ _ _ _ h) (.inr ⟨by kernel_rfl, rfl⟩) ?_
   refine r_take 34 undef (RB.pre _ _) rfl (by kernel_rfl) (fun _ _ _ h => hQ.panic _ _ _ _ _ h) (.inr ⟨by kernel_rfl, rfl⟩) ?_
   refine r_take 35 undef (RB.pre _ _) rfl (by kernel_rfl) (fun _ _ _ h => hQ.panic _ _ _ _ _ h) (.inr ⟨by kernel_rfl, rfl⟩) ?_
   refine r_take 36 (.bool true) (RB.pre _ _) rfl (by kernel_rfl) (fun _ _ _ h => hQ.panic _ _ _ _ _ h) (.inl ⟨rfl, fun wq hq => (by kernel_rfl)⟩) ?_
   refine r_ready [37] (by kernel_rfl) rfl (all_cons ⟨_, _, _, _, _, _, rfl, ?_⟩ all_nil)
   refine o_pv (.bool true) rfl (by kernel_rfl) ?_
   refine ⟨fun h => absurd h (by decide), ?_⟩
   refine r_done (by kernel_rfl) ?_
   refine then_normal (v3 _ _ _ ⟨[(6, (.bool true))], fit_mk (fun _ _ => rfl) (by kernel_rfl) (vs_cons (by kernel_rfl) vs_nil), ?_⟩)
   exact ⟨u0, true, rfl, u6, y7, v4, v5, z5, z1, v6, z6, z3, hp⟩
  ·
   replace hp := hp.2 t3
   refine r_take 4 (.bool false) (RB.pre _ _) rfl (by kernel_rfl) (fun _ _ _ h => hQ.panic _ _ _ _ _ h) (.inl ⟨rfl, fun wq hq => (x_df (p := f_.quota ≤ (0 : Int)) (by kernel_rfl) t3)⟩) ?_
   refine r_take 5 (.bool false) (RB.pre _ _) rfl (by kernel_rfl) (fun _ _ _ h => hQ.panic _ _ _ _ _ h) (.inl ⟨rfl, fun wq hq => (by kernel_rfl)⟩) ?_
   refine r_take 6 (.int .i64 n_) (RB.pre _ _) rfl (by kernel_rfl) (fun _ _ _ h => hQ.panic _ _ _ _ _ h) (.inl ⟨(by kernel_rfl), fun wq hq => (by kernel_rfl)⟩) ?_
   by_cases t4 : n_ = (0 : Int)
   ·
    replace hp := hp.1 t4
    refine r_take 7 (.bool true) (RB.pre _ _) rfl (by kernel_rfl) (fun _ _ _ h => hQ.panic _ _ _ _ _ h) (.inl ⟨(by kernel_rfl), fun wq hq => (x_dt (p := n_ = (0 : Int)) (by kernel_rfl) t4)⟩) ?_
    refine r_take 8 (.bool true) (RB.pre _ _) rfl (by kernel_rfl) (fun _ _ _ h => hQ.panic _ _ _ _ _ h) (.inl ⟨rfl, fun wq hq => (by kernel_rfl)⟩) ?_
    refine r_take 9 (.bool true) (RB.pre _ _) rfl (by kernel_rfl) (fun _ _ _ h => hQ.panic _ _ _ _ _ h) (.inl ⟨rfl, fun wq hq => (by kernel_rfl)⟩) ?_
    refine r_take 10 undef (RB.pre _ _) rfl (by kernel_rfl) (fun _ _ _ h => hQ.panic _ _ _ _ _ h) (.inr ⟨by kernel_rfl, rfl⟩) ?_
    refine r_take 11 undef (RB.pre _ _) rfl (by kernel_rfl) (fun _ _ _ h => hQ.panic _ _ _ _ _ h) (.inr ⟨by kernel_rfl, rfl⟩) ?_
    refine r_take 12 undef (RB.pre _ _) rfl (by kernel_rfl) (fun _ _ _ h => hQ.panic _ _ _ _ _ h) (.inr ⟨by kernel_rfl, rfl⟩) ?_
    refine r_take 13 undef (RB.pre _ _) rfl (by kernel_rfl) (fun _ _ _ h => hQ.panic _ _ _ _ _ h) (.inr ⟨by kernel_rfl, rfl⟩) ?_
    refine r_take 14 undef (RB.pre _ _) rfl (by kernel_rfl) (fun _ _ _ h => hQ.panic _ _ _ _ _ h) (.inr ⟨by kernel_rfl, rfl⟩) ?_
    refine r_take 15 undef (RB.pre _ _) rfl (by kernel_rfl) (fun _ _ _ h => hQ.panic _ _ _ _ _ h) (.inr ⟨by kernel_rfl, rfl⟩) ?_
    refine r_take 16 undef (RB.pre _ _) rfl (by kernel_rfl) (fun _ _ _ h => hQ.panic _ _ _ _ _ h) (.inr ⟨by kernel_rfl, rfl⟩) ?_
    refine r_take 17 undef (RB.pre _ _) rfl (by kernel_rfl) (fun _ _ _ h => hQ.panic _ _ _ _ _ h) (.inr ⟨by kernel_rfl, rfl⟩) ?_
    refine r_take 18 (.bool true) (RB.pre _ _) rfl (by kernel_rfl) (fun _ _ _ h => hQ.panic _ _ _ _ _ h) (.inl ⟨rfl, fun wq hq => (by kernel_rfl)⟩) ?_
    refine r_take 19 (.bool true) (RB.pre _ _) rfl (by kernel_rfl) (fun _ _ _ h => hQ.panic _ _ _ _ _ h) (.inl ⟨rfl, fun wq hq => (by kernel_rfl)⟩) ?_
    refine r_take 20 undef (RB.pre _ _) rfl (by kernel_rfl) (fun _ _ _ h => hQ.panic _ _ _ _ _ h) (.inr ⟨by kernel_rfl, rfl⟩) ?_
    refine r_take 21 undef (RB.pre _ _) rfl (by kernel_rfl) (fun _ _ _ h => hQ.panic _ _ _ _ _ h) (.inr ⟨by kernel_rfl, rfl⟩) ?_
    refine r_take 22 undef (RB.pre _ _) rfl (by kernel_rfl) (fun _ _ _ h => hQ.panic _ _ _ _ _ h) (.inr ⟨by kernel_rfl, rfl⟩) ?_
    refine r_take 23 undef (RB.pre _ _) rfl (by kernel_rfl) (fun _ _ _ h => hQ.panic _ _ _ _ _ h) (.inr ⟨by kernel_rfl, rfl⟩) ?_
    refine r_take 24 undef (RB.pre _ _) rfl (by kernel_rfl) (fun _ _ _ h => hQ.panic _ _ _ _ _ h) (.inr ⟨by kernel_rfl, rfl⟩) ?_
    refine r_take 25 undef (RB.pre _ _) rfl (by kernel_rfl) (fun _ _ _ h => hQ.panic _ _ _ _ _ h) (.inr ⟨by kernel_rfl, rfl⟩) ?_
    refine r_take 26 undef (RB.pre _ _) rfl (by kernel_rfl) (fun _ _ _ h => hQ.panic _ _ _ _ _ h) (.inr ⟨by kernel_rfl, rfl⟩) ?_
    refine r_take 27 undef (RB.pre _ _) rfl (by kernel_rfl) (fun _ _ _ h => hQ.panic _ _ _ _ _ h) (.inr ⟨by kernel_rfl, rfl⟩) ?_
    refine r_take 28 undef (RB.pre _ _) rfl (by kernel_rfl) (fun _ _ _ h => hQ.panic _ _ _ _ _ h) (.inr ⟨by kernel_rfl, rfl⟩) ?_
    refine r_take 29 undef (RB.pre _ _) rfl (by kernel_rfl) (fun _ _ _ h => hQ.panic _ _ _ _ _ h) (.inr ⟨by kernel_rfl, rfl⟩) ?_
    refine r_take 30 undef (RB.pre _ _) rfl (by kernel_rfl) (fun _ _ _ h => hQ.panic _ _ _ _ _ h) (.inr ⟨by kernel_rfl, rfl⟩) ?_
    refine r_take 31 undef (RB.pre _ _) rfl (by kernel_rfl) (fun _ _ _ h => hQ.panic _ _ _ _ _ h) (.inr ⟨by kernel_rfl, rfl⟩) ?_
    refine r_take 32 undef (RB.pre _ _) rfl (by kernel_rfl) (fun _ _ _ h => hQ.panic _ _ _ _ _ h) (.inr ⟨by kernel_rfl, rfl⟩) ?_
    refine r_take 33 undef (RB.pre _ _) rfl (by kernel_rfl) (fun _ _ _ h => hQ.panic _ _ _ _ _ h) (.inr ⟨by kernel_rfl, rfl⟩) ?_
    refine r_take 34 undef (RB.pre _ _) rfl (by kernel_rfl) (fun _ _ _ h => hQ.panic _ _ _ _ _ h) (.inr ⟨by kernel_rfl, rfl⟩) ?_
    refine r_take 35 undef (RB.pre _ _) rfl (by kernel_rfl) (fun _ _ _ h => hQ.panic _ _ _ _ _ h) (.inr ⟨by kernel_rfl, rfl⟩) ?_
    refine r_take 36 (.bool true) (RB.pre _ _) rfl (by kernel_rfl) (fun _ _ _ h => hQ.panic _ _ _ _ _ h) (.inl ⟨rfl, fun wq hq => (by kernel_rfl)⟩) ?_
    refine r_ready [37] (by kernel_rfl) rfl (all_cons ⟨_, _, _, _, _, _, rfl, ?_⟩ all_nil)
    refine o_pv (.bool true) rfl (by kernel_rfl) ?_
    refine ⟨fun h => absurd h (by decide), ?_⟩
    refine r_done (by kernel_rfl) ?_
    refine then_normal (v3 _ _ _ ⟨[(6, (.bool true))], fit_mk (fun _ _ => rfl) (by kernel_rfl) (vs_cons (by kernel_rfl) vs_nil), ?_⟩)
    exact ⟨u0, true, rfl, u6, y7, v4, v5, z5, z1, v6, z6, z3, hp⟩
   ·
    replace hp := hp.2 t4
    refine r_take 7 (.bool false) (RB.pre _ _) rfl (by kernel_rfl) (fun _ _ _ h => hQ.panic _ _ _ _ _ h) (.inl ⟨(by kernel_rfl), fun wq hq => (x_df (p := n_ = (0 : Int)) (by kernel_rfl) t4)⟩) ?_
    refine r_take 8 (.bool false) (RB.pre _ _) rfl (by kernel_rfl) (fun _ _ _ h => hQ.panic _ _ _ _ _ h) (.inl ⟨rfl, fun wq hq => (by kernel_rfl)⟩) ?_
    refine r_take 9 (.bool false) (RB.pre _ _) rfl (by kernel_rfl) (fun _ _ _ h => hQ.panic _ _ _ _ _ h) (.inl ⟨rfl, fun wq hq => (by kernel_rfl)⟩) ?_
    by_cases t5 : (mhas f_.files p) = true
    ·
     replace hp := hp.1 t5
     refine r_take 10 (.bool true) (RB.pre _ _) rfl (by kernel_rfl) (fun _ _ _ h => hQ.panic _ _ _ _ _ h) (.inl ⟨(by kernel_rfl), fun wq hq => (x_bt (by kernel_rfl) t5)⟩) ?_
     refine r_take 11 (.bool true) (RB.pre _ _) rfl (by kernel_rfl) (fun _ _ _ h => hQ.panic _ _ _ _ _ h) (.inl ⟨(by kernel_rfl), fun wq hq => (by kernel_rfl)⟩) ?_
     refine r_take 12 (.int .i64 n_) (RB.pre _ _) rfl (by kernel_rfl) (fun _ _ _ h => hQ.panic _ _ _ _ _ h) (.inl ⟨(by kernel_rfl), fun wq hq => (by kernel_rfl)⟩) ?_
     refine r_take 13 (.pointer (some ⟨q2, 3, none⟩)) (RB.pre _ _) rfl (by kernel_rfl) (fun _ _ _ h => hQ.panic _ _ _ _ _ h) (.inl ⟨(by kernel_rfl), fun wq hq => (by kernel_rfl)⟩) ?_
     refine r_take 14 (.slice z7 (((mgetD f_.files p).b).length) z8) (RB.pre _ _) rfl (by kernel_rfl) (fun _ _ _ h => hQ.panic _ _ _ _ _ h) (.inl ⟨(by kernel_rfl), fun wq hq => (x_load1 (by kernel_rfl) Tryz.isAgg32 ((Blk.rb v8.2.1 (RB.trans z4 hq) (Nat.lt_of_lt_of_eq (Blk.lt v8.2.1) y3) (fun h => by cases h)).cell' 3 rfl))⟩) ?_
     refine r_take 15 (.int .i64 (((mgetD f_.files p).b).length : Int)) (RB.pre _ _) rfl (by kernel_rfl) (fun _ _ _ h => hQ.panic _ _ _ _ _ h) (.inl ⟨(by kernel_rfl), fun wq hq => (by kernel_rfl)⟩) ?_
     by_cases t6 : n_ ≤ (((mgetD f_.files p).b).length : Int)
     ·
      replace hp := hp.1 t6
      refine r_take 16 (.bool true) (RB.pre _ _) rfl (by kernel_rfl) (fun _ _ _ h => hQ.panic _ _ _ _ _ h) (.inl ⟨(by kernel_rfl), fun wq hq => (x_dt (p := n_ ≤ (((mgetD f_.files p).b).length : Int)) (by kernel_rfl) t6)⟩) ?_
      refine r_take 17 (.bool true) (RB.pre _ _) rfl (by kernel_rfl) (fun _ _ _ h => hQ.panic _ _ _ _ _ h) (.inl ⟨(by kernel_rfl), fun wq hq => (by kernel_rfl)⟩) ?_
      refine r_take 18 (.bool true) (RB.pre _ _) rfl (by kernel_rfl) (fun _ _ _ h => hQ.panic _ _ _ _ _ h) (.inl ⟨rfl, fun wq hq => (by kernel_rfl)⟩) ?_
      refine r_take 19 (.bool true) (RB.pre _ _) rfl (by kernel_rfl) (fun _ _ _ h => hQ.panic _ _ _ _ _ h) (.inl ⟨rfl, fun wq hq => (by kernel_rfl)⟩) ?_
      refine r_take 20 undef (RB.pre _ _) rfl (by kernel_rfl) (fun _ _ _ h => hQ.panic _ _ _ _ _ h) (.inr ⟨by kernel_rfl, rfl⟩) ?_
      refine r_take 21 undef (RB.pre _ _) rfl (by kernel_rfl) (fun _ _ _ h => hQ.panic _ _ _ _ _ h) (.inr ⟨by kernel_rfl, rfl⟩) ?_
      refine r_take 22 undef (RB.pre _ _) rfl (by kernel_rfl) (fun _ _ _ h => hQ.panic _ _ _ _ _ h) (.inr ⟨by kernel_rfl, rfl⟩) ?_
      refine r_take 23 undef (RB.pre _ _) rfl (by kernel_rfl) (fun _ _ _ h => hQ.panic _ _ _ _ _ h) (.inr ⟨by kernel_rfl, rfl⟩) ?_
      refine r_take 24 undef (RB.pre _ _) rfl (by kernel_rfl) (fun _ _ _ h => hQ.panic _ _ _ _ _ h) (.inr ⟨by kernel_rfl, rfl⟩) ?_
      refine r_take 25 undef (RB.pre _ _) rfl (by kernel_rfl) (fun _ _ _ h => hQ.panic _ _ _ _ _ h) (.inr ⟨by kernel_rfl, rfl⟩) ?_
      refine r_take 26 undef (RB.pre _ _) rfl (by kernel_rfl) (fun _ _ _ h => hQ.panic _ _ _ _ _ h) (.inr ⟨by kernel_rfl, rfl⟩) ?_
      refine r_take 27 undef (RB.pre _ _) rfl (by kernel_rfl) (fun _ _ _ h => hQ.panic _ _ _ _ _ h) (.inr ⟨by kernel_rfl, rfl⟩) ?_
      refine r_take 28 undef (RB.pre _ _) rfl (by kernel_rfl) (fun _ _ _ h => hQ.panic _ _ _ _ _ h) (.inr ⟨by kernel_rfl, rfl⟩) ?_
      refine r_take 29 undef (RB.pre _ _) rfl (by kernel_rfl) (fun _ _ _ h => hQ.panic _ _ _ _ _ h) (.inr ⟨by kernel_rfl, rfl⟩) ?_
      refine r_take 30 undef (RB.pre _ _) rfl (by kernel_rfl) (fun _ _ _ h => hQ.panic _ _ _ _ _ h) (.inr ⟨by kernel_rfl, rfl⟩) ?_
      refine r_take 31 undef (RB.pre _ _) rfl (by kernel_rfl) (fun _ _ _ h => hQ.panic _ _ _ _ _ h) (.inr ⟨by kernel_rfl, rfl⟩) ?_
      refine r_take 32 undef (RB.pre _ _) rfl (by kernel_rfl) (fun _ _ _ h => hQ.panic _ _ _ _ _ h) (.inr ⟨by kernel_rfl, rfl⟩) ?_
      refine r_take 33 undef (RB.pre _ _) rfl (by kernel_rfl) (fun _ _ _ h => hQ.panic _ _ _ _ _ h) (.inr ⟨by kernel_rfl, rfl⟩) ?_
      refine r_take 34 undef (RB.pre _ _) rfl (by kernel_rfl) (fun _ _ _ h => hQ.panic _ _ _ _ _ h) (.inr ⟨by kernel_rfl, rfl⟩) ?_
      refine r_take 35 undef (RB.pre _ _) rfl (by kernel_rfl) (fun _ _ _ h => hQ.panic _ _ _ _ _ h) (.inr ⟨by kernel_rfl, rfl⟩) ?_
      refine r_take 36 (.bool true) (RB.pre _ _) rfl (by kernel_rfl) (fun _ _ _ h => hQ.panic _ _ _ _ _ h) (.inl ⟨rfl, fun wq hq => (by kernel_rfl)⟩) ?_
      refine r_ready [37] (by kernel_rfl) rfl (all_cons ⟨_, _, _, _, _, _, rfl, ?_⟩ all_nil)
      refine o_pv (.bool true) rfl (by kernel_rfl) ?_
      refine ⟨fun h => absurd h (by decide), ?_⟩
      refine r_done (by kernel_rfl) ?_
      refine then_normal (v3 _ _ _ ⟨[(6, (.bool true))], fit_mk (fun _ _ => rfl) (by kernel_rfl) (vs_cons (by kernel_rfl) vs_nil), ?_⟩)
      exact ⟨u0, true, rfl, u6, y7, v4, v5, z5, z1, v6, z6, z3, hp⟩
     ·
      replace hp := hp.2 t6
      refine r_take 16 (.bool false) (RB.pre _ _) rfl (by kernel_rfl) (fun _ _ _ h => hQ.panic _ _ _ _ _ h) (.inl ⟨(by kernel_rfl), fun wq hq => (x_df (p := n_ ≤ (((mgetD f_.files p).b).length : Int)) (by kernel_rfl) t6)⟩) ?_
      refine r_take 17 (.bool false) (RB.pre _ _) rfl (by kernel_rfl) (fun _ _ _ h => hQ.panic _ _ _ _ _ h) (.inl ⟨(by kernel_rfl), fun wq hq => (by kernel_rfl)⟩) ?_
      refine r_take 18 (.bool false) (RB.pre _ _) rfl (by kernel_rfl) (fun _ _ _ h => hQ.panic _ _ _ _ _ h) (.inl ⟨rfl, fun wq hq => (by kernel_rfl)⟩) ?_
      refine r_take 19 (.bool false) (RB.pre _ _) rfl (by kernel_rfl) (fun _ _ _ h => hQ.panic _ _ _ _ _ h) (.inl ⟨rfl, fun wq hq => (by kernel_rfl)⟩) ?_
      refine r_take 20 (.pointer (some ⟨z0, 0, none⟩)) (RB.pre _ _) rfl (by kernel_rfl) (fun _ _ _ h => hQ.panic _ _ _ _ _ h) (.inl ⟨(by kernel_rfl), fun wq hq => (by kernel_rfl)⟩) ?_
      refine r_take 21 (.pointer (some ⟨z0, 0, none⟩)) (RB.pre _ _) rfl (by kernel_rfl) (fun _ _ _ h => hQ.panic _ _ _ _ _ h) (.inl ⟨(by kernel_rfl), fun wq hq => (by kernel_rfl)⟩) ?_
      refine r_take 22 (.pointer (some ⟨z0, 1, none⟩)) (RB.pre _ _) rfl (by kernel_rfl) (fun _ _ _ h => hQ.panic _ _ _ _ _ h) (.inl ⟨(by kernel_rfl), fun wq hq => (by kernel_rfl)⟩) ?_
      refine r_take 23 (.map (some z2)) (RB.pre _ _) rfl (by kernel_rfl) (fun _ _ _ h => hQ.panic _ _ _ _ _ h) (.inl ⟨(by kernel_rfl), fun wq hq => (x_load1 (by kernel_rfl) Tryz.isAgg75 ((Blk.rb z3.2.1 (RB.trans z4 hq) (Nat.lt_of_lt_of_eq (Blk.lt z3.2.1) y3) (fun h => by cases h)).cell' 1 rfl))⟩) ?_
      refine r_take 25 (.pointer (some ⟨q2, 3, none⟩)) (RB.pre _ _) rfl (by kernel_rfl) (fun _ _ _ h => hQ.panic _ _ _ _ _ h) (.inl ⟨(by kernel_rfl), fun wq hq => (by kernel_rfl)⟩) ?_
      refine r_take 26 (.slice z7 (((mgetD f_.files p).b).length) z8) (RB.pre _ _) rfl (by kernel_rfl) (fun _ _ _ h => hQ.panic _ _ _ _ _ h) (.inl ⟨(by kernel_rfl), fun wq hq => (x_load1 (by kernel_rfl) Tryz.isAgg32 ((Blk.rb v8.2.1 (RB.trans z4 hq) (Nat.lt_of_lt_of_eq (Blk.lt v8.2.1) y3) (fun h => by cases h)).cell' 3 rfl))⟩) ?_
      refine r_take 27 (.int .i64 (((mgetD f_.files p).b).length : Int)) (RB.pre _ _) rfl (by kernel_rfl) (fun _ _ _ h => hQ.panic _ _ _ _ _ h) (.inl ⟨(by kernel_rfl), fun wq hq => (by kernel_rfl)⟩) ?_
      refine r_take 29 (.int .i64 n_) (RB.pre _ _) rfl (by kernel_rfl) (fun _ _ _ h => hQ.panic _ _ _ _ _ h) (.inl ⟨(by kernel_rfl), fun wq hq => (by kernel_rfl)⟩) ?_
      refine r_take 31 (.pointer (some ⟨z0, 0, none⟩)) (RB.pre _ _) rfl (by kernel_rfl) (fun _ _ _ h => hQ.panic _ _ _ _ _ h) (.inl ⟨(by kernel_rfl), fun wq hq => (by kernel_rfl)⟩) ?_
      refine r_take 32 (.pointer (some ⟨z0, 0, none⟩)) (RB.pre _ _) rfl (by kernel_rfl) (fun _ _ _ h => hQ.panic _ _ _ _ _ h) (.inl ⟨(by kernel_rfl), fun wq hq => (by kernel_rfl)⟩) ?_
      refine r_take 33 (.pointer (some ⟨z0, 3, none⟩)) (RB.pre _ _) rfl (by kernel_rfl) (fun _ _ _ h => hQ.panic _ _ _ _ _ h) (.inl ⟨(by kernel_rfl), fun wq hq => (by kernel_rfl)⟩) ?_
      refine r_take 34 (.int .i64 f_.quota) (RB.pre _ _) rfl (by kernel_rfl) (fun _ _ _ h => hQ.panic _ _ _ _ _ h) (.inl ⟨(by kernel_rfl), fun wq hq => (x_load1 (by kernel_rfl) Tryz.isAgg3 ((Blk.rb z3.2.1 (RB.trans z4 hq) (Nat.lt_of_lt_of_eq (Blk.lt z3.2.1) y3) (fun h => by cases h)).cell' 3 rfl))⟩) ?_
      refine r_ready [24] (by kernel_rfl) rfl (all_cons ⟨_, _, _, _, _, _, rfl, ?_⟩ all_nil)
      refine o_call 78 #[(.map (some z2))] (by kernel_rfl) (x_call Tryz.call78 (by kernel_rfl)) (simfs_sum_w (X := []) (l := f_.files) (Old.nil _) (OM.rm z1) hp) ?_
      rintro _ n6 ⟨y0, hp, r4, rfl, k3⟩
      have rm := RB.mono (F' := []) r4 (Nat.le_trans (Nat.le_of_eq y3.symm) (RB.size z4)) (fun _ h => by cases h)
      refine ⟨fun _ => rm, ?_⟩
      have y8 := Step.of0 u0 r4
      replace hp := hp k3
      obtain ⟨g4, hp⟩ := hp
      refine r_take 28 (.int .i64 (y0 - (((mgetD f_.files p).b).length : Int))) (RB.pre _ _) rfl (by kernel_rfl) (fun _ _ _ h => hQ.panic _ _ _ _ _ h) (.inl ⟨(by kernel_rfl), fun wq hq => (x_sub2 (k := .i64) (a := y0) (b := (((mgetD f_.files p).b).length : Int)) (y0 - (((mgetD f_.files p).b).length : Int)) (by kernel_rfl) (by kernel_rfl) (wrap_inR g4))⟩) ?_
      obtain ⟨g5, hp⟩ := hp
      refine r_take 30 (.int .i64 ((y0 - (((mgetD f_.files p).b).length : Int)) + n_)) (RB.pre _ _) rfl (by kernel_rfl) (fun _ _ _ h => hQ.panic _ _ _ _ _ h) (.inl ⟨(by kernel_rfl), fun wq hq => (x_add2 (k := .i64) (a := y0 - (((mgetD f_.files p).b).length : Int)) (b := n_) ((y0 - (((mgetD f_.files p).b).length : Int)) + n_) (by kernel_rfl) (by kernel_rfl) (wrap_inR g5))⟩) ?_
      refine r_take 35 (.bool (decide (((y0 - (((mgetD f_.files p).b).length : Int)) + n_) ≤ f_.quota))) (RB.pre _ _) rfl (by kernel_rfl) (fun _ _ _ h => hQ.panic _ _ _ _ _ h) (.inl ⟨(by kernel_rfl), fun wq hq => (by kernel_rfl)⟩) ?_
      refine r_take 36 (.bool (decide (((y0 - (((mgetD f_.files p).b).length : Int)) + n_) ≤ f_.quota))) (RB.pre _ _) rfl (by kernel_rfl) (fun _ _ _ h => hQ.panic _ _ _ _ _ h) (.inl ⟨rfl, fun wq hq => (by kernel_rfl)⟩) ?_
      refine r_ready [37] (by kernel_rfl) rfl (all_cons ⟨_, _, _, _, _, _, rfl, ?_⟩ all_nil)
      refine o_pv (.bool (decide (((y0 - (((mgetD f_.files p).b).length : Int)) + n_) ≤ f_.quota))) rfl (by kernel_rfl) ?_
      refine ⟨fun h => absurd h (by decide), ?_⟩
      refine r_done (by kernel_rfl) ?_
      have g6 := (Evo.then0 u6 r4)
      have q6 := (Old.step y7 y8)
      have k4 := (Sub.trans v4 (Step.up y8))
      have k5 := (News.step v5 y8)
      have s4 := (OM.step0 z5 y8)
      have t7 := (OM.step0 z1 y8)
      have k6 := (OS.step0 v6 y8)
      have s5 := (Sl.step z6 y8)
      have g7 := (OB.step0 z3 y8)
      refine then_normal (v3 _ _ _ ⟨[(6, (.bool (decide (((y0 - (((mgetD f_.files p).b).length : Int)) + n_) ≤ f_.quota))))], fit_mk (fun _ _ => rfl) (by kernel_rfl) (vs_cons (by kernel_rfl) vs_nil), ?_⟩)
      exact ⟨u0, (decide (((y0 - (((mgetD f_.files p).b).length : Int)) + n_) ≤ f_.quota)), rfl, g6, q6, k4, k5, s4, t7, k6, s5, g7, hp⟩
    ·
     replace hp := hp.2 t5
     refine r_take 10 (.bool false) (RB.pre _ _) rfl (by kernel_rfl) (fun _ _ _ h => hQ.panic _ _ _ _ _ h) (.inl ⟨(by kernel_rfl), fun wq hq => (x_bf (by kernel_rfl) t5)⟩) ?_
     refine r_take 11 (.bool false) (RB.pre _ _) rfl (by kernel_rfl) (fun _ _ _ h => hQ.panic _ _ _ _ _ h) (.inl ⟨(by kernel_rfl), fun wq hq => (by kernel_rfl)⟩) ?_
     refine r_take 12 undef (RB.pre _ _) rfl (by kernel_rfl) (fun _ _ _ h => hQ.panic _ _ _ _ _ h) (.inr ⟨by kernel_rfl, rfl⟩) ?_
     refine r_take 13 undef (RB.pre _ _) rfl (by kernel_rfl) (fun _ _ _ h => hQ.panic _ _ _ _ _ h) (.inr ⟨by kernel_rfl, rfl⟩) ?_
     refine r_take 14 undef (RB.pre _ _) rfl (by kernel_rfl) (fun _ _ _ h => hQ.panic _ _ _ _ _ h) (.inr ⟨by kernel_rfl, rfl⟩) ?_
     refine r_take 15 undef (RB.pre _ _) rfl (by kernel_rfl) (fun _ _ _ h => hQ.panic _ _ _ _ _ h) (.inr ⟨by kernel_rfl, rfl⟩) ?_
     refine r_take 16 undef (RB.pre _ _) rfl (by kernel_rfl) (fun _ _ _ h => hQ.panic _ _ _ _ _ h) (.inr ⟨by kernel_rfl, rfl⟩) ?_
     refine r_take 17 (.bool false) (RB.pre _ _) rfl (by kernel_rfl) (fun _ _ _ h => hQ.panic _ _ _ _ _ h) (.inl ⟨(by kernel_rfl), fun wq hq => (by kernel_rfl)⟩) ?_
     refine r_take 18 (.bool false) (RB.pre _ _) rfl (by kernel_rfl) (fun _ _ _ h => hQ.panic _ _ _ _ _ h) (.inl ⟨rfl, fun wq hq => (by kernel_rfl)⟩) ?_
     refine r_take 19 (.bool false) (RB.pre _ _) rfl (by kernel_rfl) (fun _ _ _ h => hQ.panic _ _ _ _ _ h) (.inl ⟨rfl, fun wq hq => (by kernel_rfl)⟩) ?_
     refine r_take 20 (.pointer (some ⟨z0, 0, none⟩)) (RB.pre _ _) rfl (by kernel_rfl) (fun _ _ _ h => hQ.panic _ _ _ _ _ h) (.inl ⟨(by kernel_rfl), fun wq hq => (by kernel_rfl)⟩) ?_
     refine r_take 21 (.pointer (some ⟨z0, 0, none⟩)) (RB.pre _ _) rfl (by kernel_rfl) (fun _ _ _ h => hQ.panic _ _ _ _ _ h) (.inl ⟨(by kernel_rfl), fun wq hq => (by kernel_rfl)⟩) ?_
     refine r_take 22 (.pointer (some ⟨z0, 1, none⟩)) (RB.pre _ _) rfl (by kernel_rfl) (fun _ _ _ h => hQ.panic _ _ _ _ _ h) (.inl ⟨(by kernel_rfl), fun wq hq => (by kernel_rfl)⟩) ?_
     refine r_take 23 (.map (some z2)) (RB.pre _ _) rfl (by kernel_rfl) (fun _ _ _ h => hQ.panic _ _ _ _ _ h) (.inl ⟨(by kernel_rfl), fun wq hq => (x_load1 (by kernel_rfl) Tryz.isAgg75 ((Blk.rb z3.2.1 (RB.trans z4 hq) (Nat.lt_of_lt_of_eq (Blk.lt z3.2.1) y3) (fun h => by cases h)).cell' 1 rfl))⟩) ?_
     refine r_take 25 (.pointer (some ⟨q2, 3, none⟩)) (RB.pre _ _) rfl (by kernel_rfl) (fun _ _ _ h => hQ.panic _ _ _ _ _ h) (.inl ⟨(by kernel_rfl), fun wq hq => (by kernel_rfl)⟩) ?_
     refine r_take 26 (.slice z7 (((mgetD f_.files p).b).length) z8) (RB.pre _ _) rfl (by kernel_rfl) (fun _ _ _ h => hQ.panic _ _ _ _ _ h) (.inl ⟨(by kernel_rfl), fun wq hq => (x_load1 (by kernel_rfl) Tryz.isAgg32 ((Blk.rb v8.2.1 (RB.trans z4 hq) (Nat.lt_of_lt_of_eq (Blk.lt v8.2.1) y3) (fun h => by cases h)).cell' 3 rfl))⟩) ?_
     refine r_take 27 (.int .i64 (((mgetD f_.files p).b).length : Int)) (RB.pre _ _) rfl (by kernel_rfl) (fun _ _ _ h => hQ.panic _ _ _ _ _ h) (.inl ⟨(by kernel_rfl), fun wq hq => (by kernel_rfl)⟩) ?_
     refine r_take 29 (.int .i64 n_) (RB.pre _ _) rfl (by kernel_rfl) (fun _ _ _ h => hQ.panic _ _ _ _ _ h) (.inl ⟨(by kernel_rfl), fun wq hq => (by kernel_rfl)⟩) ?_
     refine r_take 31 (.pointer (some ⟨z0, 0, none⟩)) (RB.pre _ _) rfl (by kernel_rfl) (fun _ _ _ h => hQ.panic _ _ _ _ _ h) (.inl ⟨(by kernel_rfl), fun wq hq => (by kernel_rfl)⟩) ?_
     refine r_take 32 (.pointer (some ⟨z0, 0, none⟩)) (RB.pre _ _) rfl (by kernel_rfl) (fun _ _ _ h => hQ.panic _ _ _ _ _ h) (.inl ⟨(by kernel_rfl), fun wq hq => (by kernel_rfl)⟩) ?_
     refine r_take 33 (.pointer (some ⟨z0, 3, none⟩)) (RB.pre _ _) rfl (by kernel_rfl) (fun _ _ _ h => hQ.panic _ _ _ _ _ h) (.inl ⟨(by kernel_rfl), fun wq hq => (by kernel_rfl)⟩) ?_
     refine r_take 34 (.int .i64 f_.quota) (RB.pre _ _) rfl (by kernel_rfl) (fun _ _ _ h => hQ.panic _ _ _ _ _ h) (.inl ⟨(by kernel_rfl), fun wq hq => (x_load1 (by kernel_rfl) Tryz.isAgg3 ((Blk.rb z3.2.1 (RB.trans z4 hq) (Nat.lt_of_lt_of_eq (Blk.lt z3.2.1) y3) (fun h => by cases h)).cell' 3 rfl))⟩) ?_
     refine r_ready [24] (by kernel_rfl) rfl (all_cons ⟨_, _, _, _, _, _, rfl, ?_⟩ all_nil)
     refine o_call 78 #[(.map (some z2))] (by kernel_rfl) (x_call Tryz.call78 (by kernel_rfl)) (simfs_sum_w (X := []) (l := f_.files) (Old.nil _) (OM.rm z1) hp) ?_
     rintro _ n7 ⟨y1, hp, r5, rfl, k7⟩
     have rm := RB.mono (F' := []) r5 (Nat.le_trans (Nat.le_of_eq y3.symm) (RB.size z4)) (fun _ h => by cases h)
     refine ⟨fun _ => rm, ?_⟩
     have y9 := Step.of0 u0 r5
     replace hp := hp k7
     obtain ⟨g8, hp⟩ := hp
     refine r_take 28 (.int .i64 (y1 - (((mgetD f_.files p).b).length : Int))) (RB.pre _ _) rfl (by kernel_rfl) (fun _ _ _ h => hQ.panic _ _ _ _ _ h) (.inl ⟨(by kernel_rfl), fun wq hq => (x_sub2 (k := .i64) (a := y1) (b := (((mgetD f_.files p).b).length : Int)) (y1 - (((mgetD f_.files p).b).length : Int)) (by kernel_rfl) (by kernel_rfl) (wrap_inR g8))⟩) ?_
     obtain ⟨g9, hp⟩ := hp
     refine r_take 30 (.int .i64 ((y1 - (((mgetD f_.files p).b).length : Int)) + n_)) (RB.pre _ _) rfl (by kernel_rfl) (fun _ _ _ h => hQ.panic _ _ _ _ _ h) (.inl ⟨(by kernel_rfl), fun wq hq => (x_add2 (k := .i64) (a := y1 - (((mgetD f_.files p).b).length : Int)) (b := n_) ((y1 - (((mgetD f_.files p).b).length : Int)) + n_) (by kernel_rfl) (by kernel_rfl) (wrap_inR g9))⟩) ?_
     refine r_take 35 (.bool (decide (((y1 - (((mgetD f_.files p).b).length : Int)) + n_) ≤ f_.quota))) (RB.pre _ _) rfl (by kernel_rfl) (fun _ _ _ h => hQ.panic _ _ _ _ _ h) (.inl ⟨(by kernel_rfl), fun wq hq => (by kernel_rfl)⟩) ?_
     refine r_take 36 (.bool (decide (((y1 - (((mgetD f_.files p).b).length : Int)) + n_) ≤ f_.quota))) (RB.pre _ _) rfl (by kernel_rfl) (fun _ _ _ h => hQ.panic _ _ _ _ _ h) (.inl ⟨rfl, fun wq hq => (by kernel_rfl)⟩) ?_
     refine r_ready [37] (by kernel_rfl) rfl (all_cons ⟨_, _, _, _, _, _, rfl, ?_⟩ all_nil)
     refine o_pv (.bool (decide (((y1 - (((mgetD f_.files p).b).length : Int)) + n_) ≤ f_.quota))) rfl (by kernel_rfl) ?_
     refine ⟨fun h => absurd h (by decide), ?_⟩
     refine r_done (by kernel_rfl) ?_
     have d0 := (Evo.then0 u6 r5)
     have q7 := (Old.step y7 y9)
     have k8 := (Sub.trans v4 (Step.up y9))
     have k9 := (News.step v5 y9)
     have s6 := (OM.step0 z5 y9)
     have t8 := (OM.step0 z1 y9)
     have j0 := (OS.step0 v6 y9)
     have s7 := (Sl.step z6 y9)
     have d1 := (OB.step0 z3 y9)
     refine then_normal (v3 _ _ _ ⟨[(6, (.bool (decide (((y1 - (((mgetD f_.files p).b).length : Int)) + n_) ≤ f_.quota))))], fit_mk (fun _ _ => rfl) (by kernel_rfl) (vs_cons (by kernel_rfl) vs_nil), ?_⟩)
     exact ⟨u0, (decide (((y1 - (((mgetD f_.files p).b).length : Int)) + n_) ≤ f_.quota)), rfl, d0, q7, k8, k9, s6, t8, j0, s7, d1, hp⟩
 ·
  rintro _ y5 n8 ⟨y2, v7, rfl, d2, m6, j1, j2, s8, t9, j3, s9, d3, j4⟩
  replace hp := k2 v7 j4
  refine then_normal (m5 _ _ _ _ ?_)
  refine wp_ret ?_
  obtain ⟨d4, d5, m8⟩ := MO.pack (o_simfs_FS_mk d3 s8 t9 j3 v9 t0 v0 u3 u4 s9 rfl l2 l3 l4 l5 l6 l7)
  refine end_ret hQ (.bool v7) (by kernel_rfl) ?_
  exact ⟨f_, v7, hp, y2, d4, step_of d2 l1 j1 j2, rfl, d5⟩
end Go.Proofs.YtaolmfepdmgohaaGreatDoor
