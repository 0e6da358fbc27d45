/- The plain laws of chapter 5: FilesRename. -/
import Derived.Test.YtaolmfepdmgohaaDoorFiA
namespace Go.Proofs.YtaolmfepdmgohaaDoor
open Go
def pA : ByteArray := ByteArray.mk #[97]
def pB : ByteArray := ByteArray.mk #[98]
theorem may0 {f : S_simfs_FS} {p : ByteArray} {mode n : Int} (h1 : f.off = false) (h2 : Chk p = 0) (h3 : n ≤ 65536) (h4 : mode = 1 ∨ mode = 2) (h5 : clashS f.files p E0 = false) (h6 : f.quota ≤ 0) : mayS f p mode n = 0 := by
  unfold mayS
  rw [if_neg (by rw [h1]; exact Bool.false_ne_true), if_neg (fun hx => hx h2), if_neg (by omega), if_neg (by omega), if_neg (by rw [h5]; exact Bool.false_ne_true), if_neg]
  intro hr
  have : roomS f p n = true := decide_eq_true (.inl h6)
  rw [this] at hr; cases hr
theorem write0 {f : S_simfs_FS} {p : ByteArray} {mode : Int} {b : List Int} (h : mayS f p mode b.length = 0) (ha : f.armed = false) : writeS f p mode b = (doF (putF f p) (putO f p mode b), 0) := by
  have ht : tripsS f = (f, false) := by unfold tripsS; rw [if_pos ha]
  unfold writeS; rw [if_neg (fun hx => hx h), ht, if_neg (by exact Bool.false_ne_true)]
def o1 : S_simfs_op := ⟨1, pA, E0, ⟨1, 0, 1, [120, 121]⟩⟩
def o2 : S_simfs_op := ⟨1, pB, E0, ⟨2, 0, 2, []⟩⟩
def F1 : S_simfs_FS := ⟨[], [(pA, ⟨1, 0, 1, [120, 121]⟩)], [o1], 0, 0, 1, 1, false, false, 0, []⟩
def F2 : S_simfs_FS := ⟨[], [(pA, ⟨1, 0, 1, [120, 121]⟩), (pB, ⟨2, 0, 2, []⟩)], [o1, o2], 0, 0, 2, 2, false, false, 0, []⟩
def F3 : S_simfs_FS := ⟨[], [(pA, ⟨1, 0, 1, [120, 121]⟩), (pB, ⟨2, 0, 2, []⟩)], [o1, o2], 0, 1, 2, 2, false, false, 0, []⟩
def F4 : S_simfs_FS := ⟨[(pA, ⟨1, 0, 1, [120, 121]⟩)], [(pA, ⟨1, 0, 1, [120, 121]⟩)], [], 0, 1, 2, 2, true, false, 0, []⟩
def F5 : S_simfs_FS := ⟨[(pA, ⟨1, 0, 1, [120, 121]⟩)], [(pA, ⟨1, 0, 1, [120, 121]⟩)], [], 0, 1, 2, 2, false, false, 0, []⟩
theorem eF1 : writeS (newF 0) pA 1 [120, 121] = (F1, 0) := by kernel_rfl
theorem eF2 : writeS F1 pB 2 [] = (F2, 0) := by kernel_rfl
theorem eF4 : cutF F3 [true] = F4 := by kernel_rfl
theorem ok1 : FOk 2 F1 := by
  have := writeS_ok (p := pA) (mode := 1) (b := [120, 121]) (newF_ok 0); rw [eF1] at this; exact this
theorem ok2 : FOk 6 F2 := by
  have := writeS_ok (p := pB) (mode := 2) (b := []) ok1; rw [eF2] at this; exact this
theorem tick_ok {K : Nat} {f : S_simfs_FS} (h : FOk K f) : FOk (K + 1) ⟨f.kept, f.files, f.pending, f.quota, f.now + 1, f.inodes, f.ops_, f.off, f.armed, f.left, f.keep⟩ := by
  have k := h.up (Nat.le_succ K)
  exact ⟨k.files, k.kept, k.pend, by have := h.now; show 0 ≤ f.now + 1 ∧ f.now + 1 ≤ _; omega, k.inodes, k.ops, k.keep⟩
theorem on_ok {K : Nat} {f : S_simfs_FS} (k : FOk K f) : FOk K ⟨f.kept, f.files, f.pending, f.quota, f.now, f.inodes, f.ops_, false, f.armed, f.left, f.keep⟩ := ⟨k.files, k.kept, k.pend, k.now, k.inodes, k.ops, k.keep⟩
theorem ok3 : FOk 7 F3 := tick_ok ok2
theorem ok4 : FOk 14 F4 := by
  have := cutF_ok (keep := [true]) ok3; rw [eF4] at this; exact this
theorem ok5 : FOk 14 F5 := on_ok ok4
theorem known5_p {Q : Bool → Prop} (h : Q true) : rectolaw5_known_p Q := by
  unfold rectolaw5_known_p simfs_New_p; intro _
  show simfs_FS_Write_p (newF 0) pA 1 [120, 121] _
  refine Write_p (newF_ok 0) (by omega) (fun hx => by cases hx) ?_
  rw [eF1]
  refine fun _ => Write_p ok1 (by omega) (fun hx => by cases hx) ?_
  show _ → _
  rw [show writeS F1 (ByteArray.mk #[98]) 2 [] = (F2, 0) from eF2]
  refine fun _ => Tick_p ok2 (by omega) (Pending_p fun _ => Cut_p ok3 (by omega) (by decide) ?_)
  show simfs_FS_Read_p (cutF F3 [true]) _ _
  rw [eF4]
  refine Read_p ok4 (fun _ _ => On_p (Read_p ok5 (fun _ _ => Read_p ok5 (fun _ _ => Stat_p (fun _ _ _ _ _ => List_p ok5 (by omega) (fun hx => by cases hx) (fun _ => ?_))))))
  intro _ _
  refine ⟨fun b => b = true, by rintro _ rfl; exact h, by decide +kernel, by decide +kernel, by decide +kernel, by decide +kernel, ?_, fun hx => absurd (by decide +kernel) hx⟩
  refine fun _ => ⟨fun _ => ⟨fun _ => ⟨fun _ => ⟨fun _ => ⟨fun _ => ⟨fun _ => ⟨fun _ => ⟨fun _ => Now_p fun _ => ⟨fun _ => Used_p ok5 (by omega) fun _ => ⟨fun _ => Ops_p fun _ => ?_, fun hx => absurd (by decide +kernel) hx⟩, fun hx => absurd (by decide +kernel) hx⟩, fun hx => absurd ?_ hx⟩, fun hx => absurd (by decide +kernel) hx⟩, fun hx => absurd (by decide +kernel) hx⟩, fun hx => absurd (by decide +kernel) hx⟩, fun hx => absurd (by decide +kernel) hx⟩, fun hx => absurd (by decide +kernel) hx⟩, fun hx => absurd (by decide +kernel) hx⟩, fun hx => absurd (by decide +kernel) hx⟩
  · exact decide_eq_true rfl
  · rw [keysB_len]; rfl
def fT (th : Bool) (a b : List Int) : FL := (pA, ⟨2, 0, 1, a⟩) :: (match th with | true => [(pB, ⟨1, 0, 2, b⟩)] | false => [])
def nT (th : Bool) : Int := match th with | true => 2 | false => 1
def oA (a : List Int) : S_simfs_op := ⟨1, pA, E0, ⟨2, 0, 1, a⟩⟩
def oB (b : List Int) : S_simfs_op := ⟨1, pB, E0, ⟨1, 0, 2, b⟩⟩
def oR : S_simfs_op := ⟨2, pA, pB, ⟨0, 0, 0, []⟩⟩
def pT (th : Bool) (a b : List Int) : List S_simfs_op := match th with | true => [oA a, oB b] | false => [oA a]
def G2 (th : Bool) (a b : List Int) : S_simfs_FS := ⟨[], fT th a b, pT th a b, 0, 0, nT th, nT th, false, false, 0, []⟩
def G3 (th : Bool) (a b : List Int) : S_simfs_FS := ⟨fT th a b, fT th a b, [], 0, 0, nT th, nT th, false, false, 0, []⟩
def G4 (th : Bool) (a b : List Int) : S_simfs_FS := ⟨fT th a b, fT th a b, [], 0, 1, nT th, nT th, false, false, 0, []⟩
def G5 (th : Bool) (a b : List Int) : S_simfs_FS := ⟨fT th a b, [(pB, ⟨2, 0, 1, a⟩)], [oR], 0, 1, nT th, nT th + 1, false, false, 0, []⟩
def lK (th kp : Bool) (a b : List Int) : FL := match kp with | true => [(pB, ⟨2, 0, 1, a⟩)] | false => fT th a b
def G6 (th kp : Bool) (a b : List Int) : S_simfs_FS := ⟨lK th kp a b, lK th kp a b, [], 0, 1, nT th, nT th + 1, true, false, 0, []⟩
def G7 (th kp : Bool) (a b : List Int) : S_simfs_FS := ⟨lK th kp a b, lK th kp a b, [], 0, 1, nT th, nT th + 1, false, false, 0, []⟩
theorem chkA : Chk pA = 0 := by decide +kernel
theorem chkB : Chk pB = 0 := by decide +kernel
theorem eG1 (a b : List Int) (ha : a.length ≤ 300) : writeS (newF 0) pA 2 a = (G2 false a b, 0) := by
  rw [write0 (may0 rfl chkA (by omega) (.inr rfl) rfl (Int.le_refl 0)) rfl]; kernel_rfl
theorem eG2 (a b : List Int) (hb : b.length ≤ 300) : writeS (G2 false a b) pB 1 b = (G2 true a b, 0) := by
  rw [write0 (may0 rfl chkB (by omega) (.inl rfl) (by kernel_rfl) (Int.le_refl 0)) rfl]; kernel_rfl
theorem okG2 (th : Bool) (a b : List Int) (ha : a.length ≤ 300) (hb : b.length ≤ 300) : FOk 6 (G2 th a b) := by
  have h1 := writeS_ok (p := pA) (mode := 2) (b := a) (newF_ok 0)
  rw [eG1 a b ha] at h1
  cases th with
  | false => exact h1.up (by omega)
  | true =>
    have h2 := writeS_ok (p := pB) (mode := 1) (b := b) h1
    rw [show writeS (G2 false a b, (0 : Int)).1 pB 1 b = (G2 true a b, 0) from eG2 a b hb] at h2
    exact h2
theorem okG3 (th : Bool) (a b : List Int) (ha : a.length ≤ 300) (hb : b.length ≤ 300) : FOk 6 (G3 th a b) := syncF_ok (okG2 th a b ha hb)
theorem okG4 (th : Bool) (a b : List Int) (ha : a.length ≤ 300) (hb : b.length ≤ 300) : FOk 7 (G4 th a b) := tick_ok (okG3 th a b ha hb)
theorem eG5 (th : Bool) (a b : List Int) : renS (G4 th a b) pA pB = (G5 th a b, 0) := by cases th <;> kernel_rfl
theorem okG5 (th : Bool) (a b : List Int) (ha : a.length ≤ 300) (hb : b.length ≤ 300) : FOk 8 (G5 th a b) := by
  have h := doF_ok (o := oR) (okG4 th a b ha hb) ⟨by decide, by decide, by decide⟩
  have e : doF (G4 th a b) oR = G5 th a b := by cases th <;> kernel_rfl
  rw [e] at h; exact h
theorem eG6 (th kp : Bool) (a b : List Int) : cutF (G5 th a b) [kp] = G6 th kp a b := by cases th <;> cases kp <;> kernel_rfl
theorem okG6 (th kp : Bool) (a b : List Int) (ha : a.length ≤ 300) (hb : b.length ≤ 300) : FOk 16 (G6 th kp a b) := by
  have h := cutF_ok (keep := [kp]) (okG5 th a b ha hb); rw [eG6] at h; exact h
theorem eS4 (th : Bool) (a b : List Int) : statS (G4 th a b) pA = (⟨(a.length : Int), 0, 1, 2⟩, 0) := by cases th <;> kernel_rfl
theorem eS5b (th : Bool) (a b : List Int) : statS (G5 th a b) pB = (⟨(a.length : Int), 0, 1, 2⟩, 0) := by cases th <;> kernel_rfl
theorem eS5a (th : Bool) (a b : List Int) : statS (G5 th a b) pA = (⟨0, 0, 0, 0⟩, 5) := by cases th <;> kernel_rfl
theorem eR7t (th : Bool) (a b : List Int) : findS (G7 th true a b) pA = (⟨0, 0, 0, []⟩, 5) ∧ findS (G7 th true a b) pB = (⟨2, 0, 1, a⟩, 0) := by cases th <;> exact ⟨by kernel_rfl, by kernel_rfl⟩
theorem eR7f (th : Bool) (a b : List Int) : findS (G7 th false a b) pA = (⟨2, 0, 1, a⟩, 0) := by cases th <;> kernel_rfl
theorem eR7fb (a b : List Int) : findS (G7 true false a b) pB = (⟨1, 0, 2, b⟩, 0) := by kernel_rfl
theorem eR7fn (a b : List Int) : findS (G7 false false a b) pB = (⟨0, 0, 0, []⟩, 5) := by kernel_rfl
theorem FilesRename_p {a b : List Int} {there keep : Bool} {Q : Bool → Prop} (h : Q true) : rectolaw5_FilesRename_p a b there keep Q := by
  unfold rectolaw5_FilesRename_p; intro _ _
  refine known5_p ⟨fun hx => (by cases hx), fun _ => ⟨fun _ => h, fun hl => ?_⟩⟩
  have ha : a.length ≤ 300 := by omega
  have hb : b.length ≤ 300 := by omega
  unfold simfs_New_p; intro _
  show simfs_FS_Write_p (newF 0) pA 2 a _
  refine Write_p (newF_ok 0) (by omega) (fun hx => by cases hx) ?_
  rw [eG1 a b ha]
  refine fun _ => ⟨fun o => o = G2 there a b, ?_, fun ht => ?_, fun ht => by subst ht; rfl⟩
  · rintro _ rfl
    refine Sync_p ?_
    rw [show syncS (G2 there a b) = (G3 there a b, 0) from rfl]
    refine fun _ => Tick_p (okG3 there a b ha hb) (by omega) ?_
    show simfs_FS_Stat_p (G4 there a b) pA _
    refine Stat_p ?_
    rw [eS4]
    refine fun _ _ _ _ _ => ⟨fun s o => s = false ∧ o = G5 there a b, ?_, ?_⟩
    · rintro _ _ ⟨rfl, rfl⟩
      refine ⟨fun hx => (by cases hx), fun _ => ?_⟩
      show simfs_FS_Stat_p (G5 there a b) pB _
      refine Stat_p ?_
      rw [eS5b]
      intro _ _ _ _ _
      show simfs_FS_Stat_p (G5 there a b) pA _
      refine Stat_p ?_
      rw [eS5a]
      refine fun _ _ _ _ _ => ⟨fun hx => ?_, fun _ => ?_⟩
      · rcases hx with hx | hx | hx | hx
        · exact absurd rfl hx
        · exact absurd rfl hx
        · exact absurd ⟨rfl, rfl, rfl, rfl, trivial⟩ hx
        · exact absurd rfl hx
      refine Cut_p (okG5 there a b ha hb) (by omega) (show 1 ≤ 1000000 by decide) ?_
      rw [eG6]
      refine On_p ?_
      show simfs_FS_Read_p (G7 there keep a b) pA _
      refine Read_p (on_ok (okG6 there keep a b ha hb)) (fun _ _ => ?_)
      show simfs_FS_Read_p (G7 there keep a b) pB _
      refine Read_p (on_ok (okG6 there keep a b ha hb)) (fun _ _ => ⟨fun hk => ?_, fun hk => ?_⟩)
      · subst hk
        have e1 := (eR7t there a b).1
        have e2 := (eR7t there a b).2
        show Q (decide ((findS (G7 there true a b) pA).2 = 5 ∧ (findS (G7 there true a b) pB).2 = 0 ∧ (strOfNums (findS (G7 there true a b) pB).1.b : ByteArray) = strOfNums a))
        rw [e1, e2, decide_eq_true ⟨rfl, rfl, rfl⟩]; exact h
      · subst hk
        have e1 := eR7f there a b
        show Q (decide ((findS (G7 there false a b) pA).2 = 0 ∧ (strOfNums (findS (G7 there false a b) pA).1.b : ByteArray) = strOfNums a ∧ ((decide ((findS (G7 there false a b) pB).2 = 0)) : Bool) = there ∧ ((¬ there = true) ∨ (strOfNums (findS (G7 there false a b) pB).1.b : ByteArray) = strOfNums b)))
        rw [e1]
        cases there with
        | true => rw [eR7fb, decide_eq_true ⟨rfl, rfl, rfl, .inr rfl⟩]; exact h
        | false => rw [eR7fn, decide_eq_true ⟨rfl, rfl, by decide, .inl (by decide)⟩]; exact h
    · show simfs_FS_Rename_p (G4 there a b) pA pB _
      refine Rename_p (okG4 there a b ha hb) (by omega) (fun hx => by cases hx) ?_
      rw [eG5]
      exact fun _ => ⟨fun _ => Pending_p fun _ => ⟨rfl, rfl⟩, fun hx => absurd rfl hx⟩
  · subst ht
    show simfs_FS_Write_p (G2 false a b) pB 1 b _
    refine Write_p (okG2 false a b ha hb) (by omega) (fun hx => by cases hx) ?_
    rw [eG2 a b hb]
    exact fun _ => rfl
end Go.Proofs.YtaolmfepdmgohaaDoor
