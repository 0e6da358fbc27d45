/- The plain law of FilesPlay: any calls. -/
import Derived.Test.YtaolmfepdmgohaaGreatDoorFpR
namespace Go.Proofs.YtaolmfepdmgohaaGreatDoor
open Go
def remS (f : S_simfs_FS) (p : ByteArray) : S_simfs_FS × Int :=
  if f.off = true then (f, 13) else if mhas f.files p = false then (f, 5) else if (tripsS f).2 = true then ((tripsS f).1, 13) else (doF (tripsS f).1 ⟨3, p, E0, ⟨0, 0, 0, []⟩⟩, 0)
theorem Remove_p {K : Nat} {f : S_simfs_FS} {p : ByteArray} {Q : S_simfs_FS → Int → Prop} (hf : FOk K f) (hK : K ≤ 40000) (hlf : f.armed = true → 1 ≤ f.left) (h : Q (remS f p).1 (remS f p).2) : simfs_FS_Remove_p f p Q := by
  unfold simfs_FS_Remove_p; intro _ _ _ _ _ _ _ _ _ _ _ _
  unfold remS at h
  refine ⟨fun h1 => by rwa [if_pos h1] at h, fun h1 => ?_⟩
  rw [if_neg (by rw [h1]; exact Bool.false_ne_true)] at h
  refine ⟨fun h2 => ?_, fun h2 => ?_⟩
  · have : mhas f.files p = false := by cases hm : mhas f.files p <;> rw [hm] at h2 <;> first | rfl | cases h2
    rwa [if_pos this] at h
  have hm : mhas f.files p = true := by cases hm : mhas f.files p <;> rw [hm] at h2 <;> first | rfl | cases h2
  rw [if_neg (by rw [hm]; exact fun hx => by cases hx)] at h
  refine trips_p hf (by omega) hlf ⟨fun h6 => by rwa [if_pos h6] at h, fun h6 => ?_⟩
  rw [if_neg (by rw [h6]; exact Bool.false_ne_true)] at h
  exact do_p (tripsS_ok1 hf h6) (by omega) ⟨key_le hf.files hm, show E0.size ≤ 64 by decide⟩ h
def putL (f : S_simfs_FS) (p : ByteArray) (l : FL) : S_simfs_FS := ⟨(putF f p).kept, l, (putF f p).pending, (putF f p).quota, (putF f p).now, (putF f p).inodes, (putF f p).ops_, (putF f p).off, (putF f p).armed, (putF f p).left, (putF f p).keep⟩
def edF (f : S_simfs_FS) (p : ByteArray) (mode : Int) (b : List Int) : S_simfs_FS := syncF (putL f p (applyS f.files (putO f p mode b)).1)
theorem Edit_p {K : Nat} {f : S_simfs_FS} {p : ByteArray} {mode : Int} {b : List Int} {Q : S_simfs_FS → Int → Prop} (hf : FOk K f) (hK : K ≤ 40000) (h1 : ¬ mayS f p mode b.length = 0 → Q f (mayS f p mode b.length)) (h2 : mayS f p mode b.length = 0 → Q (edF f p mode b) 0) : simfs_FS_Edit_p f p mode b Q := by
  unfold simfs_FS_Edit_p; intro _ _ _
  refine may_p hf (by omega) (fun _ => ⟨h1, fun h3 => ?_⟩)
  have ⟨_, hc, hn, _⟩ := mayS_ok h3
  intro K2 hK2 _ _ _ _ _ _ _
  refine put_p hf (by omega) (by omega) (fun _ _ _ _ _ _ _ _ _ _ _ _ _ _ => apply_p (K := K) hf.files ⟨Chk_size hc, show E0.size ≤ 64 by decide⟩ (hK2 _ (sync_p (h2 h3))))
def unlF (f : S_simfs_FS) (p : ByteArray) : S_simfs_FS := if mhas f.files p = true then syncF ⟨f.kept, mdel f.files p, f.pending, f.quota, f.now, f.inodes, f.ops_, f.off, f.armed, f.left, f.keep⟩ else f
theorem Unlink_p {f : S_simfs_FS} {p : ByteArray} {Q : S_simfs_FS → Int → Prop} (h1 : f.off = true → Q f 13) (h2 : f.off = false → Q (unlF f p) 0) : simfs_FS_Unlink_p f p Q := by
  unfold simfs_FS_Unlink_p; intro _ _ _ _ _ _ _ _ _ _ _ _
  refine ⟨fun o => o = unlF f p ∧ f.off = false, ?_, h1, fun ho => ⟨fun h3 => sync_p ⟨?_, ho⟩, fun h3 => ⟨?_, ho⟩⟩⟩
  · rintro _ ⟨rfl, ho⟩; exact h2 ho
  · unfold unlF; rw [if_pos h3]
  · unfold unlF; rw [if_neg (by rw [h3]; exact Bool.false_ne_true)]
theorem Twin_p {K : Nat} {f : S_simfs_FS} {Q : S_simfs_FS → S_simfs_FS → Prop} (hf : FOk K f) (hK : K ≤ 40000) (h : Q f f) : simfs_FS_Twin_p f Q := by
  unfold simfs_FS_Twin_p maps_Clone_map_string_simfs_file_string_simfs_file_p slices_Clone_simfs_op_simfs_op_p; intro _ _ _ _ _ _ _ _
  have := hf.pend.2
  exact ⟨by omega, fun _ => boClone_p hf.keep (fun _ => h)⟩
/-! both -/
theorem both_p {K : Nat} {f : S_simfs_FS} {d : S_rectolaw5_Disk} {a : S_rectolaw5_Act} {Q : S_simfs_FS → S_rectolaw5_Disk → Bool → Prop} (h : Rel f d) (hf : FOk2 K f) (hK : K ≤ 1000) (hB : a.B.length ≤ 300) (hKe : a.Keep.length ≤ 100)
    (hq : ∀ f' d', Rel f' d' → FOk2 (K + 2) f' → Q f' d' true) : rectolaw5_both_p f d a Q := by
  have hlf : f.armed = true → 1 ≤ f.left := fun hx => (h.arm hx).2.2
  have same : ∀ {x y : Int} {f' : S_simfs_FS} {d' : S_rectolaw5_Disk}, x = y → Rel f' d' → FOk2 (K + 2) f' → Q f' d' (decide (x = y)) := fun e h1 h2 => by rw [decide_eq_true e]; exact hq _ _ h1 h2
  have hf2 := hf.up (show K ≤ K + 2 by omega)
  have hfil := h.files
  unfold rectolaw5_both_p; intro _ _ hN _ _ _ _
  refine ⟨fun o dd => Rel o dd ∧ FOk2 (K + 2) o, fun o dd hh => hq _ _ hh.1 hh.2, fun _ => ?_, fun _ => ⟨fun _ => ?_, fun _ => ⟨fun _ => ?_, fun _ => ⟨fun _ => ?_, fun _ => ⟨fun _ => ?_, fun _ => ⟨fun _ => ?_, fun _ => ⟨fun _ => ?_, fun _ => ⟨fun _ => ?_, fun _ => ⟨fun _ => ?_, fun _ => ⟨fun _ => ?_, fun _ => ⟨fun _ => ?_, fun _ => ⟨h, hf2⟩⟩⟩⟩⟩⟩⟩⟩⟩⟩⟩⟩
  -- Write
  · refine Write_p hf.1 (by omega) hlf (fun _ => cause_p h hf.1 (by omega) ⟨by omega, by omega⟩ (fun _ => ?_))
    by_cases hm : mayS f a.P_ a.Mode a.B.length = 0
    · have ⟨_, hc, hn, _⟩ := mayS_ok hm
      have hws : writeS f a.P_ a.Mode a.B = if (tripsS f).2 = true then ((tripsS f).1, 13) else (doF (putF (tripsS f).1 a.P_) (putO (tripsS f).1 a.P_ a.Mode a.B), 0) := by unfold writeS; rw [if_neg (fun hx => hx hm)]
      refine ⟨fun w o => w = (writeS f a.P_ a.Mode a.B).2 ∧ Rel (writeS f a.P_ a.Mode a.B).1 o ∧ FOk2 (K + 2) (writeS f a.P_ a.Mode a.B).1, fun w o hh _ => same hh.1.symm hh.2.1 hh.2.2, fun _ _ _ _ _ _ _ _ _ _ => file_p (bb := a.B) h hf.1 (by omega) (fun _ _ _ _ _ => ?_), fun hx => absurd hm hx⟩
      obtain ⟨t1, t2, t3, t4⟩ := trips_put f a.P_ a.Mode a.B
      have hg : Rel (putF f a.P_) ⟨d.kept, d.now, d.wait, d.quota, d.time, (putF f a.P_).inodes, d.off, d.armed, d.left, d.keep, d.ops_⟩ := ⟨⟨h.r0.kept, h.r0.pend, h.r0.quota, h.r0.now, rfl, h.r0.ops⟩, h.files, h.off, h.armed, h.arm⟩
      have hsz := Chk_size hc
      have hor : ORel (putO f a.P_ a.Mode a.B) ⟨1, ⟨a.P_, strOfNums a.B, a.Mode, d.time, (putO f a.P_ a.Mode a.B).file.inode⟩, ByteArray.mk #[], ByteArray.mk #[]⟩ :=
        ⟨rfl, ⟨hsz, by show (strOfNums a.B).size ≤ _; rw [strOfNums_size]; omega, show E0.size ≤ 64 by decide, show E0.size ≤ 64 by decide⟩, .inl ⟨rfl, rfl, rfl, h.r0.now, rfl, rfl⟩⟩
      refine ddo_p hg (putF_ok2 hf) (by omega) hor (fun ht d' hd' => fun _ => ?_) (fun ht d' hd' => fun _ => ⟨fun hx => absurd rfl hx, fun _ => ?_⟩)
      · rw [t1] at ht
        rw [hws, if_pos ht]
        rw [t4 ht] at hd'
        refine ⟨fun _ _ _ _ _ _ _ _ _ _ => ⟨rfl, ?_, (tripsS_ok2 hf).up (by omega)⟩, fun hx => absurd hx (by decide)⟩
        exact ⟨⟨hd'.r0.kept, hd'.r0.pend, hd'.r0.quota, hd'.r0.now, by rw [t3]; exact h.r0.inodes, hd'.r0.ops⟩, hd'.files, hd'.off, hd'.armed, hd'.arm⟩
      · rw [t1] at ht
        rw [hws, if_neg (by rw [ht]; exact Bool.false_ne_true)]
        obtain ⟨u1, u2⟩ := t2 ht
        rw [u1] at hd'
        refine ⟨rfl, by rw [u2]; exact hd', ?_⟩
        exact doF_ok2 (putF_ok2 (tripsS_ok2 hf)) ⟨hsz, show E0.size ≤ 64 by decide, by show a.B.length ≤ _; omega⟩
    · have hws : writeS f a.P_ a.Mode a.B = (f, mayS f a.P_ a.Mode a.B.length) := by unfold writeS; rw [if_pos hm]
      rw [hws]
      exact ⟨fun w o => w = mayS f a.P_ a.Mode a.B.length ∧ o = d, fun w o hh _ => by obtain ⟨h1, h2⟩ := hh; rw [h2]; exact same h1.symm h hf2, fun hx => absurd hx hm, fun _ => ⟨rfl, rfl⟩⟩
  -- Rename
  · refine Rename_p hf.1 (by omega) hlf (fun _ => ⟨fun w o => w = (renS f a.P_ a.Q_).2 ∧ Rel (renS f a.P_ a.Q_).1 o ∧ FOk2 (K + 2) (renS f a.P_ a.Q_).1, fun w o hh _ => same hh.1.symm hh.2.1 hh.2.2, fun _ _ _ _ _ _ _ _ _ => ⟨fun ho => ?_, fun ho => ?_⟩⟩)
    · have : renS f a.P_ a.Q_ = (f, 13) := by unfold renS; rw [if_pos (h.off.trans ho)]
      rw [this]; exact ⟨rfl, h, hf2⟩
    have ho' : ¬ f.off = true := by rw [h.off, ho]; exact Bool.false_ne_true
    refine get_p (fun k hk hfk hpk => fun _ => ⟨fun hx => absurd hx (by omega), fun _ => ?_⟩) (fun hfk => fun _ => ⟨fun _ => ?_, fun hx => absurd (by decide) hx⟩)
    rotate_left
    · have : renS f a.P_ a.Q_ = (f, 5) := by unfold renS; rw [if_neg ho', if_pos (mhas_none (hfil.none hfk))]
      rw [this]; exact ⟨rfl, h, hf2⟩
    obtain ⟨y, hy, _⟩ := hfil.some hfk
    have hm' : ¬ mhas f.files a.P_ = false := by rw [mhas_some hy]; exact fun hx => by cases hx
    refine rCheck_p (fun _ => ⟨fun hc => rCheck_p (fun _ => ?_), fun hc => ?_⟩)
    · have : renS f a.P_ a.Q_ = (f, Chk a.Q_) := by unfold renS; rw [if_neg ho', if_neg hm', if_pos hc]
      rw [this]; exact ⟨rfl, h, hf2⟩
    have hook := hfil.ook hf.1.files
    refine rclash_p (fun x hx => (hook.2 x hx).1) (by have := Chk_size hc; omega) ⟨fun hcl => ?_, fun hcl => ⟨fun hne => ?_, fun he => ?_⟩⟩
    · have : renS f a.P_ a.Q_ = (f, 11) := by unfold renS; rw [if_neg ho', if_neg hm', if_neg (fun hx => hx hc), hfil.clash, if_pos hcl]
      rw [this]; exact ⟨rfl, h, hf2⟩
    · have hcl' : ¬ rclash d.now a.Q_ a.P_ = true := by rw [hcl]; exact Bool.false_ne_true
      have hr : renS f a.P_ a.Q_ = if (tripsS f).2 = true then ((tripsS f).1, 13) else (doF (tripsS f).1 ⟨2, a.P_, a.Q_, ⟨0, 0, 0, []⟩⟩, 0) := by unfold renS; rw [if_neg ho', if_neg hm', if_neg (fun hx => hx hc), hfil.clash, if_neg hcl', if_neg hne]
      have hp64 := key_le hf.1.files (mhas_some hy)
      have hor : ORel ⟨2, a.P_, a.Q_, ⟨0, 0, 0, []⟩⟩ ⟨2, ⟨ByteArray.mk #[], ByteArray.mk #[], 0, 0, 0⟩, a.P_, a.Q_⟩ := ⟨rfl, ⟨show E0.size ≤ 64 by decide, show E0.size ≤ 65536 by decide, hp64, Chk_size hc⟩, .inr (.inl ⟨rfl, rfl, rfl, hne⟩)⟩
      refine ddo_p h hf (by omega) hor (fun ht d' hd' => fun _ => ?_) (fun ht d' hd' => fun _ => ?_)
      · rw [hr, if_pos ht]; exact ⟨rfl, hd', (tripsS_ok2 hf).up (by omega)⟩
      · rw [hr, if_neg (by rw [ht]; exact Bool.false_ne_true)]
        exact ⟨rfl, hd', (doF_ok2 (tripsS_ok2 hf) ⟨hp64, Chk_size hc, Nat.zero_le _⟩).up (by omega)⟩
    · have hcl' : ¬ rclash d.now a.Q_ a.P_ = true := by rw [hcl]; exact Bool.false_ne_true
      have hr : renS f a.P_ a.Q_ = (f, 0) := by unfold renS; rw [if_neg ho', if_neg hm', if_neg (fun hx => hx hc), hfil.clash, if_neg hcl', if_pos he]
      rw [hr]; exact ⟨rfl, h, hf2⟩
  -- Remove
  · refine Remove_p hf.1 (by omega) hlf (fun _ => ⟨fun w o => w = (remS f a.P_).2 ∧ Rel (remS f a.P_).1 o ∧ FOk2 (K + 2) (remS f a.P_).1, fun w o hh _ => same hh.1.symm hh.2.1 hh.2.2, fun _ _ _ _ _ _ _ _ _ => ⟨fun ho => ?_, fun ho => ?_⟩⟩)
    · have : remS f a.P_ = (f, 13) := by unfold remS; rw [if_pos (h.off.trans ho)]
      rw [this]; exact ⟨rfl, h, hf2⟩
    have ho' : ¬ f.off = true := by rw [h.off, ho]; exact Bool.false_ne_true
    refine get_p (fun k hk hfk hpk => fun _ => ⟨fun hx => absurd hx (by omega), fun _ => ?_⟩) (fun hfk => fun _ => ⟨fun _ => ?_, fun hx => absurd (by decide) hx⟩)
    · obtain ⟨y, hy, _⟩ := hfil.some hfk
      have hm' : ¬ mhas f.files a.P_ = false := by rw [mhas_some hy]; exact fun hx => by cases hx
      have hp64 := key_le hf.1.files (mhas_some hy)
      have hr : remS f a.P_ = if (tripsS f).2 = true then ((tripsS f).1, 13) else (doF (tripsS f).1 ⟨3, a.P_, E0, ⟨0, 0, 0, []⟩⟩, 0) := by unfold remS; rw [if_neg ho', if_neg hm']
      have hor : ORel ⟨3, a.P_, E0, ⟨0, 0, 0, []⟩⟩ ⟨3, ⟨ByteArray.mk #[], ByteArray.mk #[], 0, 0, 0⟩, a.P_, ByteArray.mk #[]⟩ := ⟨rfl, ⟨show E0.size ≤ 64 by decide, show E0.size ≤ 65536 by decide, hp64, show E0.size ≤ 64 by decide⟩, .inr (.inr ⟨rfl, rfl⟩)⟩
      refine ddo_p h hf (by omega) hor (fun ht d' hd' => fun _ => ?_) (fun ht d' hd' => fun _ => ?_)
      · rw [hr, if_pos ht]; exact ⟨rfl, hd', (tripsS_ok2 hf).up (by omega)⟩
      · rw [hr, if_neg (by rw [ht]; exact Bool.false_ne_true)]
        exact ⟨rfl, hd', (doF_ok2 (tripsS_ok2 hf) ⟨hp64, show E0.size ≤ 64 by decide, Nat.zero_le _⟩).up (by omega)⟩
    · have : remS f a.P_ = (f, 5) := by unfold remS; rw [if_neg ho', if_pos (mhas_none (hfil.none hfk))]
      rw [this]; exact ⟨rfl, h, hf2⟩
  -- Sync
  · refine Sync_p (fun _ _ _ _ _ _ _ _ _ _ => ⟨fun ho => ?_, fun ho => ?_⟩)
    · have : syncS f = (f, 13) := if_pos (h.off.trans ho)
      rw [this]; exact same rfl h hf2
    · have : syncS f = (syncF f, 0) := if_neg (by rw [h.off, ho]; exact Bool.false_ne_true)
      rw [this]
      unfold rectolaw5_Disk_sync_p; intro _ _ _ _ _ _ _ _ _
      exact same rfl ⟨⟨hfil, trivial, h.r0.quota, h.r0.now, h.r0.inodes, h.r0.ops⟩, hfil, h.off, h.armed, h.arm⟩ (syncF_ok2 hf2)
  -- Arm
  · refine Arm_p (by omega) (fun _ _ _ _ _ _ _ _ _ => ⟨fun x => x = max a.N 1, ?_, fun hx => by omega, fun hx => by omega⟩)
    rintro _ rfl _
    exact ⟨⟨⟨h.r0.kept, h.r0.pend, h.r0.quota, h.r0.now, h.r0.inodes, h.r0.ops⟩, hfil, h.off, rfl, fun _ => ⟨rfl, rfl, by show 1 ≤ max a.N 1; omega⟩⟩, ⟨hf2.1.files, hf2.1.kept, hf2.1.pend, hf2.1.now, hf2.1.inodes, hf2.1.ops, by show a.Keep.length ≤ _; omega⟩, hf2.2⟩
  -- Cut
  · have hokk := h.r0.kept.ook hf.1.kept
    have hwl := h.r0.pend.len
    have hpl := hf.1.pend.2
    exact Cut_p hf.1 (by omega) (by omega) (power_p hokk (by omega) h.r0.pend.ops ⟨cut_rel h.r0 hf.1, cutF_ok2 hf2⟩)
  -- On
  · refine On_p (fun _ _ _ _ _ _ _ _ _ => ⟨⟨⟨h.r0.kept, h.r0.pend, h.r0.quota, h.r0.now, h.r0.inodes, h.r0.ops⟩, hfil, rfl, h.armed, h.arm⟩, on_ok hf2.1, hf2.2⟩)
  -- Edit
  · have hz : (a.B.length : Int) ≤ 100000 := by omega
    refine Edit_p hf.1 (by omega) (fun hm => fun _ => cause_p h hf.1 (by omega) ⟨by omega, hz⟩ (fun _ => ⟨fun o => o = d, fun o e => by rw [e]; exact same rfl h hf2, fun hx => absurd hx hm, fun _ => rfl⟩)) (fun hm => fun _ => cause_p h hf.1 (by omega) ⟨by omega, hz⟩ (fun _ => ?_))
    have ⟨_, hc, hn, hmo, hcl, _⟩ := mayS_ok hm
    have hsz := Chk_size hc
    have hap : (applyS f.files (putO f a.P_ a.Mode a.B)).1 = mset f.files a.P_ (putO f a.P_ a.Mode a.B).file := by
      unfold applyS; rw [if_pos (show (putO f a.P_ a.Mode a.B).kind = 1 from rfl), if_neg (by show ¬ clashS f.files a.P_ E0 = true; rw [hcl]; exact Bool.false_ne_true)]; rfl
    have hed : (edF f a.P_ a.Mode a.B).files = mset f.files a.P_ (putO f a.P_ a.Mode a.B).file := hap
    have hset := hfil.set (y := (putO f a.P_ a.Mode a.B).file) (x := ⟨a.P_, strOfNums a.B, a.Mode, d.time, (putO f a.P_ a.Mode a.B).file.inode⟩) ⟨rfl, h.r0.now, rfl, rfl⟩
    have hset2 : MRel (edF f a.P_ a.Mode a.B).files (rput d.now ⟨a.P_, strOfNums a.B, a.Mode, d.time, (putO f a.P_ a.Mode a.B).file.inode⟩) := by rw [hed]; exact hset
    have hok2 : FOk2 (K + 2) (edF f a.P_ a.Mode a.B) := by
      have h1 : LOk (K + 1) (applyS f.files (putO f a.P_ a.Mode a.B)).1 := applyS_ok hf.1.files ⟨hsz, show E0.size ≤ 64 by decide, by show a.B.length ≤ _; omega⟩
      have h2 := h1.up (show K + 1 ≤ K + 2 by omega)
      have h3 := (putF_ok2 (p := a.P_) hf).up (show K + 1 ≤ K + 2 by omega)
      exact ⟨⟨h2, h2, ⟨(fun o ho => by cases ho), Nat.zero_le _⟩, h3.1.now, h3.1.inodes, h3.1.ops, h3.1.keep⟩, by show _ + 0 ≤ K + 2; exact h2.2.1⟩
    have hook := hfil.ook hf.1.files
    have hlen := hook.1
    refine ⟨fun o => Rel (edF f a.P_ a.Mode a.B) o, fun o ho => same hm.symm ho hok2, fun _ => ?_, fun hx => absurd hm hx⟩
    intro K2 hK2 _ _ _ _ _ _ _ _ _
    refine ⟨file_p (bb := a.B) h hf.1 (by omega) (fun _ _ _ _ _ => rput_p (by omega) (fun _ _ _ _ _ _ _ _ _ _ => hK2 _ ?_)), file_p (bb := a.B) h hf.1 (by omega) (fun _ _ _ _ _ => rput_p (by show d.now.length ≤ _; omega) (fun _ _ _ _ _ _ _ _ _ _ => hK2 _ ?_))⟩
    · unfold rectolaw5_Disk_sync_p; intro _ _ _ _ _ _ _ _ _
      exact ⟨⟨hset2, trivial, h.r0.quota, h.r0.now, rfl, h.r0.ops⟩, hset2, h.off, h.armed, h.arm⟩
    · unfold rectolaw5_Disk_sync_p; intro _ _ _ _ _ _ _ _ _
      exact ⟨⟨hset2, trivial, h.r0.quota, h.r0.now, rfl, h.r0.ops⟩, hset2, h.off, h.armed, h.arm⟩
  -- Unlink
  · refine Unlink_p (fun ho => fun _ _ _ _ _ _ _ _ _ _ => ⟨fun _ => same rfl h hf2, fun hx => by rw [← h.off, ho] at hx; cases hx⟩) (fun ho => fun _ _ _ _ _ _ _ _ _ _ => ⟨fun hx => (by rw [← h.off, ho] at hx; cases hx), fun _ => ?_⟩)
    have hook := hfil.ook hf.1.files
    have hlen := hook.1
    have hok2 : FOk2 (K + 2) (unlF f a.P_) := by
      unfold unlF; split
      · have h1 := (hf2.1.files).del (p := a.P_)
        exact ⟨⟨h1, h1, ⟨(fun o ho => by cases ho), Nat.zero_le _⟩, hf2.1.now, hf2.1.inodes, hf2.1.ops, hf2.1.keep⟩, by show _ + 0 ≤ K + 2; exact h1.2.1⟩
      · exact hf2
    refine get_p (fun k hk hfk hpk => fun _ => ⟨fun o => Rel (unlF f a.P_) o, fun o ho => same rfl ho hok2, fun _ => rcut_p (by omega) (fun _ => ?_), fun hx => absurd (by omega) hx⟩) (fun hfk => fun _ => ⟨fun o => Rel (unlF f a.P_) o, fun o ho => same rfl ho hok2, fun hx => absurd hx (by decide), fun _ => ?_⟩)
    · obtain ⟨y, hy, _⟩ := hfil.some hfk
      have hu : unlF f a.P_ = syncF ⟨f.kept, mdel f.files a.P_, f.pending, f.quota, f.now, f.inodes, f.ops_, f.off, f.armed, f.left, f.keep⟩ := by unfold unlF; rw [if_pos (mhas_some hy)]
      have hd := hfil.del hf.1.files.2.2 a.P_
      unfold rectolaw5_Disk_sync_p; intro _ _ _ _ _ _ _ _ _
      rw [hu]
      exact ⟨⟨hd, trivial, h.r0.quota, h.r0.now, h.r0.inodes, h.r0.ops⟩, hd, h.off, h.armed, h.arm⟩
    · have hu : unlF f a.P_ = f := by unfold unlF; rw [if_neg (by rw [mhas_none (hfil.none hfk)]; exact Bool.false_ne_true)]
      rw [hu]; exact h
  -- Tick
  · have hn := hf.1.now
    have he := h.r0.now
    refine Tick_p hf.1 (by omega) (fun _ _ _ _ _ _ _ _ _ => ⟨inR_i64.2 ⟨by omega, by omega⟩, ⟨⟨h.r0.kept, h.r0.pend, h.r0.quota, by show f.now + 1 = d.time + 1; omega, h.r0.inodes, h.r0.ops⟩, hfil, h.off, h.armed, h.arm⟩, (tick_ok hf.1).up (by omega), hf2.2⟩)
  -- Quota
  · unfold simfs_FS_Quota_p; intro _ _ _ _ _ _ _ _ _ _ _ _ _ _ _ _ _
    exact ⟨⟨⟨h.r0.kept, h.r0.pend, rfl, h.r0.now, h.r0.inodes, h.r0.ops⟩, hfil, h.off, h.armed, h.arm⟩, ⟨hf2.1.files, hf2.1.kept, hf2.1.pend, hf2.1.now, hf2.1.inodes, hf2.1.ops, hf2.1.keep⟩, hf2.2⟩
theorem Same_p {K : Nat} {f : S_simfs_FS} {d : S_rectolaw5_Disk} {Q : S_simfs_FS → S_rectolaw5_Disk → Bool → Prop} (h : Rel f d) (hf : FOk2 K f) (hK : K ≤ 1000) (hq : Q f d true) : rectolaw5_Same_p f d Q := by
  unfold rectolaw5_Same_p
  refine ⟨fun s o dd => s = false ∧ o = f ∧ dd = d, ?_, fun _ _ _ _ _ _ _ _ _ => Off_p ⟨fun _ => Pending_p fun _ => ⟨fun _ => Now_p fun _ => ⟨fun _ => Ops_p fun _ => ⟨?_, rfl, rfl⟩, fun hx => absurd h.r0.now hx⟩, fun hx => absurd (by rw [h.r0.pend.len]) hx⟩, fun hx => absurd h.off hx⟩⟩
  rotate_left
  · rw [decide_eq_true h.r0.ops]; rfl
  rintro s o dd ⟨rfl, rfl, rfl⟩
  refine ⟨fun hx => (by cases hx), fun _ => List_p hf.1 (by omega) (fun ho => fun _ _ _ _ _ _ _ _ _ _ _ => ⟨fun _ => ?_, fun hx => by rw [← h.off, ho] at hx; cases hx⟩) (fun ho => fun _ _ _ _ _ _ _ _ _ _ _ => ⟨fun hx => (by rw [← h.off, ho] at hx; cases hx), fun _ => ?_⟩)⟩
  · rw [decide_eq_true ⟨rfl, rfl⟩]; exact hq
  have hn := hf.1.files.2.2
  have hkey := h.files.keys hn
  have hook := h.files.ook hf.1.files
  have hlen := hook.1
  rw [hkey]
  have hml : (dd.now.map (·.path)).length = dd.now.length := List.length_map ..
  refine ⟨fun s o2 => s = false ∧ o2 = o, ?_, Used_p hf.1 (by omega) (fun _ => rused_p (fun x hx => (hook.2 x hx).2) (by omega) (fun _ => ⟨fun _ => ⟨fun _ => ⟨by rw [hml]; simp, rfl⟩, fun hx => absurd rfl hx⟩, fun hx => absurd (h.files.used hn) hx⟩))⟩
  rintro s o2 ⟨rfl, rfl⟩
  refine ⟨fun hx => (by cases hx), fun _ => ?_⟩
  simp only [inR_i64]
  refine ⟨fun i o3 => ∃ k : Nat, i = k ∧ k ≤ dd.now.length ∧ o3 = o2, fun i _ => (dd.now.length - i).toNat, ⟨0, rfl, Nat.zero_le _, rfl⟩, ?_⟩
  rintro _ _ ⟨k, rfl, hk, rfl⟩ _
  refine ⟨fun hlt => ?_, fun _ => hq⟩
  have hkl : k < dd.now.length := by rw [hml] at hlt; omega
  have hin1 : inL dd.now (k : Int) := inL_nat.2 hkl
  have hin2 : inL (dd.now.map (·.path)) (k : Int) := inL_nat.2 (by omega)
  have e1 : lget (dd.now.map (·.path)) (k : Int) = (lget dd.now (k : Int)).path := by rw [lget_map _ hkl, lget_lt hkl]
  rw [e1]
  obtain ⟨y, hy, he⟩ := h.files.2.1 _ (lget_mem hin1)
  have hfd : ∀ g : S_simfs_FS, g.off = false → mlook g.files (lget dd.now (k : Int)).path = some y → findS g (lget dd.now (k : Int)).path = (y, 0) := fun g h1 h2 => by
    unfold findS
    rw [if_neg (by rw [h1]; exact Bool.false_ne_true), if_neg (by rw [mhas_some h2]; exact fun hx => by cases hx), mgetD_some h2]
  have hst : ∀ g : S_simfs_FS, g.off = false → mlook g.files (lget dd.now (k : Int)).path = some y → statS g (lget dd.now (k : Int)).path = (⟨(y.b.length : Int), y.time, y.inode, y.mode⟩, 0) := fun g h1 h2 => by
    unfold statS; rw [hfd g h1 h2, if_pos rfl]
  refine ⟨hin1, fun _ _ _ _ _ => ⟨hin2, fun _ => Read_p hf.1 (fun _ _ => ⟨hin2, fun _ => Stat_p ?_⟩)⟩⟩
  rw [hfd _ ho hy, hst _ ho hy]
  intro _ _ _ _ _
  refine ⟨fun s => s = false, ?_, hin2, fun _ => ⟨fun _ => ⟨show (-9223372036854775808 : Int) ≤ 0 + 0 ∧ (0 : Int) + 0 ≤ 9223372036854775807 by decide, fun _ => ⟨fun _ => ⟨fun _ => ⟨fun _ => ⟨fun _ => ?_, fun hx => absurd he.2.2.1 hx⟩, fun hx => absurd he.2.1 hx⟩, fun hx => absurd (by rw [he.size]) hx⟩, fun hx => absurd he.2.2.2 hx⟩, fun hx => absurd rfl hx⟩, fun hx => absurd rfl hx⟩⟩
  · rintro _ rfl
    exact ⟨fun hx => (by cases hx), fun _ => ⟨by omega, ⟨k + 1, rfl, by omega, rfl⟩, by dsimp only; omega⟩⟩
  · show (!decide (y.mode = _)) = false
    rw [decide_eq_true he.1]; rfl
theorem FilesPlay_p {quota : Int} {l : List S_rectolaw5_Act} {Q : Bool → Prop} (h : Q true) : rectolaw5_FilesPlay_p quota l Q := by
  unfold rectolaw5_FilesPlay_p; intro _ _
  refine known5_p ⟨fun hx => (by cases hx), fun _ => ⟨fun _ => h, fun hl => ?_⟩⟩
  have hl60 : l.length ≤ 60 := by omega
  unfold simfs_New_p; intro _
  have nilR : MRel [] [] := ⟨List.Pairwise.nil, (fun x hx => by cases hx), fun k hk => by cases hk⟩
  refine ⟨fun f i d => ∃ k : Nat, i = k ∧ k ≤ l.length ∧ Rel f d ∧ FOk2 (2 * k) f, fun _ i _ => (l.length - i).toNat, ⟨0, rfl, Nat.zero_le _, ⟨⟨nilR, trivial, rfl, rfl, rfl, rfl⟩, nilR, rfl, rfl, fun hx => by cases hx⟩, newF_ok quota, Nat.le_refl _⟩, ?_⟩
  rintro f _ d ⟨k, rfl, hk, hr, hf⟩ _
  refine ⟨fun hlt => ?_, fun _ => h⟩
  have hkl : k < l.length := by omega
  refine ⟨inL_nat.2 hkl, fun _ _ _ _ _ _ _ => ⟨fun s => s = true ∨ ((lget l (k : Int)).B.length ≤ 300 ∧ (lget l (k : Int)).Keep.length ≤ 100), ?_, fun _ => .inl rfl, fun n1 => ⟨fun _ => .inl rfl, fun n2 => ⟨fun _ => .inl rfl, fun n3 => ?_⟩⟩⟩⟩
  rotate_left
  · by_cases h5 : ((lget l (k : Int)).Keep.length : Int) > 100
    · exact .inl (decide_eq_true h5)
    · exact .inr ⟨by omega, by omega⟩
  intro s hs
  refine ⟨fun _ => h, fun hsf => ?_⟩
  obtain ⟨hB, hKe⟩ : (lget l (k : Int)).B.length ≤ 300 ∧ (lget l (k : Int)).Keep.length ≤ 100 := by
    rcases hs with hs | hs
    · rw [hs] at hsf; cases hsf
    · exact hs
  refine ⟨fun f' d' => Rel f' d' ∧ FOk2 (2 * k + 2) f', ?_, fun _ => Twin_p hf.1 (by omega) (Cut_p hf.1 (by omega) (by decide) ⟨hr, hf.up (by omega)⟩), fun _ => both_p hr hf (by omega) hB hKe (fun f' d' h1 h2 => ⟨fun hx => (by cases hx), fun _ => ⟨h1, h2⟩⟩)⟩
  rintro f' d' ⟨h1, h2⟩
  exact Same_p h1 h2 (by omega) ⟨fun hx => (by cases hx), fun _ => ⟨inR_i64.2 ⟨by omega, by omega⟩, ⟨k + 1, rfl, by omega, h1, h2⟩, by dsimp only; omega⟩⟩
end Go.Proofs.YtaolmfepdmgohaaGreatDoor
