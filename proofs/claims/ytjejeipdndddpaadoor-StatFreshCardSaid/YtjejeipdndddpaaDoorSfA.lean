/- Plain laws of chapters 5 and 18: files, and what needs no look. -/
import Derived.Test.YtjejeipdndddpaaDoorSfC
namespace Go.Proofs.YtjejeipdndddpaaDoor
open Go
def clashS (l : List (ByteArray × S_simfs_file)) (p but : ByteArray) : Bool := l.any fun x => !decide (x.1 = but) && Cl p x.1
theorem clash_p {l : List (ByteArray × S_simfs_file)} {p but : ByteArray} {Q : Bool → Prop} (hl : ∀ x ∈ l, x.1.size ≤ 1000) (hp : p.size ≤ 1000) (h : Q (clashS l p but)) : simfs_clash_p l p but Q := by
  unfold simfs_clash_p; intro _ _
  refine ⟨fun r => clashS l p but = clashS r p but ∧ ∀ x ∈ r, x.1.size ≤ 1000, fun r => r.length, ⟨rfl, hl⟩, ?_⟩
  rintro r ⟨h1, h2⟩
  refine ⟨fun h0 => ?_, fun pr k v po hr _ _ _ _ _ => ?_⟩
  · rw [h1, h0] at h; exact h
  · have hk : k.size ≤ 1000 := h2 (k, v) (by rw [hr]; simp)
    have hc : clashS r p but = (clashS (pr ++ po) p but || (!decide (k = but) && Cl p k)) := by
      rw [hr]; unfold clashS; rw [List.any_append, List.any_cons, List.any_append]
      generalize (pr.any fun x => !decide (x.1 = but) && Cl p x.1) = a
      generalize (po.any fun x => !decide (x.1 = but) && Cl p x.1) = b
      generalize (!decide (k = but) && Cl p k) = c
      cases a <;> cases b <;> cases c <;> rfl
    refine ⟨fun r2 s => r2 = pr ++ po ∧ s = (!decide (k = but) && Cl p k), ?_, fun he => ⟨rfl, by rw [decide_eq_true he]; rfl⟩, fun hne => Clash_p (by omega) (by omega) ⟨rfl, by rw [decide_eq_false hne]; rfl⟩⟩
    rintro _ s ⟨rfl, hs⟩
    refine ⟨fun ht => ?_, fun hf => ⟨⟨?_, fun x hx => ?_⟩, ?_⟩⟩
    · rw [h1, hc, ← hs, ht, Bool.or_true] at h; exact h
    · rw [h1, hc, ← hs, hf, Bool.or_false]
    · refine h2 x ?_
      rw [hr]
      rcases List.mem_append.1 hx with h | h
      · exact List.mem_append_left _ h
      · exact List.mem_append_right _ (List.mem_cons_of_mem _ h)
    · rw [hr]; simp
theorem room_p0 {f : S_simfs_FS} {p : ByteArray} {n : Int} {Q : S_simfs_FS → Bool → Prop} (hq : f.quota ≤ 0) (h : Q f true) : simfs_FS_room_p f p n Q := by
  unfold simfs_FS_room_p; intros
  exact ⟨fun b => b = true, by rintro _ rfl; exact h, fun _ => rfl, fun hx => absurd hq hx⟩
theorem may_p0 {f : S_simfs_FS} {p : ByteArray} {b : List Int} {Q : S_simfs_FS → Int → Prop} (hp : p.size ≤ 1000) (hc : Chk p = 0) (hoff : f.off = false) (hb : b.length ≤ 65536) (hq : f.quota ≤ 0) (hcl : clashS f.files p (ByteArray.mk #[]) = false) (hk : ∀ x ∈ f.files, x.1.size ≤ 1000) (h : Q f 0) : simfs_FS_may_p f p 1 b Q := by
  unfold simfs_FS_may_p; intros
  refine ⟨fun hx => (by rw [hoff] at hx; cases hx), fun _ => Check_p ?_⟩
  rw [hc]
  refine fun _ => ⟨fun hx => absurd rfl hx, fun _ => ⟨fun hx => absurd hx (by omega), fun _ => ⟨fun hx => absurd rfl hx.1, fun _ => clash_p hk hp ?_⟩⟩⟩
  rw [hcl]
  exact ⟨fun hx => (by cases hx), fun _ => room_p0 hq ⟨fun hx => (by cases hx), fun _ => h⟩⟩
def inoS (f : S_simfs_FS) (p : ByteArray) : Int := if mhas f.files p = true then (mgetD f.files p).inode else f.inodes + 1
def inosS (f : S_simfs_FS) (p : ByteArray) : Int := if mhas f.files p = true then f.inodes else f.inodes + 1
def editS (f : S_simfs_FS) (p : ByteArray) (b : List Int) : S_simfs_FS := ⟨mset f.files p ⟨1, f.now, inoS f p, b⟩, mset f.files p ⟨1, f.now, inoS f p, b⟩, [], f.quota, f.now, inosS f p, f.ops_, f.off, f.armed, f.left, f.keep⟩
theorem bClone_p {s : List Int} {Q : List Int → Prop} (hs : s.length ≤ 1000000) (h : Q s) : slices_Clone_byte_byte_p s Q := by
  unfold slices_Clone_byte_byte_p; exact fun _ => ⟨by omega, h⟩
theorem Edit_p0 {f : S_simfs_FS} {p : ByteArray} {b : List Int} {Q : S_simfs_FS → Int → Prop} (hp : p.size ≤ 1000) (hc : Chk p = 0) (hoff : f.off = false) (hb : b.length ≤ 65536) (hq : f.quota ≤ 0) (hcl : clashS f.files p (ByteArray.mk #[]) = false) (hk : ∀ x ∈ f.files, x.1.size ≤ 1000) (hi : f.inodes ≤ 1000000000000 ∧ -1000000000000 ≤ f.inodes) (h : Q (editS f p b) 0) : simfs_FS_Edit_p f p 1 b Q := by
  unfold simfs_FS_Edit_p; intro _ _ _
  refine may_p0 hp hc hoff hb hq hcl hk (fun _ => ⟨fun hx => absurd rfl hx, fun _ => ?_⟩)
  intro K hK _ _ _ _ _ _ _
  unfold simfs_FS_put_p; intros
  refine ⟨fun a c => a = inosS f p ∧ c = inoS f p, ?_, fun hn => ⟨inR_i64.2 ⟨by omega, by omega⟩, ?_, ?_⟩, fun hn => ⟨?_, ?_⟩⟩
  · rintro _ _ ⟨rfl, rfl⟩ _ _
    refine bClone_p (by omega) (fun _ => ?_)
    intro _ _ _ _ _ _ _ _ _ _ _ _ _ _
    unfold simfs_apply_p; intros
    refine ⟨fun _ => False, fun _ hx => hx.elim, fun _ => False, fun _ hx => hx.elim, fun _ => clash_p hk hp ?_, fun hx => absurd rfl hx⟩
    show (clashS f.files p _ = true → _) ∧ (clashS f.files p _ = false → _)
    rw [hcl]
    refine ⟨fun hx => (by cases hx), fun _ => hK _ ?_⟩
    unfold simfs_FS_sync_p maps_Clone_map_string_simfs_file_string_simfs_file_p
    intros; exact h
  · have : ¬ mhas f.files p = true := fun hx => by rw [hx] at hn; cases hn
    unfold inosS; rw [if_neg this]
  · have : ¬ mhas f.files p = true := fun hx => by rw [hx] at hn; cases hn
    unfold inoS; rw [if_neg this]
  · have : mhas f.files p = true := by cases hm : mhas f.files p <;> rw [hm] at hn <;> first | rfl | cases hn
    unfold inosS; rw [if_pos this]
  · have : mhas f.files p = true := by cases hm : mhas f.files p <;> rw [hm] at hn <;> first | rfl | cases hn
    unfold inoS; rw [if_pos this]
theorem find_p0 {f : S_simfs_FS} {p : ByteArray} {Q : S_simfs_FS → S_simfs_file → Int → Prop} (hoff : f.off = false) (hm : mhas f.files p = true) (h : Q f (mgetD f.files p) 0) : simfs_FS_find_p f p Q := by
  unfold simfs_FS_find_p; intros
  exact ⟨fun hx => (by rw [hoff] at hx; cases hx), fun _ => ⟨fun hx => (by rw [hm] at hx; cases hx), fun _ => h⟩⟩
def statS (x : S_simfs_file) : S_simfs_Stat := ⟨(x.b.length : Int), x.time, x.inode, x.mode⟩
theorem Stat_p0 {f : S_simfs_FS} {p : ByteArray} {Q : S_simfs_FS → S_simfs_Stat → Int → Prop} (hoff : f.off = false) (hm : mhas f.files p = true) (h : Q f (statS (mgetD f.files p)) 0) : simfs_FS_Stat_p f p Q := by
  unfold simfs_FS_Stat_p; intro _
  refine find_p0 hoff hm ?_
  intro _ _ _ _ _; exact ⟨fun hx => absurd rfl hx, fun _ => h⟩
theorem Read_p0 {f : S_simfs_FS} {p : ByteArray} {Q : S_simfs_FS → List Int → Int → Prop} (hoff : f.off = false) (hm : mhas f.files p = true) (hb : (mgetD f.files p).b.length ≤ 65536) (h : Q f (mgetD f.files p).b 0) : simfs_FS_Read_p f p Q := by
  unfold simfs_FS_Read_p; intro _
  refine find_p0 hoff hm ?_
  intro _ _ _ _ _
  refine ⟨fun hx => absurd rfl hx, fun _ => bClone_p (by omega) (fun _ => ?_)⟩
  unfold slices_Clip_byte_byte_p
  exact fun _ => ⟨⟨by omega, by omega⟩, fun _ => h⟩
def freshS (e : S_index_Entry) (s : S_simfs_Stat) (w : Int) : Bool := decide (e.Stage = 0 ∧ e.Time = s.Time ∧ e.Size = s.Size ∧ e.Mode = s.Mode ∧ e.Time < w)
theorem Fresh_p {e : S_index_Entry} {s : S_simfs_Stat} {w : Int} {Q : Bool → Prop} (h : Q (freshS e s w)) : stat_Fresh_p e s w Q := by
  unfold stat_Fresh_p; intros; exact h
theorem Note_p {e : S_index_Entry} {s : S_simfs_Stat} {Q : S_index_Entry → Prop} (h : Q ⟨e.Path, e.Stage, e.Mode, e.Data, s.Time, s.Size⟩) : stat_Note_p e s Q := by
  unfold stat_Note_p; intros; exact h
def smuS (e : S_index_Entry) (w : Int) : S_index_Entry := if e.Time ≥ w then ⟨e.Path, e.Stage, e.Mode, e.Data, 0, 0⟩ else e
theorem Smudge1_p {e : S_index_Entry} {w : Int} {Q : List S_index_Entry → Prop} (h : Q [smuS e w]) : stat_Smudge_p [e] w Q := by
  unfold stat_Smudge_p slices_Clone_index_Entry_index_Entry_p; simp only [inR_i64]; intro _ _ _
  have hl : ([e] : List S_index_Entry).length = 1 := rfl
  have h1 : ∀ x : S_index_Entry, inL [x] (0 : Int) := fun x => ⟨by decide, by show (0 : Int) < 1; decide⟩
  refine ⟨by rw [hl]; decide, fun _ => ?_⟩
  rw [hl]
  refine ⟨fun l s => (s = 0 ∧ l = [e]) ∨ (s = 1 ∧ l = [smuS e w]), fun _ s => 1 - s.toNat, .inl ⟨rfl, rfl⟩, ?_⟩
  rintro _ _ (⟨rfl, rfl⟩ | ⟨rfl, rfl⟩) _ _
  · refine ⟨fun _ => ⟨fun l => l = [smuS e w], ?_, h1 _, fun _ _ _ _ _ _ => ⟨fun hg => ?_, fun hg => ?_⟩⟩, fun hx => absurd (by decide) hx⟩
    · rintro _ rfl _
      exact ⟨by decide, .inr ⟨rfl, rfl⟩, by show 0 < 1; decide⟩
    · refine ⟨h1 _, fun _ _ _ _ _ _ => ?_⟩
      rintro _ rfl
      refine ⟨h1 _, fun _ _ _ _ _ _ => ?_⟩
      rintro _ rfl
      have hg : e.Time ≥ w := hg
      unfold smuS; rw [if_pos hg]; rfl
    · have hg : ¬ e.Time ≥ w := hg
      unfold smuS; rw [if_neg hg]
  · exact ⟨fun hx => absurd hx (by decide), fun _ => h⟩
theorem look_p0 {f : S_simfs_FS} {e : S_index_Entry} {w : Int} {Q : S_simfs_FS → Bool → Bool → Int → Prop} (hoff : f.off = false) (hm : mhas f.files e.Path = true) (hmode : (mgetD f.files e.Path).mode = e.Mode) (hb : (mgetD f.files e.Path).b.length ≤ 65536) (hf : freshS e (statS (mgetD f.files e.Path)) w = false)
    (h : Q f (!decide (strOfNums (mgetD f.files e.Path).b = e.Data)) true 0) : stat_look_p f e w Q := by
  unfold stat_look_p; intros
  refine Stat_p0 hoff hm ?_
  intro _ _ _ _ _
  refine ⟨fun hx => absurd hx (by decide), fun _ => ⟨fun hx => ?_, fun _ => Fresh_p ?_⟩⟩
  · rcases hx with hx | hx
    · exact absurd rfl hx
    · exact absurd hmode hx
  rw [hf]
  refine ⟨fun hx => (by cases hx), fun _ => Read_p0 hoff hm hb (fun _ _ => h)⟩
theorem Changed1_p {f : S_simfs_FS} {e : S_index_Entry} {w : Int} {Q : S_simfs_FS → List ByteArray → Int → Int → Prop} (hoff : f.off = false) (hs : e.Stage = 0) (hm : mhas f.files e.Path = true) (hmode : (mgetD f.files e.Path).mode = e.Mode) (hb : (mgetD f.files e.Path).b.length ≤ 65536) (hf : freshS e (statS (mgetD f.files e.Path)) w = false)
    (h : Q f (if strOfNums (mgetD f.files e.Path).b = e.Data then [] else [e.Path]) 1 0) : stat_Changed_p f [e] w Q := by
  unfold stat_Changed_p simfs_FS_Off_p; simp only [inR_i64]; intro _ _ _ _ _ _ _ _ _
  have hl : ([e] : List S_index_Entry).length = 1 := rfl
  rw [hl]
  refine ⟨fun hx => (by rw [hoff] at hx; cases hx), fun _ => ⟨fun p n s o => o = f ∧ ((s = 0 ∧ p = [] ∧ n = 0) ∨ (s = 1 ∧ p = (if strOfNums (mgetD f.files e.Path).b = e.Data then [] else [e.Path]) ∧ n = 1)), fun _ _ s _ => 1 - s.toNat, ⟨rfl, .inl ⟨rfl, rfl, rfl⟩⟩, ?_⟩⟩
  rintro _ _ _ o ⟨ho, ⟨rfl, rfl, rfl⟩ | ⟨rfl, rfl, rfl⟩⟩ _ _ _ <;> obtain rfl := ho.symm
  · refine ⟨fun _ => ⟨fun p n o => o = f ∧ p = (if strOfNums (mgetD f.files e.Path).b = e.Data then [] else [e.Path]) ∧ n = 1, ?_, ⟨by decide, by show (0 : Int) < 1; decide⟩, fun _ _ _ _ _ _ => ⟨fun hx => absurd hs hx, fun _ => look_p0 hoff hm hmode hb hf (fun _ => ⟨fun hx => absurd rfl hx, fun _ => ⟨fun n => n = 1, ?_, fun _ => ⟨by decide, rfl⟩, fun hx => (by cases hx)⟩⟩)⟩⟩, fun hx => absurd (by decide) hx⟩
    · rintro _ _ _ ⟨rfl, rfl, rfl⟩ _ _
      exact ⟨by decide, ⟨rfl, .inr ⟨rfl, rfl, rfl⟩⟩, by show 0 < 1; decide⟩
    · rintro _ rfl _
      have key : ∀ b : Bool, b = (!decide (strOfNums (mgetD f.files e.Path).b = e.Data)) → (b = true → (if strOfNums (mgetD f.files e.Path).b = e.Data then ([] : List ByteArray) else [e.Path]) = [e.Path]) ∧ (b = false → (if strOfNums (mgetD f.files e.Path).b = e.Data then ([] : List ByteArray) else [e.Path]) = []) := by
        rintro b hb
        refine ⟨fun hc => if_neg fun hx => ?_, fun hc => if_pos ?_⟩
        · rw [hc, decide_eq_true hx] at hb; cases hb
        · rw [hc] at hb
          cases hd : decide (strOfNums (mgetD f.files e.Path).b = e.Data) with
          | true => exact of_decide_eq_true hd
          | false => rw [hd] at hb; cases hb
      exact ⟨fun hc => ⟨by show (0 + 1) * 16 ≤ 140737488355328; decide, rfl, ((key _ rfl).1 hc).symm, rfl⟩, fun hc => ⟨rfl, ((key _ rfl).2 hc).symm, rfl⟩⟩
  · refine ⟨fun hx => absurd hx (by decide), fun _ => ?_⟩
    unfold slices_Clip_string_string_p
    exact fun _ => ⟨⟨by omega, by omega⟩, fun _ => h⟩
def pA : ByteArray := ByteArray.mk #[97]
theorem chkA : Chk pA = 0 := by decide +kernel
theorem clA : Cl pA pA = false := by decide +kernel
theorem clash_a (l : List (ByteArray × S_simfs_file)) (hl : ∀ x ∈ l, x.1 = pA) : clashS l pA (ByteArray.mk #[]) = false := by
  unfold clashS
  rw [List.any_eq_false]
  intro x hx
  rw [hl x hx, clA]; simp
theorem keyA (l : List (ByteArray × S_simfs_file)) (hl : ∀ x ∈ l, x.1 = pA) : ∀ x ∈ l, x.1.size ≤ 1000 := fun x hx => by rw [hl x hx]; decide
end Go.Proofs.YtjejeipdndddpaaDoor
