/- Walks of functions: what each asks and computes, as a plain predicate, and the contract from it. -/
import Derived.Test.YtjejeipdndddpaaDoorChecked
import Derived.Test.YtjejeipdndddpaaDoorSf2
namespace Go.Proofs.YtjejeipdndddpaaDoor
open Go

theorem elT39 : ElemT Tryd.prog 39 9 1 16 := elemT_mk (i := Tryd.t9) (z := (.string (ByteArray.mk #[]))) (by kernel_rfl) (by kernel_rfl) (by kernel_rfl) (by kernel_rfl) Tryd.underlying39 Tryd.sizeOf9 (by decide) (by decide)
def simfs_FS_Edit_p (f_ : S_simfs_FS) (p : ByteArray) (mode : Int) (b : (List Int)) (Q : S_simfs_FS → Int → Prop) : Prop :=
  ((p.size ≤ maxLen) → ((inR .i64 mode) → ((b.length ≤ 9223372036854775807) → (simfs_FS_may_p f_ p mode b (fun (f_12 : S_simfs_FS) (r13 : Int) => ((inR .i64 r13) → (((¬ (r13 = (0 : Int))) → Q f_12 r13) ∧ ((r13 = (0 : Int)) → (∀ k275 : S_simfs_FS → Prop, (∀ (o272 : S_simfs_FS), ((simfs_FS_sync_p o272 (fun (f_530 : S_simfs_FS) => Q f_530 (0 : Int)))) → k275 o272) → ((f_12.pending.length ≤ 9223372036854775807) → ((inR .i64 f_12.quota) → ((inR .i64 f_12.now) → ((inR .i64 f_12.inodes) → ((inR .i64 f_12.ops_) → ((inR .i64 f_12.left) → ((f_12.keep.length ≤ 9223372036854775807) → (simfs_FS_put_p f_12 p mode b (fun (f_352 : S_simfs_FS) (r353 : S_simfs_op) => ((inR .i64 r353.kind) → ((r353.path.size ≤ maxLen) → ((r353.to_.size ≤ maxLen) → ((inR .i64 r353.file.mode) → ((inR .i64 r353.file.time) → ((inR .i64 r353.file.inode) → ((r353.file.b.length ≤ 9223372036854775807) → ((f_352.pending.length ≤ 9223372036854775807) → ((inR .i64 f_352.quota) → ((inR .i64 f_352.now) → ((inR .i64 f_352.inodes) → ((inR .i64 f_352.ops_) → ((inR .i64 f_352.left) → ((f_352.keep.length ≤ 9223372036854775807) → (simfs_apply_p f_352.files r353 (fun (l406 : (List (ByteArray × S_simfs_file))) (r407 : Bool) => (k275 (S_simfs_FS.mk f_352.kept l406 f_352.pending f_352.quota f_352.now f_352.inodes f_352.ops_ f_352.off f_352.armed f_352.left f_352.keep))))))))))))))))))))))))))))))))))))
set_option maxRecDepth 20000 in
set_option maxHeartbeats 4000000 in
theorem simfs_FS_Edit_w {X : List Nat} {w : World} {f_ : S_simfs_FS} {p : ByteArray} {mode : Int} {b : (List Int)} {bf_1 : Nat} {Ff_2 : List Nat} {ab6 : Option Addr} {cb7 : Nat} {Q : S_simfs_FS → Int → Prop} (hX0 : Old X w) (mf_3 : MO o_simfs_FS 153 Ff_2 w.heap.size X w Ff_2 bf_1 f_) (zp4 : p.size ≤ maxLen) (rmode5 : inR .i64 mode) (hb8 : Sl (rInt .u8) X w ab6 cb7 b) (hp : simfs_FS_Edit_p f_ p mode b Q) :
    Calls Tryd.prog 47 #[(.pointer (some ⟨bf_1, 0, none⟩)), (.string p), (.int .i64 mode), (.slice ab6 b.length cb7)] w (Ret fun v w' => ∃ (m0 : S_simfs_FS) (r0 : Int), Q m0 r0 ∧ ∃ (X' : List Nat) (Fm0 : List Nat), Step X w Ff_2 X' w' ∧ v = (.int .i64 r0) ∧ MO o_simfs_FS 153 Ff_2 w.heap.size X' w' Fm0 bf_1 m0 ∧ inR .i64 r0) := by
  have hXo := hX0
  have E0 : Evo Ff_2 w w := RB.refl _ _ _
  have hS : Sub X X := Sub.refl _
  have hN : News X w X w := News.refl _ _
  have hF0 : Sub Ff_2 X := MO.mem mf_3
  unfold simfs_FS_Edit_p at hp
  refine enter_ Tryd.func47 rfl 30 [(0, (.pointer (some ⟨bf_1, 0, none⟩))), (1, (.string p)), (2, (.int .i64 mode)), (3, (.slice ab6 b.length cb7))] (by kernel_rfl) (fun Qe hQ => ?_)
  replace hp := hp zp4
  replace hp := hp rmode5
  replace hp := hp (Sl.len hb8)
  refine seq_ (fun _ K9 => ?_)
  refine reg_ ?_
  refine sq (o_pv (.int .i64 (0 : Int)) rfl (by kernel_rfl) ?_)
  refine nil_ ?_
  refine then_normal (K9 _ _ _ _ ?_)
  refine seq_ (fun _ K10 => ?_)
  refine seq_ (fun _ K11 => ?_)
  refine reg_ ?_
  refine sq (o_pv (.pointer (some ⟨bf_1, 0, none⟩)) rfl (by kernel_rfl) ?_)
  refine sq (o_pv (.string p) rfl (by kernel_rfl) ?_)
  refine sq (o_pv (.int .i64 mode) rfl (by kernel_rfl) ?_)
  refine sq (o_pv (.slice ab6 b.length cb7) rfl (by kernel_rfl) ?_)
  refine sq (o_call 85 #[(.pointer (some ⟨bf_1, 0, none⟩)), (.string p), (.int .i64 mode), (.slice ab6 b.length cb7)] rfl (x_call Tryd.call85 (by kernel_rfl)) (simfs_FS_may_w (X := X) (f_ := f_) (p := p) (mode := mode) (b := b) hXo (MO.re mf_3 (Wr.self _ _ (Sub.refl _))) zp4 rmode5 hb8 hp) ?_)
  rintro _ w14 ⟨f_12, r13, hp, X15, F17, s16, rfl, m18, rr19⟩
  have m20 := MO.re m18 (Wr.trans m18.wr mf_3.wr E0.size)
  replace hp := hp rr19
  refine sq (o_pv (.int .i64 r13) rfl (by kernel_rfl) ?_)
  refine nil_ ?_
  refine then_normal (K11 _ _ _ _ ?_)
  refine seq_ (fun _ K21 => ?_)
  refine reg_ ?_
  refine sq (o_pv (.int .i64 r13) rfl (by kernel_rfl) ?_)
  refine sq (o_pv (.bool (!decide (r13 = (0 : Int)))) rfl (by kernel_rfl) ?_)
  refine nil_ ?_
  refine then_normal (K21 _ _ _ _ ?_)
  refine cond_nd (r13 = (0 : Int)) (by kernel_rfl) (fun h22 => ?_) (fun h22 => ?_)
  ·
    replace hp := hp.1 h22
    refine seq_ (fun _ K23 => ?_)
    refine reg_ ?_
    refine sq (o_pv (.int .i64 r13) rfl (by kernel_rfl) ?_)
    refine sq (o_pv (.int .i64 r13) rfl (by kernel_rfl) ?_)
    refine nil_ ?_
    refine then_normal (K23 _ _ _ _ ?_)
    refine wp_ret ?_
    refine then_ret ?_
    have hb24 := (Sl.step hb8 s16)
    have hXo25 := (Old.step hXo s16)
    have E26 := (Evo.thenW E0 (Step.evo s16) mf_3.wr)
    have hS27 := (Sub.trans hS (Step.up s16))
    have hN28 := (News.step hN s16)
    refine end_ret hQ (.int .i64 r13) (by kernel_rfl) ?_
    exact ⟨f_12, r13, hp, X15, F17, step_of E26 hF0 hS27 hN28, rfl, m20, rr19⟩
  ·
    replace hp := hp.2 h22
    refine wp_skip ?_
    refine then_normal (K10 _ _ _ _ ?_)
    refine seq_ (fun _ K29 => ?_)
    have hb282 := (Sl.step hb8 s16)
    have hXo283 := (Old.step hXo s16)
    have E284 := (Evo.thenW E0 (Step.evo s16) mf_3.wr)
    have hS285 := (Sub.trans hS (Step.up s16))
    have hN286 := (News.step hN s16)
    obtain ⟨k275, hk276, hp⟩ := yon1 hp
    refine ground_ ?_
    refine join_ 268173312 (fun lq w277 => ∃ (X278 : List Nat) (o272 : S_simfs_FS) (F273 : List Nat), (lq = []) ∧ (Evo Ff_2 w w277) ∧ (Old X278 w277) ∧ (Sub X X278) ∧ (News X w X278 w277) ∧ (MO o_simfs_FS 153 Ff_2 w.heap.size X278 w277 F273 bf_1 o272) ∧ (k275 o272)) (fun Kj279 hJ280 => ?_) ?_
    ·
      obtain ⟨rokept291, rofiles293, ao295, no296, co297, aokeep304, cokeep305, k307, mokept292, mofiles294, Oo298, roquota299, ronow300, roinodes301, roops_302, roleft303, hokeep306, sb308, sb309, sb310, sb311, p312, p313, p314, p315, p316, p317⟩ := o_simfs_FS_open m20
      replace hp := hp (OS.len Oo298)
      replace hp := hp roquota299
      replace hp := hp ronow300
      replace hp := hp roinodes301
      replace hp := hp roops_302
      replace hp := hp roleft303
      replace hp := hp (Sl.len hokeep306)
      obtain ⟨F324, m325, hs326⟩ := MO.pack (o_simfs_FS_mk k307 mokept292 mofiles294 Oo298 roquota299 ronow300 roinodes301 roops_302 roleft303 hokeep306 rfl p312 p313 p314 p315 p316 p317)
      have hFX327 : Sub F324 X15 := (MO.mem m325)
      refine reg_drawn (RB w14.heap.size F324) 10 (by kernel_rfl) (fun w318 hd319 => ?_)
      have e320 := Evo.of_drew hd319
      have z321 : w318.heap.size = w14.heap.size := by rw [hd319]
      clear hd319
      have s323 := Step.of0 X15 e320
      have er322 := RB.refl w14.heap.size F324 w318
      have hb328 := (Sl.step hb282 s323)
      have hXo329 := (Old.step hXo283 s323)
      have E330 := (Evo.then0 E284 (Step.evo s323))
      have hS331 := (Sub.trans hS285 (Step.up s323))
      have hN332 := (News.step hN286 s323)
      have hokeep333 := (Sl.step hokeep306 s323)
      have m334 := (MO.step0 m325 s323)
      refine r_take 0 (.pointer (some ⟨bf_1, 0, none⟩)) (RB.pre _ _) rfl (by kernel_rfl) (fun _ _ _ h => hQ.panic _ _ _ _ _ h) (.inl ⟨rfl, fun wq hq => (by kernel_rfl)⟩) ?_
      refine r_take 1 (.pointer (some ⟨bf_1, 0, none⟩)) (RB.pre _ _) rfl (by kernel_rfl) (fun _ _ _ h => hQ.panic _ _ _ _ _ h) (.inl ⟨rfl, fun wq hq => (by kernel_rfl)⟩) ?_
      refine r_take 2 (.pointer (some ⟨bf_1, 1, none⟩)) (RB.pre _ _) rfl (by kernel_rfl) (fun _ _ _ h => hQ.panic _ _ _ _ _ h) (.inl ⟨rfl, fun wq hq => (by kernel_rfl)⟩) ?_
      refine r_take 4 (.pointer (some ⟨bf_1, 0, none⟩)) (RB.pre _ _) rfl (by kernel_rfl) (fun _ _ _ h => hQ.panic _ _ _ _ _ h) (.inl ⟨rfl, fun wq hq => (by kernel_rfl)⟩) ?_
      refine r_take 5 (.string p) (RB.pre _ _) rfl (by kernel_rfl) (fun _ _ _ h => hQ.panic _ _ _ _ _ h) (.inl ⟨rfl, fun wq hq => (by kernel_rfl)⟩) ?_
      refine r_take 6 (.int .i64 mode) (RB.pre _ _) rfl (by kernel_rfl) (fun _ _ _ h => hQ.panic _ _ _ _ _ h) (.inl ⟨rfl, fun wq hq => (by kernel_rfl)⟩) ?_
      refine r_take 7 (.slice ab6 b.length cb7) (RB.pre _ _) rfl (by kernel_rfl) (fun _ _ _ h => hQ.panic _ _ _ _ _ h) (.inl ⟨rfl, fun wq hq => (by kernel_rfl)⟩) ?_
      refine r_ready [3, 8] (by kernel_rfl) rfl (all_cons ⟨_, _, _, _, _, _, rfl, ?_⟩ (all_cons ⟨_, _, _, _, _, _, rfl, ?_⟩ all_nil))
      ·
        obtain ⟨rqkept335, rqfiles337, aq339, nq340, cq341, aqkeep348, cqkeep349, k351, _, _, _, _, _, _, _, _, _, _, _, _, _, _, _, _, _, _, _⟩ := o_simfs_FS_open m334
        refine o_pv (.map (some rqfiles337)) rfl (x_load1 (by kernel_rfl) Tryd.isAgg150 (k351.2.1.cell' 1 rfl)) ?_
        refine ⟨fun _ => RB.refl _ _ _, ?_⟩
        refine r_ready [8] (by kernel_rfl) rfl (all_cons ⟨_, _, _, _, _, _, rfl, ?_⟩ all_nil)
        refine o_call 87 #[(.pointer (some ⟨bf_1, 0, none⟩)), (.string p), (.int .i64 mode), (.slice ab6 b.length cb7)] rfl (x_call Tryd.call87 (by kernel_rfl)) (simfs_FS_put_w (X := X15) (f_ := f_12) (p := p) (mode := mode) (b := b) hXo329 (MO.re m334 (Wr.self _ _ (Sub.refl _))) zp4 rmode5 hb328 hp) ?_
        rintro _ w354 ⟨f_352, r353, hp, X355, F357, arfileb365, crfileb366, s356, rfl, m358, rrkind359, zrpath360, zrto_361, rrfilemode362, rrfiletime363, rrfileinode364, hrfileb367, pin368⟩
        have rm := RB.mono (F' := F324) (Step.evo s356) (Nat.le_trans (Nat.le_of_eq z321.symm) (RB.size er322)) (Wr.self _ _ (Sub.refl _))
        have er369 := RB.trans er322 rm
        refine ⟨fun _ => rm, ?_⟩
        have wn370 : Wr F324 w14.heap.size F357 := Wr.trans m358.wr (Wr.self _ _ (Sub.refl _)) (Nat.le_trans (Nat.le_of_eq z321.symm) (RB.size er322))
        have m371 := MO.re m358 (Wr.trans m358.wr m334.wr E330.size)
        have hc372 := pin368 _ (k351.2.1.cell' 1 rfl)
        replace hp := hp rrkind359
        replace hp := hp zrpath360
        replace hp := hp zrto_361
        replace hp := hp rrfilemode362
        replace hp := hp rrfiletime363
        replace hp := hp rrfileinode364
        replace hp := hp (Sl.len hrfileb367)
        refine r_ready [9] (by kernel_rfl) rfl (all_cons ⟨_, _, _, _, _, _, rfl, ?_⟩ all_nil)
        obtain ⟨rokept373, rofiles375, ao377, no378, co379, aokeep386, cokeep387, k389, mokept374, mofiles376, Oo380, roquota381, ronow382, roinodes383, roops_384, roleft385, hokeep388, sb390, sb391, sb392, sb393, p394, p395, p396, p397, p398, p399⟩ := o_simfs_FS_open m371
        replace hp := hp (OS.len Oo380)
        replace hp := hp roquota381
        replace hp := hp ronow382
        replace hp := hp roinodes383
        replace hp := hp roops_384
        replace hp := hp roleft385
        replace hp := hp (Sl.len hokeep388)
        obtain rfl : rofiles375 = rqfiles337 := map_inj (hc372) (k389.2.1.cell' 1 rfl)
        have hb400 := (Sl.step hb328 s356)
        have hXo401 := (Old.step hXo329 s356)
        have E402 := (Evo.thenW E330 (Step.evo s356) m334.wr)
        have hS403 := (Sub.trans hS331 (Step.up s356))
        have hN404 := (News.step hN332 s356)
        have hokeep405 := (Sl.step hokeep333 s356)
        refine o_call 86 #[(.map (some rofiles375)), (.agg #[(.int .i64 r353.kind), (.string r353.path), (.string r353.to_), (.int .i64 r353.file.mode), (.int .i64 r353.file.time), (.int .i64 r353.file.inode), (.slice arfileb365 r353.file.b.length crfileb366)])] rfl (x_call Tryd.call86 (by kernel_rfl)) (simfs_apply_w (X := X355) (l := f_352.files) (o := r353) hXo401 (OM.re mofiles376 (Wr.self _ _ (Sub.refl _))) rrkind359 zrpath360 zrto_361 rrfilemode362 rrfiletime363 rrfileinode364 hrfileb367 hp) ?_
        rintro _ w408 ⟨l406, r407, hp, X409, s410, rfl, m411⟩
        have rm := RB.mono (F' := F324) (Step.evo s410) (Nat.le_trans (Nat.le_of_eq z321.symm) (RB.size er369)) (fun x hx => wn370 x (sb392 x hx))
        have er412 := RB.trans er369 rm
        refine ⟨fun _ => rm, ?_⟩
        have wn413 : Wr F324 w14.heap.size [rofiles375] := Wr.trans m411.wr (fun x hx => wn370 x (sb392 x hx)) (Nat.le_trans (Nat.le_of_eq z321.symm) (RB.size er369))
        have m414 := OM.re m411 (Wr.trans m411.wr mofiles376.wr E402.size)
        have p415 := Ap.grow m411.wr p395 (OB.old k389) (Nat.le_refl _)
        have p416 := Ap.grow m411.wr p397 (OM.old mokept374) (Nat.le_refl _)
        have p417 := Ap.grow m411.wr (Ap.symm p399) (OS.old Oo380) (Nat.le_refl _)
        refine r_done (by kernel_rfl) ?_
        have hb418 := (Sl.step hb400 s410)
        have hXo419 := (Old.step hXo401 s410)
        have E420 := (Evo.thenW E402 (Step.evo s410) mofiles376.wr)
        have hS421 := (Sub.trans hS403 (Step.up s410))
        have hN422 := (News.step hN404 s410)
        have hokeep423 := (Sl.step hokeep405 s410)
        have hrfileb424 := (Sl.step hrfileb367 s410)
        have k425 := (OB.step k389 s410 p415)
        have mokept426 := (OM.step mokept374 s410 p416)
        have Oo427 := (OS.step Oo380 s410 p417)
        have hokeep428 := (Sl.step hokeep388 s410)
        obtain ⟨F429, m430, hs431⟩ := MO.pack (o_simfs_FS_mk k425 mokept426 m414 Oo427 roquota381 ronow382 roinodes383 roops_384 roleft385 hokeep428 rfl p394 p415 p396 p416 p398 p399)
        refine then_normal (hJ280 _ _ _ ⟨[], fit_mk (fun _ _ => rfl) (by kernel_rfl) vs_nil, ?_⟩)
        exact ⟨X409, (S_simfs_FS.mk f_352.kept l406 f_352.pending f_352.quota f_352.now f_352.inodes f_352.ops_ f_352.off f_352.armed f_352.left f_352.keep), F429, rfl, E420, hXo419, hS421, hN422, m430, hp⟩
      ·
        refine o_call 87 #[(.pointer (some ⟨bf_1, 0, none⟩)), (.string p), (.int .i64 mode), (.slice ab6 b.length cb7)] rfl (x_call Tryd.call87 (by kernel_rfl)) (simfs_FS_put_w (X := X15) (f_ := f_12) (p := p) (mode := mode) (b := b) hXo329 (MO.re m334 (Wr.self _ _ (Sub.refl _))) zp4 rmode5 hb328 hp) ?_
        rintro _ w434 ⟨f_432, r433, hp, X435, F437, arfileb445, crfileb446, s436, rfl, m438, rrkind439, zrpath440, zrto_441, rrfilemode442, rrfiletime443, rrfileinode444, hrfileb447, pin448⟩
        have rm := RB.mono (F' := F324) (Step.evo s436) (Nat.le_trans (Nat.le_of_eq z321.symm) (RB.size er322)) (Wr.self _ _ (Sub.refl _))
        have er449 := RB.trans er322 rm
        refine ⟨fun _ => rm, ?_⟩
        have wn450 : Wr F324 w14.heap.size F437 := Wr.trans m438.wr (Wr.self _ _ (Sub.refl _)) (Nat.le_trans (Nat.le_of_eq z321.symm) (RB.size er322))
        have m451 := MO.re m438 (Wr.trans m438.wr m334.wr E330.size)
        replace hp := hp rrkind439
        replace hp := hp zrpath440
        replace hp := hp zrto_441
        replace hp := hp rrfilemode442
        replace hp := hp rrfiletime443
        replace hp := hp rrfileinode444
        replace hp := hp (Sl.len hrfileb447)
        refine r_ready [3] (by kernel_rfl) rfl (all_cons ⟨_, _, _, _, _, _, rfl, ?_⟩ all_nil)
        obtain ⟨rqkept452, rqfiles454, aq456, nq457, cq458, aqkeep465, cqkeep466, k468, _, _, _, _, _, _, _, _, _, _, _, _, _, _, _, _, _, _, _⟩ := o_simfs_FS_open m451
        refine o_pv (.map (some rqfiles454)) rfl (x_load1 (by kernel_rfl) Tryd.isAgg150 (k468.2.1.cell' 1 rfl)) ?_
        refine ⟨fun _ => RB.refl _ _ _, ?_⟩
        refine r_ready [9] (by kernel_rfl) rfl (all_cons ⟨_, _, _, _, _, _, rfl, ?_⟩ all_nil)
        obtain ⟨rokept469, rofiles471, ao473, no474, co475, aokeep482, cokeep483, k485, mokept470, mofiles472, Oo476, roquota477, ronow478, roinodes479, roops_480, roleft481, hokeep484, sb486, sb487, sb488, sb489, p490, p491, p492, p493, p494, p495⟩ := o_simfs_FS_open m451
        replace hp := hp (OS.len Oo476)
        replace hp := hp roquota477
        replace hp := hp ronow478
        replace hp := hp roinodes479
        replace hp := hp roops_480
        replace hp := hp roleft481
        replace hp := hp (Sl.len hokeep484)
        obtain rfl : rofiles471 = rqfiles454 := map_inj (k468.2.1.cell' 1 rfl) (k485.2.1.cell' 1 rfl)
        have hb496 := (Sl.step hb328 s436)
        have hXo497 := (Old.step hXo329 s436)
        have E498 := (Evo.thenW E330 (Step.evo s436) m334.wr)
        have hS499 := (Sub.trans hS331 (Step.up s436))
        have hN500 := (News.step hN332 s436)
        have hokeep501 := (Sl.step hokeep333 s436)
        refine o_call 86 #[(.map (some rofiles471)), (.agg #[(.int .i64 r433.kind), (.string r433.path), (.string r433.to_), (.int .i64 r433.file.mode), (.int .i64 r433.file.time), (.int .i64 r433.file.inode), (.slice arfileb445 r433.file.b.length crfileb446)])] rfl (x_call Tryd.call86 (by kernel_rfl)) (simfs_apply_w (X := X435) (l := f_432.files) (o := r433) hXo497 (OM.re mofiles472 (Wr.self _ _ (Sub.refl _))) rrkind439 zrpath440 zrto_441 rrfilemode442 rrfiletime443 rrfileinode444 hrfileb447 hp) ?_
        rintro _ w504 ⟨l502, r503, hp, X505, s506, rfl, m507⟩
        have rm := RB.mono (F' := F324) (Step.evo s506) (Nat.le_trans (Nat.le_of_eq z321.symm) (RB.size er449)) (fun x hx => wn450 x (sb488 x hx))
        have er508 := RB.trans er449 rm
        refine ⟨fun _ => rm, ?_⟩
        have wn509 : Wr F324 w14.heap.size [rofiles471] := Wr.trans m507.wr (fun x hx => wn450 x (sb488 x hx)) (Nat.le_trans (Nat.le_of_eq z321.symm) (RB.size er449))
        have m510 := OM.re m507 (Wr.trans m507.wr mofiles472.wr E498.size)
        have p511 := Ap.grow m507.wr p491 (OB.old k485) (Nat.le_refl _)
        have p512 := Ap.grow m507.wr p493 (OM.old mokept470) (Nat.le_refl _)
        have p513 := Ap.grow m507.wr (Ap.symm p495) (OS.old Oo476) (Nat.le_refl _)
        refine r_done (by kernel_rfl) ?_
        have hb514 := (Sl.step hb496 s506)
        have hXo515 := (Old.step hXo497 s506)
        have E516 := (Evo.thenW E498 (Step.evo s506) mofiles472.wr)
        have hS517 := (Sub.trans hS499 (Step.up s506))
        have hN518 := (News.step hN500 s506)
        have hokeep519 := (Sl.step hokeep501 s506)
        have hrfileb520 := (Sl.step hrfileb447 s506)
        have k521 := (OB.step k485 s506 p511)
        have mokept522 := (OM.step mokept470 s506 p512)
        have Oo523 := (OS.step Oo476 s506 p513)
        have hokeep524 := (Sl.step hokeep484 s506)
        obtain ⟨F525, m526, hs527⟩ := MO.pack (o_simfs_FS_mk k521 mokept522 m510 Oo523 roquota477 ronow478 roinodes479 roops_480 roleft481 hokeep524 rfl p490 p511 p492 p512 p494 p495)
        refine then_normal (hJ280 _ _ _ ⟨[], fit_mk (fun _ _ => rfl) (by kernel_rfl) vs_nil, ?_⟩)
        exact ⟨X505, (S_simfs_FS.mk f_432.kept l502 f_432.pending f_432.quota f_432.now f_432.inodes f_432.ops_ f_432.off f_432.armed f_432.left f_432.keep), F525, rfl, E516, hXo515, hS517, hN518, m526, hp⟩
    ·
      rintro _ w277 g528 ⟨X278, o272, F273, rfl, E287, hXo288, hS289, hN290, m274, hv281⟩
      replace hp := hk276 o272 hv281
      refine then_normal (K29 _ _ _ _ ?_)
      refine seq_ (fun _ K529 => ?_)
      refine reg_ ?_
      refine sq (o_pv (.pointer (some ⟨bf_1, 0, none⟩)) rfl (by kernel_rfl) ?_)
      refine sq (o_call 88 #[(.pointer (some ⟨bf_1, 0, none⟩))] rfl (x_call Tryd.call88 (by kernel_rfl)) (simfs_FS_sync_w (X := X278) (f_ := o272) hXo288 (MO.re m274 (Wr.self _ _ (Sub.refl _))) hp) ?_)
      rintro _ w531 ⟨f_530, hp, X532, F534, s533, rfl, m535⟩
      have m536 := MO.re m535 (Wr.trans m535.wr m274.wr E287.size)
      refine nil_ ?_
      refine then_normal (K529 _ _ _ _ ?_)
      refine seq_ (fun _ K537 => ?_)
      refine reg_ ?_
      refine sq (o_pv (.int .i64 (0 : Int)) rfl (by kernel_rfl) ?_)
      refine nil_ ?_
      refine then_normal (K537 _ _ _ _ ?_)
      refine wp_ret ?_
      have E538 := (Evo.thenW E287 (Step.evo s533) m274.wr)
      have hXo539 := (Old.step hXo288 s533)
      have hS540 := (Sub.trans hS289 (Step.up s533))
      have hN541 := (News.step hN290 s533)
      refine end_ret hQ (.int .i64 (0 : Int)) (by kernel_rfl) ?_
      exact ⟨f_530, (0 : Int), hp, X532, F534, step_of E538 hF0 hS540 hN541, rfl, m536, (by decide : inR .i64 (0 : Int))⟩

def simfs_FS_Off_p (f_ : S_simfs_FS) (Q : S_simfs_FS → Bool → Prop) : Prop :=
  ((f_.pending.length ≤ 9223372036854775807) → ((inR .i64 f_.quota) → ((inR .i64 f_.now) → ((inR .i64 f_.inodes) → ((inR .i64 f_.ops_) → ((inR .i64 f_.left) → ((f_.keep.length ≤ 9223372036854775807) → Q f_ f_.off)))))))
set_option maxRecDepth 20000 in
set_option maxHeartbeats 4000000 in
theorem simfs_FS_Off_w {X : List Nat} {w : World} {f_ : S_simfs_FS} {bf_1 : Nat} {Ff_2 : List Nat} {Q : S_simfs_FS → Bool → Prop} (hX0 : Old X w) (mf_3 : MO o_simfs_FS 153 Ff_2 w.heap.size X w Ff_2 bf_1 f_) (hp : simfs_FS_Off_p f_ Q) :
    Calls Tryd.prog 90 #[(.pointer (some ⟨bf_1, 0, none⟩))] w (Ret fun v w' => ∃ (m0 : S_simfs_FS) (r0 : Bool), Q m0 r0 ∧ ∃ (X' : List Nat) (Fm0 : List Nat), Step X w Ff_2 X' w' ∧ v = (.bool r0) ∧ MO o_simfs_FS 153 Ff_2 w.heap.size X' w' Fm0 bf_1 m0) := by
  have hXo := hX0
  have E0 : Evo Ff_2 w w := RB.refl _ _ _
  have hS : Sub X X := Sub.refl _
  have hN : News X w X w := News.refl _ _
  have hF0 : Sub Ff_2 X := MO.mem mf_3
  unfold simfs_FS_Off_p at hp
  refine enter_ Tryd.func90 rfl 7 [(0, (.pointer (some ⟨bf_1, 0, none⟩)))] (by kernel_rfl) (fun Qe hQ => ?_)
  refine seq_ (fun _ K4 => ?_)
  refine reg_ ?_
  refine sq (o_pv (.bool false) rfl (by kernel_rfl) ?_)
  refine nil_ ?_
  refine then_normal (K4 _ _ _ _ ?_)
  refine seq_ (fun _ K5 => ?_)
  refine reg_ ?_
  refine sq (o_pv (.pointer (some ⟨bf_1, 0, none⟩)) rfl (by kernel_rfl) ?_)
  refine sq (o_pv (.pointer (some ⟨bf_1, 0, none⟩)) rfl (by kernel_rfl) ?_)
  obtain ⟨rokept6, rofiles8, ao10, no11, co12, aokeep19, cokeep20, k22, mokept7, mofiles9, Oo13, roquota14, ronow15, roinodes16, roops_17, roleft18, hokeep21, sb23, sb24, sb25, sb26, p27, p28, p29, p30, p31, p32⟩ := o_simfs_FS_open mf_3
  replace hp := hp (OS.len Oo13)
  replace hp := hp roquota14
  replace hp := hp ronow15
  replace hp := hp roinodes16
  replace hp := hp roops_17
  replace hp := hp roleft18
  replace hp := hp (Sl.len hokeep21)
  refine sq (o_pv (.pointer (some ⟨bf_1, 7, none⟩)) rfl (by kernel_rfl) ?_)
  refine sq (o_pv (.bool f_.off) rfl (x_load1 (by kernel_rfl) Tryd.isAgg4 (k22.2.1.cell' 7 rfl)) ?_)
  refine sq (o_pv (.bool f_.off) rfl (by kernel_rfl) ?_)
  refine nil_ ?_
  refine then_normal (K5 _ _ _ _ ?_)
  refine wp_ret ?_
  obtain ⟨F33, m34, hs35⟩ := MO.pack (o_simfs_FS_mk k22 mokept7 mofiles9 Oo13 roquota14 ronow15 roinodes16 roops_17 roleft18 hokeep21 rfl p27 p28 p29 p30 p31 p32)
  refine end_ret hQ (.bool f_.off) (by kernel_rfl) ?_
  exact ⟨f_, f_.off, hp, X, F33, step_of E0 hF0 hS hN, rfl, m34⟩

def simfs_FS_find_p (f_ : S_simfs_FS) (p : ByteArray) (Q : S_simfs_FS → S_simfs_file → Int → Prop) : Prop :=
  ((p.size ≤ maxLen) → ((f_.pending.length ≤ 9223372036854775807) → ((inR .i64 f_.quota) → ((inR .i64 f_.now) → ((inR .i64 f_.inodes) → ((inR .i64 f_.ops_) → ((inR .i64 f_.left) → ((f_.keep.length ≤ 9223372036854775807) → ((inR .i64 ((mgetD f_.files p).mode)) → ((inR .i64 ((mgetD f_.files p).time)) → ((inR .i64 ((mgetD f_.files p).inode)) → ((((mgetD f_.files p).b).length ≤ 9223372036854775807) → (((f_.off = true) → Q f_ (S_simfs_file.mk (0 : Int) (0 : Int) (0 : Int) ([] : List Int)) (13 : Int)) ∧ ((f_.off = false) → ((((!(mhas f_.files p)) = true) → Q f_ (S_simfs_file.mk (0 : Int) (0 : Int) (0 : Int) ([] : List Int)) (5 : Int)) ∧ (((!(mhas f_.files p)) = false) → Q f_ (mgetD f_.files p) (0 : Int)))))))))))))))))
set_option maxRecDepth 20000 in
set_option maxHeartbeats 4000000 in
theorem simfs_FS_find_w {X : List Nat} {w : World} {f_ : S_simfs_FS} {p : ByteArray} {bf_1 : Nat} {Ff_2 : List Nat} {Q : S_simfs_FS → S_simfs_file → Int → Prop} (hX0 : Old X w) (mf_3 : MO o_simfs_FS 153 Ff_2 w.heap.size X w Ff_2 bf_1 f_) (zp4 : p.size ≤ maxLen) (hp : simfs_FS_find_p f_ p Q) :
    Calls Tryd.prog 89 #[(.pointer (some ⟨bf_1, 0, none⟩)), (.string p)] w (Ret fun v w' => ∃ (m0 : S_simfs_FS) (r0 : S_simfs_file) (r1 : Int), Q m0 r0 r1 ∧ ∃ (X' : List Nat) (Fm0 : List Nat) (aq0b4 : Option Addr) (cq0b5 : Nat), Step X w Ff_2 X' w' ∧ v = .tuple #[(.agg #[(.int .i64 r0.mode), (.int .i64 r0.time), (.int .i64 r0.inode), (.slice aq0b4 r0.b.length cq0b5)]), (.int .i64 r1)] ∧ MO o_simfs_FS 153 Ff_2 w.heap.size X' w' Fm0 bf_1 m0 ∧ inR .i64 r0.mode ∧ inR .i64 r0.time ∧ inR .i64 r0.inode ∧ Sl (rInt .u8) X' w' aq0b4 cq0b5 r0.b ∧ inR .i64 r1) := by
  have hXo := hX0
  have E0 : Evo Ff_2 w w := RB.refl _ _ _
  have hS : Sub X X := Sub.refl _
  have hN : News X w X w := News.refl _ _
  have hF0 : Sub Ff_2 X := MO.mem mf_3
  unfold simfs_FS_find_p at hp
  refine enter_ Tryd.func89 rfl 28 [(0, (.pointer (some ⟨bf_1, 0, none⟩))), (1, (.string p))] (by kernel_rfl) (fun Qe hQ => ?_)
  replace hp := hp zp4
  refine seq_ (fun _ K5 => ?_)
  refine reg_ ?_
  refine sq (o_newX [(.int .i64 (0 : Int)), (.int .i64 (0 : Int)), (.int .i64 (0 : Int)), (.slice none 0 0)] 156 (X := X) (B := w.heap.size) E0.size rfl (by kernel_rfl) ?_)
  intro b6 w7 X8 s9 k10 n11
  have p12 := n11 _ (MO.old mf_3)
  refine sq (o_pv (.int .i64 (0 : Int)) rfl (by kernel_rfl) ?_)
  refine nil_ ?_
  refine then_normal (K5 _ _ _ _ ?_)
  refine seq_ (fun _ K13 => ?_)
  refine reg_ ?_
  refine sq (o_pv (.pointer (some ⟨bf_1, 0, none⟩)) rfl (by kernel_rfl) ?_)
  refine sq (o_pv (.pointer (some ⟨bf_1, 0, none⟩)) rfl (by kernel_rfl) ?_)
  have mf_14 := (MO.step0 mf_3 s9)
  obtain ⟨rokept15, rofiles17, ao19, no20, co21, aokeep28, cokeep29, k31, mokept16, mofiles18, Oo22, roquota23, ronow24, roinodes25, roops_26, roleft27, hokeep30, sb32, sb33, sb34, sb35, p36, p37, p38, p39, p40, p41⟩ := o_simfs_FS_open mf_14
  have p42 := Ap.subr (Ap.symm p12) sb32
  have p43 := Ap.subr (Ap.symm p12) sb33
  have p44 := Ap.subr (Ap.symm p12) sb34
  have p45 := Ap.subr (Ap.symm p12) sb35
  replace hp := hp (OS.len Oo22)
  replace hp := hp roquota23
  replace hp := hp ronow24
  replace hp := hp roinodes25
  replace hp := hp roops_26
  replace hp := hp roleft27
  replace hp := hp (Sl.len hokeep30)
  refine sq (o_pv (.pointer (some ⟨bf_1, 1, none⟩)) rfl (by kernel_rfl) ?_)
  refine sq (o_pv (.map (some rofiles17)) rfl (x_load1 (by kernel_rfl) Tryd.isAgg150 (k31.2.1.cell' 1 rfl)) ?_)
  refine sq (o_pv (.string p) rfl (by kernel_rfl) ?_)
  obtain ⟨cs46, ok47, lk48⟩ := MapAt.look mofiles18.2.1 p [(.int .i64 (0 : Int)), (.int .i64 (0 : Int)), (.int .i64 (0 : Int)), (.slice none 0 0)] (fun _ _ => (r_simfs_file_mk (by decide : inR .i64 (0 : Int)) (by decide : inR .i64 (0 : Int)) (by decide : inR .i64 (0 : Int)) (Sl.nil) rfl))
  obtain ⟨alb52, clb53, rfl, rlmode49, rltime50, rlinode51, hlb54⟩ := r_simfs_file_open ok47
  replace hp := hp rlmode49
  replace hp := hp rltime50
  replace hp := hp rlinode51
  replace hp := hp (Sl.len hlb54)
  refine sq (o_pv (.tuple #[(.agg #[(.int .i64 ((mgetD f_.files p).mode)), (.int .i64 ((mgetD f_.files p).time)), (.int .i64 ((mgetD f_.files p).inode)), (.slice alb52 (((mgetD f_.files p).b).length) clb53)]), (.bool (mhas f_.files p))]) rfl (x_lookup2 (w0 := w7) (k := p) (v := (.agg #[(.int .i64 ((mgetD f_.files p).mode)), (.int .i64 ((mgetD f_.files p).time)), (.int .i64 ((mgetD f_.files p).inode)), (.slice alb52 (((mgetD f_.files p).b).length) clb53)])) (z := (.agg #[(.int .i64 (0 : Int)), (.int .i64 (0 : Int)), (.int .i64 (0 : Int)), (.slice none 0 0)])) (b := mhas f_.files p) (s := 4) (bts := 48) (by kernel_rfl) (by kernel_rfl) lk48 rfl Tryd.underlying150 Tryd.underlying9 (by kernel_rfl)) ?_)
  refine sq (o_pv (.tuple #[(.agg #[(.int .i64 ((mgetD f_.files p).mode)), (.int .i64 ((mgetD f_.files p).time)), (.int .i64 ((mgetD f_.files p).inode)), (.slice alb52 (((mgetD f_.files p).b).length) clb53)]), (.bool (mhas f_.files p))]) rfl (by kernel_rfl) ?_)
  refine sq (o_pv (.agg #[(.int .i64 ((mgetD f_.files p).mode)), (.int .i64 ((mgetD f_.files p).time)), (.int .i64 ((mgetD f_.files p).inode)), (.slice alb52 (((mgetD f_.files p).b).length) clb53)]) rfl (by kernel_rfl) ?_)
  refine sq (o_pv (.bool (mhas f_.files p)) rfl (by kernel_rfl) ?_)
  have E61 := (Evo.then0 E0 (Step.evo s9))
  refine sq (o_newX [(.int .i64 (0 : Int)), (.int .i64 (0 : Int)), (.int .i64 (0 : Int)), (.slice none 0 0)] 156 (X := X8) (B := w.heap.size) E61.size rfl (by kernel_rfl) ?_)
  intro b55 w56 X57 s58 k59 n60
  have p62 := n60 _ (OB.old k10)
  have p63 := n60 _ (OB.old k31)
  have p64 := n60 _ (OM.old mokept16)
  have p65 := n60 _ (OM.old mofiles18)
  have p66 := n60 _ (OS.old Oo22)
  have k67 := (OB.step0 k10 s58)
  have k68 := (OB.step0 k31 s58)
  have mokept69 := (OM.step0 mokept16 s58)
  have mofiles70 := (OM.step0 mofiles18 s58)
  have Oo71 := (OS.step0 Oo22 s58)
  have E72 := (Evo.then0 E61 (Step.evo s58))
  refine sq (o_stB (o := 0) (v := (.agg #[(.int .i64 ((mgetD f_.files p).mode)), (.int .i64 ((mgetD f_.files p).time)), (.int .i64 ((mgetD f_.files p).inode)), (.slice alb52 (((mgetD f_.files p).b).length) clb53)])) [(.int .i64 ((mgetD f_.files p).mode)), (.int .i64 ((mgetD f_.files p).time)), (.int .i64 ((mgetD f_.files p).inode)), (.slice alb52 (((mgetD f_.files p).b).length) clb53)] rfl k59 (by kernel_rfl) (by kernel_rfl) Tryd.sizeOf156 rfl rfl rfl ?_)
  intro w73 s74 k75
  refine sq (o_pv (.bool (mhas f_.files p)) rfl (by kernel_rfl) ?_)
  refine nil_ ?_
  refine then_normal (K13 _ _ _ _ ?_)
  refine seq_ (fun _ K76 => ?_)
  refine wp_block ?_
  refine seq_ (fun _ K77 => ?_)
  refine reg_ ?_
  refine sq (o_pv (.pointer (some ⟨bf_1, 0, none⟩)) rfl (by kernel_rfl) ?_)
  refine sq (o_pv (.pointer (some ⟨bf_1, 0, none⟩)) rfl (by kernel_rfl) ?_)
  refine sq (o_pv (.pointer (some ⟨bf_1, 7, none⟩)) rfl (by kernel_rfl) ?_)
  have k78 := (OB.step k68 s74 p63)
  refine sq (o_pv (.bool f_.off) rfl (x_load1 (by kernel_rfl) Tryd.isAgg4 (k78.2.1.cell' 7 rfl)) ?_)
  refine sq (o_pv (.bool f_.off) rfl (by kernel_rfl) ?_)
  refine nil_ ?_
  refine then_normal (K77 _ _ _ _ ?_)
  refine cond_b f_.off (by kernel_rfl) (fun h79 => ?_) (fun h79 => ?_)
  ·
    replace hp := hp.1 h79
    refine seq_ (fun _ K80 => ?_)
    refine reg_ ?_
    refine sq (o_pv (.agg #[(.int .i64 (0 : Int)), (.int .i64 (0 : Int)), (.int .i64 (0 : Int)), (.slice none 0 0)]) rfl (by kernel_rfl) ?_)
    have k81 := (OB.step k67 s74 p62)
    have mokept82 := (OM.step mokept69 s74 p64)
    have mofiles83 := (OM.step mofiles70 s74 p65)
    have Oo84 := (OS.step Oo71 s74 p66)
    have E85 := (Evo.thenW E72 (Step.evo s74) (Wr.of k59.2.2))
    refine sq (o_stB (o := 0) (v := (.agg #[(.int .i64 (0 : Int)), (.int .i64 (0 : Int)), (.int .i64 (0 : Int)), (.slice none 0 0)])) [(.int .i64 (0 : Int)), (.int .i64 (0 : Int)), (.int .i64 (0 : Int)), (.slice none 0 0)] rfl k81 (by kernel_rfl) (by kernel_rfl) Tryd.sizeOf156 rfl rfl rfl ?_)
    intro w86 s87 k88
    refine sq (o_pv (.int .i64 (13 : Int)) rfl (by kernel_rfl) ?_)
    refine nil_ ?_
    refine then_normal (K80 _ _ _ _ ?_)
    refine wp_ret ?_
    refine blk_ret ?_
    refine then_ret ?_
    have hXo89 := (Old.step (Old.step (Old.step (Old.step hXo s9) s58) s74) s87)
    have E90 := (Evo.thenW E85 (Step.evo s87) (Wr.of k81.2.2))
    have hS91 := (Sub.trans (Sub.trans (Sub.trans (Sub.trans hS (Step.up s9)) (Step.up s58)) (Step.up s74)) (Step.up s87))
    have hN92 := (News.step (News.step (News.step (News.step hN s9) s58) s74) s87)
    have k93 := (OB.step k78 s87 (Ap.symm p42))
    have mokept94 := (OM.step mokept82 s87 (Ap.symm p43))
    have mofiles95 := (OM.step mofiles83 s87 (Ap.symm p44))
    have Oo96 := (OS.step Oo84 s87 (Ap.symm p45))
    have hokeep97 := (Sl.step (Sl.step (Sl.step hokeep30 s58) s74) s87)
    have hlb98 := (Sl.step (Sl.step (Sl.step hlb54 s58) s74) s87)
    have k99 := (OB.step k75 s87 (Ap.symm p62))
    obtain ⟨F100, m101, hs102⟩ := MO.pack (o_simfs_FS_mk k93 mokept94 mofiles95 Oo96 roquota23 ronow24 roinodes25 roops_26 roleft27 hokeep97 rfl p36 p37 p38 p39 p40 p41)
    have p103 := hs102 _ (Ap.cons p42 (Ap.app p43 (Ap.app p44 (Ap.app p45 (Ap.app (Ap.nil_r _) (Ap.app (Ap.nil_r _) (Ap.app (Ap.nil_r _) (Ap.app (Ap.nil_r _) (Ap.app (Ap.nil_r _) (Ap.app (Ap.nil_r _) (Ap.app (Ap.nil_r _) (Ap.nil_r _))))))))))))
    have p104 := hs102 _ (Ap.cons (Ap.symm p63) (Ap.app (Ap.symm p64) (Ap.app (Ap.symm p65) (Ap.app (Ap.symm p66) (Ap.app (Ap.nil_r _) (Ap.app (Ap.nil_r _) (Ap.app (Ap.nil_r _) (Ap.app (Ap.nil_r _) (Ap.app (Ap.nil_r _) (Ap.app (Ap.nil_r _) (Ap.app (Ap.nil_r _) (Ap.nil_r _))))))))))))
    refine end_ret hQ (.tuple #[(.agg #[(.int .i64 (0 : Int)), (.int .i64 (0 : Int)), (.int .i64 (0 : Int)), (.slice none 0 0)]), (.int .i64 (13 : Int))]) (rs2 Tryd.results89 (rs_agg [(.int .i64 (0 : Int)), (.int .i64 (0 : Int)), (.int .i64 (0 : Int)), (.slice none 0 0)] (by kernel_rfl) Tryd.isAgg156 Tryd.sizeOf156 (k88.2.1.cells' 0 rfl)) (rs_tmp (by kernel_rfl))) ?_
    exact ⟨f_, (S_simfs_file.mk (0 : Int) (0 : Int) (0 : Int) ([] : List Int)), (13 : Int), hp, X57, F100, none, 0, step_of E90 hF0 hS91 hN92, rfl, m101, (by decide : inR .i64 (0 : Int)), (by decide : inR .i64 (0 : Int)), (by decide : inR .i64 (0 : Int)), Sl.nil, (by decide : inR .i64 (13 : Int))⟩
  ·
    replace hp := hp.2 h79
    refine seq_ (fun _ K105 => ?_)
    refine reg_ ?_
    refine sq (o_pv (.bool (mhas f_.files p)) rfl (by kernel_rfl) ?_)
    refine sq (o_pv (.bool (!(mhas f_.files p))) rfl (by kernel_rfl) ?_)
    refine sq (o_pv (.bool (!(mhas f_.files p))) rfl (by kernel_rfl) ?_)
    refine nil_ ?_
    refine then_normal (K105 _ _ _ _ ?_)
    refine cond_b (!(mhas f_.files p)) (by kernel_rfl) (fun h106 => ?_) (fun h106 => ?_)
    ·
      replace hp := hp.1 h106
      refine seq_ (fun _ K107 => ?_)
      refine reg_ ?_
      refine sq (o_pv (.agg #[(.int .i64 (0 : Int)), (.int .i64 (0 : Int)), (.int .i64 (0 : Int)), (.slice none 0 0)]) rfl (by kernel_rfl) ?_)
      have k108 := (OB.step k67 s74 p62)
      have mokept109 := (OM.step mokept69 s74 p64)
      have mofiles110 := (OM.step mofiles70 s74 p65)
      have Oo111 := (OS.step Oo71 s74 p66)
      have E112 := (Evo.thenW E72 (Step.evo s74) (Wr.of k59.2.2))
      refine sq (o_stB (o := 0) (v := (.agg #[(.int .i64 (0 : Int)), (.int .i64 (0 : Int)), (.int .i64 (0 : Int)), (.slice none 0 0)])) [(.int .i64 (0 : Int)), (.int .i64 (0 : Int)), (.int .i64 (0 : Int)), (.slice none 0 0)] rfl k108 (by kernel_rfl) (by kernel_rfl) Tryd.sizeOf156 rfl rfl rfl ?_)
      intro w113 s114 k115
      refine sq (o_pv (.int .i64 (5 : Int)) rfl (by kernel_rfl) ?_)
      refine nil_ ?_
      refine then_normal (K107 _ _ _ _ ?_)
      refine wp_ret ?_
      refine blk_ret ?_
      refine then_ret ?_
      have hXo116 := (Old.step (Old.step (Old.step (Old.step hXo s9) s58) s74) s114)
      have E117 := (Evo.thenW E112 (Step.evo s114) (Wr.of k108.2.2))
      have hS118 := (Sub.trans (Sub.trans (Sub.trans (Sub.trans hS (Step.up s9)) (Step.up s58)) (Step.up s74)) (Step.up s114))
      have hN119 := (News.step (News.step (News.step (News.step hN s9) s58) s74) s114)
      have k120 := (OB.step k78 s114 (Ap.symm p42))
      have mokept121 := (OM.step mokept109 s114 (Ap.symm p43))
      have mofiles122 := (OM.step mofiles110 s114 (Ap.symm p44))
      have Oo123 := (OS.step Oo111 s114 (Ap.symm p45))
      have hokeep124 := (Sl.step (Sl.step (Sl.step hokeep30 s58) s74) s114)
      have hlb125 := (Sl.step (Sl.step (Sl.step hlb54 s58) s74) s114)
      have k126 := (OB.step k75 s114 (Ap.symm p62))
      obtain ⟨F127, m128, hs129⟩ := MO.pack (o_simfs_FS_mk k120 mokept121 mofiles122 Oo123 roquota23 ronow24 roinodes25 roops_26 roleft27 hokeep124 rfl p36 p37 p38 p39 p40 p41)
      have p130 := hs129 _ (Ap.cons p42 (Ap.app p43 (Ap.app p44 (Ap.app p45 (Ap.app (Ap.nil_r _) (Ap.app (Ap.nil_r _) (Ap.app (Ap.nil_r _) (Ap.app (Ap.nil_r _) (Ap.app (Ap.nil_r _) (Ap.app (Ap.nil_r _) (Ap.app (Ap.nil_r _) (Ap.nil_r _))))))))))))
      have p131 := hs129 _ (Ap.cons (Ap.symm p63) (Ap.app (Ap.symm p64) (Ap.app (Ap.symm p65) (Ap.app (Ap.symm p66) (Ap.app (Ap.nil_r _) (Ap.app (Ap.nil_r _) (Ap.app (Ap.nil_r _) (Ap.app (Ap.nil_r _) (Ap.app (Ap.nil_r _) (Ap.app (Ap.nil_r _) (Ap.app (Ap.nil_r _) (Ap.nil_r _))))))))))))
      refine end_ret hQ (.tuple #[(.agg #[(.int .i64 (0 : Int)), (.int .i64 (0 : Int)), (.int .i64 (0 : Int)), (.slice none 0 0)]), (.int .i64 (5 : Int))]) (rs2 Tryd.results89 (rs_agg [(.int .i64 (0 : Int)), (.int .i64 (0 : Int)), (.int .i64 (0 : Int)), (.slice none 0 0)] (by kernel_rfl) Tryd.isAgg156 Tryd.sizeOf156 (k115.2.1.cells' 0 rfl)) (rs_tmp (by kernel_rfl))) ?_
      exact ⟨f_, (S_simfs_file.mk (0 : Int) (0 : Int) (0 : Int) ([] : List Int)), (5 : Int), hp, X57, F127, none, 0, step_of E117 hF0 hS118 hN119, rfl, m128, (by decide : inR .i64 (0 : Int)), (by decide : inR .i64 (0 : Int)), (by decide : inR .i64 (0 : Int)), Sl.nil, (by decide : inR .i64 (5 : Int))⟩
    ·
      replace hp := hp.2 h106
      refine wp_skip ?_
      refine blk_normal ?_
      refine then_normal (K76 _ _ _ _ ?_)
      refine seq_ (fun _ K132 => ?_)
      refine reg_ ?_
      refine sq (o_pv (.agg #[(.int .i64 ((mgetD f_.files p).mode)), (.int .i64 ((mgetD f_.files p).time)), (.int .i64 ((mgetD f_.files p).inode)), (.slice alb52 (((mgetD f_.files p).b).length) clb53)]) rfl (x_loadN [(.int .i64 ((mgetD f_.files p).mode)), (.int .i64 ((mgetD f_.files p).time)), (.int .i64 ((mgetD f_.files p).inode)), (.slice alb52 (((mgetD f_.files p).b).length) clb53)] (by kernel_rfl) Tryd.isAgg156 Tryd.sizeOf156 (k75.2.1.cells' 0 rfl)) ?_)
      have k133 := (OB.step k67 s74 p62)
      have mokept134 := (OM.step mokept69 s74 p64)
      have mofiles135 := (OM.step mofiles70 s74 p65)
      have Oo136 := (OS.step Oo71 s74 p66)
      have E137 := (Evo.thenW E72 (Step.evo s74) (Wr.of k59.2.2))
      refine sq (o_stB (o := 0) (v := (.agg #[(.int .i64 ((mgetD f_.files p).mode)), (.int .i64 ((mgetD f_.files p).time)), (.int .i64 ((mgetD f_.files p).inode)), (.slice alb52 (((mgetD f_.files p).b).length) clb53)])) [(.int .i64 ((mgetD f_.files p).mode)), (.int .i64 ((mgetD f_.files p).time)), (.int .i64 ((mgetD f_.files p).inode)), (.slice alb52 (((mgetD f_.files p).b).length) clb53)] rfl k133 (by kernel_rfl) (by kernel_rfl) Tryd.sizeOf156 rfl rfl rfl ?_)
      intro w138 s139 k140
      refine sq (o_pv (.int .i64 (0 : Int)) rfl (by kernel_rfl) ?_)
      refine nil_ ?_
      refine then_normal (K132 _ _ _ _ ?_)
      refine wp_ret ?_
      have hXo141 := (Old.step (Old.step (Old.step (Old.step hXo s9) s58) s74) s139)
      have E142 := (Evo.thenW E137 (Step.evo s139) (Wr.of k133.2.2))
      have hS143 := (Sub.trans (Sub.trans (Sub.trans (Sub.trans hS (Step.up s9)) (Step.up s58)) (Step.up s74)) (Step.up s139))
      have hN144 := (News.step (News.step (News.step (News.step hN s9) s58) s74) s139)
      have k145 := (OB.step k78 s139 (Ap.symm p42))
      have mokept146 := (OM.step mokept134 s139 (Ap.symm p43))
      have mofiles147 := (OM.step mofiles135 s139 (Ap.symm p44))
      have Oo148 := (OS.step Oo136 s139 (Ap.symm p45))
      have hokeep149 := (Sl.step (Sl.step (Sl.step hokeep30 s58) s74) s139)
      have hlb150 := (Sl.step (Sl.step (Sl.step hlb54 s58) s74) s139)
      have k151 := (OB.step k75 s139 (Ap.symm p62))
      obtain ⟨F152, m153, hs154⟩ := MO.pack (o_simfs_FS_mk k145 mokept146 mofiles147 Oo148 roquota23 ronow24 roinodes25 roops_26 roleft27 hokeep149 rfl p36 p37 p38 p39 p40 p41)
      have p155 := hs154 _ (Ap.cons p42 (Ap.app p43 (Ap.app p44 (Ap.app p45 (Ap.app (Ap.nil_r _) (Ap.app (Ap.nil_r _) (Ap.app (Ap.nil_r _) (Ap.app (Ap.nil_r _) (Ap.app (Ap.nil_r _) (Ap.app (Ap.nil_r _) (Ap.app (Ap.nil_r _) (Ap.nil_r _))))))))))))
      have p156 := hs154 _ (Ap.cons (Ap.symm p63) (Ap.app (Ap.symm p64) (Ap.app (Ap.symm p65) (Ap.app (Ap.symm p66) (Ap.app (Ap.nil_r _) (Ap.app (Ap.nil_r _) (Ap.app (Ap.nil_r _) (Ap.app (Ap.nil_r _) (Ap.app (Ap.nil_r _) (Ap.app (Ap.nil_r _) (Ap.app (Ap.nil_r _) (Ap.nil_r _))))))))))))
      refine end_ret hQ (.tuple #[(.agg #[(.int .i64 ((mgetD f_.files p).mode)), (.int .i64 ((mgetD f_.files p).time)), (.int .i64 ((mgetD f_.files p).inode)), (.slice alb52 (((mgetD f_.files p).b).length) clb53)]), (.int .i64 (0 : Int))]) (rs2 Tryd.results89 (rs_agg [(.int .i64 ((mgetD f_.files p).mode)), (.int .i64 ((mgetD f_.files p).time)), (.int .i64 ((mgetD f_.files p).inode)), (.slice alb52 (((mgetD f_.files p).b).length) clb53)] (by kernel_rfl) Tryd.isAgg156 Tryd.sizeOf156 (k140.2.1.cells' 0 rfl)) (rs_tmp (by kernel_rfl))) ?_
      exact ⟨f_, (mgetD f_.files p), (0 : Int), hp, X57, F152, alb52, clb53, step_of E142 hF0 hS143 hN144, rfl, m153, rlmode49, rltime50, rlinode51, hlb150, (by decide : inR .i64 (0 : Int))⟩

def simfs_FS_Stat_p (f_ : S_simfs_FS) (p : ByteArray) (Q : S_simfs_FS → S_simfs_Stat → Int → Prop) : Prop :=
  ((p.size ≤ maxLen) → (simfs_FS_find_p f_ p (fun (f_19 : S_simfs_FS) (r20 : S_simfs_file) (r21 : Int) => ((inR .i64 r20.mode) → ((inR .i64 r20.time) → ((inR .i64 r20.inode) → ((r20.b.length ≤ 9223372036854775807) → ((inR .i64 r21) → (((¬ (r21 = (0 : Int))) → Q f_19 (S_simfs_Stat.mk (0 : Int) (0 : Int) (0 : Int) (0 : Int)) r21) ∧ ((r21 = (0 : Int)) → Q f_19 (S_simfs_Stat.mk (r20.b.length : Int) r20.time r20.inode r20.mode) (0 : Int)))))))))))
set_option maxRecDepth 20000 in
set_option maxHeartbeats 4000000 in
theorem simfs_FS_Stat_w {X : List Nat} {w : World} {f_ : S_simfs_FS} {p : ByteArray} {bf_1 : Nat} {Ff_2 : List Nat} {Q : S_simfs_FS → S_simfs_Stat → Int → Prop} (hX0 : Old X w) (mf_3 : MO o_simfs_FS 153 Ff_2 w.heap.size X w Ff_2 bf_1 f_) (zp4 : p.size ≤ maxLen) (hp : simfs_FS_Stat_p f_ p Q) :
    Calls Tryd.prog 48 #[(.pointer (some ⟨bf_1, 0, none⟩)), (.string p)] w (Ret fun v w' => ∃ (m0 : S_simfs_FS) (r0 : S_simfs_Stat) (r1 : Int), Q m0 r0 r1 ∧ ∃ (X' : List Nat) (Fm0 : List Nat), Step X w Ff_2 X' w' ∧ v = .tuple #[(.agg #[(.int .i64 r0.Size), (.int .i64 r0.Time), (.int .i64 r0.Inode), (.int .i64 r0.Mode)]), (.int .i64 r1)] ∧ MO o_simfs_FS 153 Ff_2 w.heap.size X' w' Fm0 bf_1 m0 ∧ inR .i64 r0.Size ∧ inR .i64 r0.Time ∧ inR .i64 r0.Inode ∧ inR .i64 r0.Mode ∧ inR .i64 r1) := by
  have hXo := hX0
  have E0 : Evo Ff_2 w w := RB.refl _ _ _
  have hS : Sub X X := Sub.refl _
  have hN : News X w X w := News.refl _ _
  have hF0 : Sub Ff_2 X := MO.mem mf_3
  unfold simfs_FS_Stat_p at hp
  refine enter_ Tryd.func48 rfl 28 [(0, (.pointer (some ⟨bf_1, 0, none⟩))), (1, (.string p))] (by kernel_rfl) (fun Qe hQ => ?_)
  replace hp := hp zp4
  refine seq_ (fun _ K5 => ?_)
  refine reg_ ?_
  refine sq (o_newX [(.int .i64 (0 : Int)), (.int .i64 (0 : Int)), (.int .i64 (0 : Int)), (.int .i64 (0 : Int))] 84 (X := X) (B := w.heap.size) E0.size rfl (by kernel_rfl) ?_)
  intro b6 w7 X8 s9 k10 n11
  have p12 := n11 _ (MO.old mf_3)
  refine sq (o_pv (.int .i64 (0 : Int)) rfl (by kernel_rfl) ?_)
  refine nil_ ?_
  refine then_normal (K5 _ _ _ _ ?_)
  refine seq_ (fun _ K13 => ?_)
  refine reg_ ?_
  refine sq (o_pv (.pointer (some ⟨bf_1, 0, none⟩)) rfl (by kernel_rfl) ?_)
  refine sq (o_pv (.string p) rfl (by kernel_rfl) ?_)
  have mf_14 := (MO.step0 mf_3 s9)
  have hXo15 := (Old.step hXo s9)
  have E16 := (Evo.then0 E0 (Step.evo s9))
  have hS17 := (Sub.trans hS (Step.up s9))
  have hN18 := (News.step hN s9)
  refine sq (o_call 89 #[(.pointer (some ⟨bf_1, 0, none⟩)), (.string p)] rfl (x_call Tryd.call89 (by kernel_rfl)) (simfs_FS_find_w (X := X8) (f_ := f_) (p := p) hXo15 (MO.re mf_14 (Wr.self _ _ (Sub.refl _))) zp4 hp) ?_)
  rintro _ w22 ⟨f_19, r20, r21, hp, X23, F25, arb30, crb31, s24, rfl, m26, rrmode27, rrtime28, rrinode29, hrb32, rr33⟩
  have m34 := MO.re m26 (Wr.trans m26.wr mf_14.wr E16.size)
  have p35 := Ap.grow m26.wr (Ap.symm p12) (OB.old k10) (Nat.le_refl _)
  replace hp := hp rrmode27
  replace hp := hp rrtime28
  replace hp := hp rrinode29
  replace hp := hp (Sl.len hrb32)
  replace hp := hp rr33
  refine sq (o_pv (.tuple #[(.agg #[(.int .i64 r20.mode), (.int .i64 r20.time), (.int .i64 r20.inode), (.slice arb30 r20.b.length crb31)]), (.int .i64 r21)]) rfl (by kernel_rfl) ?_)
  refine sq (o_pv (.agg #[(.int .i64 r20.mode), (.int .i64 r20.time), (.int .i64 r20.inode), (.slice arb30 r20.b.length crb31)]) rfl (by kernel_rfl) ?_)
  refine sq (o_pv (.int .i64 r21) rfl (by kernel_rfl) ?_)
  have k42 := (OB.step k10 s24 (Ap.symm p12))
  have E43 := (Evo.thenW E16 (Step.evo s24) mf_14.wr)
  refine sq (o_newX [(.int .i64 (0 : Int)), (.int .i64 (0 : Int)), (.int .i64 (0 : Int)), (.slice none 0 0)] 156 (X := X23) (B := w.heap.size) E43.size rfl (by kernel_rfl) ?_)
  intro b36 w37 X38 s39 k40 n41
  have p44 := n41 _ (OB.old k42)
  have p45 := n41 _ (MO.old m34)
  have k46 := (OB.step0 k42 s39)
  have m47 := (MO.step0 m34 s39)
  have E48 := (Evo.then0 E43 (Step.evo s39))
  refine sq (o_stB (o := 0) (v := (.agg #[(.int .i64 r20.mode), (.int .i64 r20.time), (.int .i64 r20.inode), (.slice arb30 r20.b.length crb31)])) [(.int .i64 r20.mode), (.int .i64 r20.time), (.int .i64 r20.inode), (.slice arb30 r20.b.length crb31)] rfl k40 (by kernel_rfl) (by kernel_rfl) Tryd.sizeOf156 rfl rfl rfl ?_)
  intro w49 s50 k51
  refine sq (o_pv (.int .i64 r21) rfl (by kernel_rfl) ?_)
  refine nil_ ?_
  refine then_normal (K13 _ _ _ _ ?_)
  refine seq_ (fun _ K52 => ?_)
  refine seq_ (fun _ K53 => ?_)
  refine reg_ ?_
  refine sq (o_pv (.int .i64 r21) rfl (by kernel_rfl) ?_)
  refine sq (o_pv (.bool (!decide (r21 = (0 : Int)))) rfl (by kernel_rfl) ?_)
  refine nil_ ?_
  refine then_normal (K53 _ _ _ _ ?_)
  refine cond_nd (r21 = (0 : Int)) (by kernel_rfl) (fun h54 => ?_) (fun h54 => ?_)
  ·
    replace hp := hp.1 h54
    refine seq_ (fun _ K55 => ?_)
    refine reg_ ?_
    refine sq (o_pv (.agg #[(.int .i64 (0 : Int)), (.int .i64 (0 : Int)), (.int .i64 (0 : Int)), (.int .i64 (0 : Int))]) rfl (by kernel_rfl) ?_)
    refine sq (o_pv (.int .i64 r21) rfl (by kernel_rfl) ?_)
    have k56 := (OB.step k46 s50 p44)
    have m57 := (MO.step m47 s50 p45)
    have E58 := (Evo.thenW E48 (Step.evo s50) (Wr.of k40.2.2))
    refine sq (o_stB (o := 0) (v := (.agg #[(.int .i64 (0 : Int)), (.int .i64 (0 : Int)), (.int .i64 (0 : Int)), (.int .i64 (0 : Int))])) [(.int .i64 (0 : Int)), (.int .i64 (0 : Int)), (.int .i64 (0 : Int)), (.int .i64 (0 : Int))] rfl k56 (by kernel_rfl) (by kernel_rfl) Tryd.sizeOf84 rfl rfl rfl ?_)
    intro w59 s60 k61
    refine sq (o_pv (.int .i64 r21) rfl (by kernel_rfl) ?_)
    refine nil_ ?_
    refine then_normal (K55 _ _ _ _ ?_)
    refine wp_ret ?_
    refine then_ret ?_
    have hXo62 := (Old.step (Old.step (Old.step (Old.step hXo15 s24) s39) s50) s60)
    have E63 := (Evo.thenW E58 (Step.evo s60) (Wr.of k56.2.2))
    have hS64 := (Sub.trans (Sub.trans (Sub.trans (Sub.trans hS17 (Step.up s24)) (Step.up s39)) (Step.up s50)) (Step.up s60))
    have hN65 := (News.step (News.step (News.step (News.step hN18 s24) s39) s50) s60)
    have m66 := (MO.step m57 s60 (Ap.symm p35))
    have hrb67 := (Sl.step (Sl.step (Sl.step hrb32 s39) s50) s60)
    have k68 := (OB.step k51 s60 (Ap.symm p44))
    refine end_ret hQ (.tuple #[(.agg #[(.int .i64 (0 : Int)), (.int .i64 (0 : Int)), (.int .i64 (0 : Int)), (.int .i64 (0 : Int))]), (.int .i64 r21)]) (rs2 Tryd.results48 (rs_agg [(.int .i64 (0 : Int)), (.int .i64 (0 : Int)), (.int .i64 (0 : Int)), (.int .i64 (0 : Int))] (by kernel_rfl) Tryd.isAgg84 Tryd.sizeOf84 (k61.2.1.cells' 0 rfl)) (rs_tmp (by kernel_rfl))) ?_
    exact ⟨f_19, (S_simfs_Stat.mk (0 : Int) (0 : Int) (0 : Int) (0 : Int)), r21, hp, X38, F25, step_of E63 hF0 hS64 hN65, rfl, m66, (by decide : inR .i64 (0 : Int)), (by decide : inR .i64 (0 : Int)), (by decide : inR .i64 (0 : Int)), (by decide : inR .i64 (0 : Int)), rr33⟩
  ·
    replace hp := hp.2 h54
    refine wp_skip ?_
    refine then_normal (K52 _ _ _ _ ?_)
    refine seq_ (fun _ K69 => ?_)
    refine reg_ ?_
    refine sq (o_pv (.pointer (some ⟨b36, 3, none⟩)) rfl (by kernel_rfl) ?_)
    refine sq (o_pv (.slice arb30 r20.b.length crb31) rfl (x_load1 (by kernel_rfl) Tryd.isAgg91 (k51.2.1.cell' 3 rfl)) ?_)
    refine sq (o_pv (.int .i64 (r20.b.length : Int)) rfl (by kernel_rfl) ?_)
    refine sq (o_pv (.pointer (some ⟨b36, 1, none⟩)) rfl (by kernel_rfl) ?_)
    refine sq (o_pv (.int .i64 r20.time) rfl (x_load1 (by kernel_rfl) Tryd.isAgg3 (k51.2.1.cell' 1 rfl)) ?_)
    refine sq (o_pv (.pointer (some ⟨b36, 2, none⟩)) rfl (by kernel_rfl) ?_)
    refine sq (o_pv (.int .i64 r20.inode) rfl (x_load1 (by kernel_rfl) Tryd.isAgg3 (k51.2.1.cell' 2 rfl)) ?_)
    refine sq (o_pv (.pointer (some ⟨b36, 0, none⟩)) rfl (by kernel_rfl) ?_)
    refine sq (o_pv (.int .i64 r20.mode) rfl (x_load1 (by kernel_rfl) Tryd.isAgg3 (k51.2.1.cell' 0 rfl)) ?_)
    refine sq (o_pv (.agg #[(.int .i64 (r20.b.length : Int)), (.int .i64 r20.time), (.int .i64 r20.inode), (.int .i64 r20.mode)]) rfl (by kernel_rfl) ?_)
    have k70 := (OB.step k46 s50 p44)
    have m71 := (MO.step m47 s50 p45)
    have E72 := (Evo.thenW E48 (Step.evo s50) (Wr.of k40.2.2))
    refine sq (o_stB (o := 0) (v := (.agg #[(.int .i64 (r20.b.length : Int)), (.int .i64 r20.time), (.int .i64 r20.inode), (.int .i64 r20.mode)])) [(.int .i64 (r20.b.length : Int)), (.int .i64 r20.time), (.int .i64 r20.inode), (.int .i64 r20.mode)] rfl k70 (by kernel_rfl) (by kernel_rfl) Tryd.sizeOf84 rfl rfl rfl ?_)
    intro w73 s74 k75
    refine sq (o_pv (.int .i64 (0 : Int)) rfl (by kernel_rfl) ?_)
    refine nil_ ?_
    refine then_normal (K69 _ _ _ _ ?_)
    refine wp_ret ?_
    have hXo76 := (Old.step (Old.step (Old.step (Old.step hXo15 s24) s39) s50) s74)
    have E77 := (Evo.thenW E72 (Step.evo s74) (Wr.of k70.2.2))
    have hS78 := (Sub.trans (Sub.trans (Sub.trans (Sub.trans hS17 (Step.up s24)) (Step.up s39)) (Step.up s50)) (Step.up s74))
    have hN79 := (News.step (News.step (News.step (News.step hN18 s24) s39) s50) s74)
    have m80 := (MO.step m71 s74 (Ap.symm p35))
    have hrb81 := (Sl.step (Sl.step (Sl.step hrb32 s39) s50) s74)
    have k82 := (OB.step k51 s74 (Ap.symm p44))
    refine end_ret hQ (.tuple #[(.agg #[(.int .i64 (r20.b.length : Int)), (.int .i64 r20.time), (.int .i64 r20.inode), (.int .i64 r20.mode)]), (.int .i64 (0 : Int))]) (rs2 Tryd.results48 (rs_agg [(.int .i64 (r20.b.length : Int)), (.int .i64 r20.time), (.int .i64 r20.inode), (.int .i64 r20.mode)] (by kernel_rfl) Tryd.isAgg84 Tryd.sizeOf84 (k75.2.1.cells' 0 rfl)) (rs_tmp (by kernel_rfl))) ?_
    exact ⟨f_19, (S_simfs_Stat.mk (r20.b.length : Int) r20.time r20.inode r20.mode), (0 : Int), hp, X38, F25, step_of E77 hF0 hS78 hN79, rfl, m80, (inR_len (Sl.len hrb32)), rrtime28, rrinode29, rrmode27, (by decide : inR .i64 (0 : Int))⟩

def stat_Fresh_p (e : S_index_Entry) (s : S_simfs_Stat) (written : Int) (Q : Bool → Prop) : Prop :=
  ((e.Path.size ≤ maxLen) → ((inR .i64 e.Stage) → ((inR .i64 e.Mode) → ((e.Data.size ≤ maxLen) → ((inR .i64 e.Time) → ((inR .i64 e.Size) → ((inR .i64 s.Size) → ((inR .i64 s.Time) → ((inR .i64 s.Inode) → ((inR .i64 s.Mode) → ((inR .i64 written) → Q (decide ((e.Stage = (0 : Int)) ∧ ((e.Time = s.Time) ∧ ((e.Size = s.Size) ∧ ((e.Mode = s.Mode) ∧ (e.Time < written)))))))))))))))))
set_option maxRecDepth 20000 in
set_option maxHeartbeats 4000000 in
theorem stat_Fresh_w {X : List Nat} {w : World} {e : S_index_Entry} {s : S_simfs_Stat} {written : Int} {Q : Bool → Prop} (hX0 : Old X w) (zePath1 : e.Path.size ≤ maxLen) (reStage2 : inR .i64 e.Stage) (reMode3 : inR .i64 e.Mode) (zeData4 : e.Data.size ≤ maxLen) (reTime5 : inR .i64 e.Time) (reSize6 : inR .i64 e.Size) (rsSize7 : inR .i64 s.Size) (rsTime8 : inR .i64 s.Time) (rsInode9 : inR .i64 s.Inode) (rsMode10 : inR .i64 s.Mode) (rwritten11 : inR .i64 written) (hp : stat_Fresh_p e s written Q) :
    Calls Tryd.prog 42 #[(.agg #[(.string e.Path), (.int .i64 e.Stage), (.int .i64 e.Mode), (.string e.Data), (.int .i64 e.Time), (.int .i64 e.Size)]), (.agg #[(.int .i64 s.Size), (.int .i64 s.Time), (.int .i64 s.Inode), (.int .i64 s.Mode)]), (.int .i64 written)] w (Ret fun v w' => ∃ (r0 : Bool), Q r0 ∧ Evo [] w w' ∧ v = (.bool r0)) := by
  have hXo := hX0
  have E0 : Evo [] w w := RB.refl _ _ _
  have hS : Sub X X := Sub.refl _
  unfold stat_Fresh_p at hp
  refine enter_ Tryd.func42 rfl 37 [(0, (.agg #[(.string e.Path), (.int .i64 e.Stage), (.int .i64 e.Mode), (.string e.Data), (.int .i64 e.Time), (.int .i64 e.Size)])), (1, (.agg #[(.int .i64 s.Size), (.int .i64 s.Time), (.int .i64 s.Inode), (.int .i64 s.Mode)])), (2, (.int .i64 written))] (by kernel_rfl) (fun Qe hQ => ?_)
  replace hp := hp zePath1
  replace hp := hp reStage2
  replace hp := hp reMode3
  replace hp := hp zeData4
  replace hp := hp reTime5
  replace hp := hp reSize6
  replace hp := hp rsSize7
  replace hp := hp rsTime8
  replace hp := hp rsInode9
  replace hp := hp rsMode10
  replace hp := hp rwritten11
  refine seq_ (fun _ K12 => ?_)
  refine reg_ ?_
  refine sq (o_newX [(.string e.Path), (.int .i64 e.Stage), (.int .i64 e.Mode), (.string e.Data), (.int .i64 e.Time), (.int .i64 e.Size)] 82 (X := X) (B := w.heap.size) E0.size rfl (by kernel_rfl) ?_)
  intro b13 w14 X15 s16 k17 n18
  have E25 := (Evo.then0 E0 (Step.evo s16))
  refine sq (o_newX [(.int .i64 s.Size), (.int .i64 s.Time), (.int .i64 s.Inode), (.int .i64 s.Mode)] 84 (X := X15) (B := w.heap.size) E25.size rfl (by kernel_rfl) ?_)
  intro b19 w20 X21 s22 k23 n24
  have p26 := n24 _ (OB.old k17)
  refine sq (o_pv (.bool false) rfl (by kernel_rfl) ?_)
  refine nil_ ?_
  refine then_normal (K12 _ _ _ _ ?_)
  refine seq_ (fun _ K27 => ?_)
  refine ground_ ?_
  refine join_ 137438953408 (fun lq w35 => lq = [(6, (.bool (decide ((e.Stage = (0 : Int)) ∧ ((e.Time = s.Time) ∧ ((e.Size = s.Size) ∧ ((e.Mode = s.Mode) ∧ (e.Time < written))))))))] ∧ w20 = w35) (fun Kj33 hJ34 => ?_) ?_
  ·
    refine reg_ ?_
    refine sq (o_pv (.pointer (some ⟨b13, 1, none⟩)) rfl (by kernel_rfl) ?_)
    have k37 := (OB.step0 k17 s22)
    refine sq (o_pv (.int .i64 e.Stage) rfl (x_load1 (by kernel_rfl) Tryd.isAgg3 (k37.2.1.cell' 1 rfl)) ?_)
    by_cases h38 : e.Stage = (0 : Int)
    ·
      refine sq (o_pv (.bool true) rfl (x_dt (p := e.Stage = (0 : Int)) (by kernel_rfl) h38) ?_)
      refine sq (o_pv (.bool true) rfl (by kernel_rfl) ?_)
      refine sq (o_pv (.pointer (some ⟨b13, 4, none⟩)) (by kernel_rfl) (by kernel_rfl) ?_)
      refine sq (o_pv (.int .i64 e.Time) (by kernel_rfl) (x_load1 (by kernel_rfl) Tryd.isAgg3 (k37.2.1.cell' 4 rfl)) ?_)
      refine sq (o_pv (.pointer (some ⟨b19, 1, none⟩)) (by kernel_rfl) (by kernel_rfl) ?_)
      refine sq (o_pv (.int .i64 s.Time) (by kernel_rfl) (x_load1 (by kernel_rfl) Tryd.isAgg3 (k23.2.1.cell' 1 rfl)) ?_)
      by_cases h39 : e.Time = s.Time
      ·
        refine sq (o_pv (.bool true) (by kernel_rfl) (x_dt (p := e.Time = s.Time) (by kernel_rfl) h39) ?_)
        refine sq (o_pv (.bool true) rfl (by kernel_rfl) ?_)
        refine sq (o_pv (.bool true) rfl (by kernel_rfl) ?_)
        refine sq (o_pv (.pointer (some ⟨b13, 5, none⟩)) (by kernel_rfl) (by kernel_rfl) ?_)
        refine sq (o_pv (.int .i64 e.Size) (by kernel_rfl) (x_load1 (by kernel_rfl) Tryd.isAgg3 (k37.2.1.cell' 5 rfl)) ?_)
        refine sq (o_pv (.pointer (some ⟨b19, 0, none⟩)) (by kernel_rfl) (by kernel_rfl) ?_)
        refine sq (o_pv (.int .i64 s.Size) (by kernel_rfl) (x_load1 (by kernel_rfl) Tryd.isAgg3 (k23.2.1.cell' 0 rfl)) ?_)
        by_cases h40 : e.Size = s.Size
        ·
          refine sq (o_pv (.bool true) (by kernel_rfl) (x_dt (p := e.Size = s.Size) (by kernel_rfl) h40) ?_)
          refine sq (o_pv (.bool true) rfl (by kernel_rfl) ?_)
          refine sq (o_pv (.bool true) rfl (by kernel_rfl) ?_)
          refine sq (o_pv (.pointer (some ⟨b13, 2, none⟩)) (by kernel_rfl) (by kernel_rfl) ?_)
          refine sq (o_pv (.int .i64 e.Mode) (by kernel_rfl) (x_load1 (by kernel_rfl) Tryd.isAgg3 (k37.2.1.cell' 2 rfl)) ?_)
          refine sq (o_pv (.pointer (some ⟨b19, 3, none⟩)) (by kernel_rfl) (by kernel_rfl) ?_)
          refine sq (o_pv (.int .i64 s.Mode) (by kernel_rfl) (x_load1 (by kernel_rfl) Tryd.isAgg3 (k23.2.1.cell' 3 rfl)) ?_)
          by_cases h41 : e.Mode = s.Mode
          ·
            refine sq (o_pv (.bool true) (by kernel_rfl) (x_dt (p := e.Mode = s.Mode) (by kernel_rfl) h41) ?_)
            refine sq (o_pv (.bool true) rfl (by kernel_rfl) ?_)
            refine sq (o_pv (.bool true) rfl (by kernel_rfl) ?_)
            refine sq (o_pv (.pointer (some ⟨b13, 4, none⟩)) (by kernel_rfl) (by kernel_rfl) ?_)
            refine sq (o_pv (.int .i64 e.Time) (by kernel_rfl) (x_load1 (by kernel_rfl) Tryd.isAgg3 (k37.2.1.cell' 4 rfl)) ?_)
            refine sq (o_pv (.int .i64 written) (by kernel_rfl) (by kernel_rfl) ?_)
            refine sq (o_pv (.bool (decide (e.Time < written))) (by kernel_rfl) (by kernel_rfl) ?_)
            refine sq (o_pv (.bool (decide (e.Time < written))) rfl (by kernel_rfl) ?_)
            refine sq (o_pv (.bool (decide (e.Time < written))) rfl (by kernel_rfl) ?_)
            refine nil_ ?_
            refine then_normal (hJ34 _ _ _ ⟨[(6, (.bool (decide ((e.Stage = (0 : Int)) ∧ ((e.Time = s.Time) ∧ ((e.Size = s.Size) ∧ ((e.Mode = s.Mode) ∧ (e.Time < written))))))))], fit_mk (fun _ _ => rfl) (by kernel_rfl) (vs_cons (Eq.trans (b := (.bool (decide (e.Time < written)))) (by kernel_rfl) (dec_d ((and_iff_right h38).trans ((and_iff_right h39).trans ((and_iff_right h40).trans ((and_iff_right h41).trans Iff.rfl))))).symm) vs_nil), rfl, rfl⟩)
          ·
            refine sq (o_pv (.bool false) (by kernel_rfl) (x_df (p := e.Mode = s.Mode) (by kernel_rfl) h41) ?_)
            refine sq (o_pv (.bool false) rfl (by kernel_rfl) ?_)
            refine sq (o_pv (.bool false) rfl (by kernel_rfl) ?_)
            refine sq (o_not (by kernel_rfl) ?_)
            refine sq (o_not (by kernel_rfl) ?_)
            refine sq (o_not (by kernel_rfl) ?_)
            refine sq (o_not (by kernel_rfl) ?_)
            refine sq (o_pv (.bool false) rfl (by kernel_rfl) ?_)
            refine sq (o_pv (.bool false) rfl (by kernel_rfl) ?_)
            refine nil_ ?_
            refine then_normal (hJ34 _ _ _ ⟨[(6, (.bool (decide ((e.Stage = (0 : Int)) ∧ ((e.Time = s.Time) ∧ ((e.Size = s.Size) ∧ ((e.Mode = s.Mode) ∧ (e.Time < written))))))))], fit_mk (fun _ _ => rfl) (by kernel_rfl) (vs_cons (Eq.trans (b := (.bool false)) (by kernel_rfl) (dec_f ((and_iff_right h38).trans ((and_iff_right h39).trans ((and_iff_right h40).trans (iff_false_intro (fun h => h41 h.1)))))).symm) vs_nil), rfl, rfl⟩)
        ·
          refine sq (o_pv (.bool false) (by kernel_rfl) (x_df (p := e.Size = s.Size) (by kernel_rfl) h40) ?_)
          refine sq (o_pv (.bool false) rfl (by kernel_rfl) ?_)
          refine sq (o_pv (.bool false) rfl (by kernel_rfl) ?_)
          refine sq (o_not (by kernel_rfl) ?_)
          refine sq (o_not (by kernel_rfl) ?_)
          refine sq (o_not (by kernel_rfl) ?_)
          refine sq (o_not (by kernel_rfl) ?_)
          refine sq (o_not (by kernel_rfl) ?_)
          refine sq (o_pv (.bool false) rfl (by kernel_rfl) ?_)
          refine sq (o_pv (.bool false) rfl (by kernel_rfl) ?_)
          refine sq (o_not (by kernel_rfl) ?_)
          refine sq (o_not (by kernel_rfl) ?_)
          refine sq (o_not (by kernel_rfl) ?_)
          refine sq (o_not (by kernel_rfl) ?_)
          refine sq (o_pv (.bool false) rfl (by kernel_rfl) ?_)
          refine sq (o_pv (.bool false) rfl (by kernel_rfl) ?_)
          refine nil_ ?_
          refine then_normal (hJ34 _ _ _ ⟨[(6, (.bool (decide ((e.Stage = (0 : Int)) ∧ ((e.Time = s.Time) ∧ ((e.Size = s.Size) ∧ ((e.Mode = s.Mode) ∧ (e.Time < written))))))))], fit_mk (fun _ _ => rfl) (by kernel_rfl) (vs_cons (Eq.trans (b := (.bool false)) (by kernel_rfl) (dec_f ((and_iff_right h38).trans ((and_iff_right h39).trans (iff_false_intro (fun h => h40 h.1))))).symm) vs_nil), rfl, rfl⟩)
      ·
        refine sq (o_pv (.bool false) (by kernel_rfl) (x_df (p := e.Time = s.Time) (by kernel_rfl) h39) ?_)
        refine sq (o_pv (.bool false) rfl (by kernel_rfl) ?_)
        refine sq (o_pv (.bool false) rfl (by kernel_rfl) ?_)
        refine sq (o_not (by kernel_rfl) ?_)
        refine sq (o_not (by kernel_rfl) ?_)
        refine sq (o_not (by kernel_rfl) ?_)
        refine sq (o_not (by kernel_rfl) ?_)
        refine sq (o_not (by kernel_rfl) ?_)
        refine sq (o_pv (.bool false) rfl (by kernel_rfl) ?_)
        refine sq (o_pv (.bool false) rfl (by kernel_rfl) ?_)
        refine sq (o_not (by kernel_rfl) ?_)
        refine sq (o_not (by kernel_rfl) ?_)
        refine sq (o_not (by kernel_rfl) ?_)
        refine sq (o_not (by kernel_rfl) ?_)
        refine sq (o_not (by kernel_rfl) ?_)
        refine sq (o_pv (.bool false) rfl (by kernel_rfl) ?_)
        refine sq (o_pv (.bool false) rfl (by kernel_rfl) ?_)
        refine sq (o_not (by kernel_rfl) ?_)
        refine sq (o_not (by kernel_rfl) ?_)
        refine sq (o_not (by kernel_rfl) ?_)
        refine sq (o_not (by kernel_rfl) ?_)
        refine sq (o_pv (.bool false) rfl (by kernel_rfl) ?_)
        refine sq (o_pv (.bool false) rfl (by kernel_rfl) ?_)
        refine nil_ ?_
        refine then_normal (hJ34 _ _ _ ⟨[(6, (.bool (decide ((e.Stage = (0 : Int)) ∧ ((e.Time = s.Time) ∧ ((e.Size = s.Size) ∧ ((e.Mode = s.Mode) ∧ (e.Time < written))))))))], fit_mk (fun _ _ => rfl) (by kernel_rfl) (vs_cons (Eq.trans (b := (.bool false)) (by kernel_rfl) (dec_f ((and_iff_right h38).trans (iff_false_intro (fun h => h39 h.1)))).symm) vs_nil), rfl, rfl⟩)
    ·
      refine sq (o_pv (.bool false) rfl (x_df (p := e.Stage = (0 : Int)) (by kernel_rfl) h38) ?_)
      refine sq (o_pv (.bool false) rfl (by kernel_rfl) ?_)
      refine sq (o_not (by kernel_rfl) ?_)
      refine sq (o_not (by kernel_rfl) ?_)
      refine sq (o_not (by kernel_rfl) ?_)
      refine sq (o_not (by kernel_rfl) ?_)
      refine sq (o_not (by kernel_rfl) ?_)
      refine sq (o_pv (.bool false) rfl (by kernel_rfl) ?_)
      refine sq (o_pv (.bool false) rfl (by kernel_rfl) ?_)
      refine sq (o_not (by kernel_rfl) ?_)
      refine sq (o_not (by kernel_rfl) ?_)
      refine sq (o_not (by kernel_rfl) ?_)
      refine sq (o_not (by kernel_rfl) ?_)
      refine sq (o_not (by kernel_rfl) ?_)
      refine sq (o_pv (.bool false) rfl (by kernel_rfl) ?_)
      refine sq (o_pv (.bool false) rfl (by kernel_rfl) ?_)
      refine sq (o_not (by kernel_rfl) ?_)
      refine sq (o_not (by kernel_rfl) ?_)
      refine sq (o_not (by kernel_rfl) ?_)
      refine sq (o_not (by kernel_rfl) ?_)
      refine sq (o_not (by kernel_rfl) ?_)
      refine sq (o_pv (.bool false) rfl (by kernel_rfl) ?_)
      refine sq (o_pv (.bool false) rfl (by kernel_rfl) ?_)
      refine sq (o_not (by kernel_rfl) ?_)
      refine sq (o_not (by kernel_rfl) ?_)
      refine sq (o_not (by kernel_rfl) ?_)
      refine sq (o_not (by kernel_rfl) ?_)
      refine sq (o_pv (.bool false) rfl (by kernel_rfl) ?_)
      refine sq (o_pv (.bool false) rfl (by kernel_rfl) ?_)
      refine nil_ ?_
      refine then_normal (hJ34 _ _ _ ⟨[(6, (.bool (decide ((e.Stage = (0 : Int)) ∧ ((e.Time = s.Time) ∧ ((e.Size = s.Size) ∧ ((e.Mode = s.Mode) ∧ (e.Time < written))))))))], fit_mk (fun _ _ => rfl) (by kernel_rfl) (vs_cons (Eq.trans (b := (.bool false)) (by kernel_rfl) (dec_f (iff_false_intro (fun h => h38 h.1))).symm) vs_nil), rfl, rfl⟩)
  ·
    rintro _ w35 g36 ⟨rfl, hw⟩
    subst hw
    refine then_normal (K27 _ _ _ _ ?_)
    refine wp_ret ?_
    have E42 := (Evo.then0 E25 (Step.evo s22))
    refine end_ret hQ (.bool (decide ((e.Stage = (0 : Int)) ∧ ((e.Time = s.Time) ∧ ((e.Size = s.Size) ∧ ((e.Mode = s.Mode) ∧ (e.Time < written))))))) (by kernel_rfl) ?_
    exact ⟨(decide ((e.Stage = (0 : Int)) ∧ ((e.Time = s.Time) ∧ ((e.Size = s.Size) ∧ ((e.Mode = s.Mode) ∧ (e.Time < written)))))), hp, E42, rfl⟩

def slices_Clip_byte_byte_p (s : (List Int)) (Q : (List Int) → Prop) : Prop :=
  ((s.length ≤ 9223372036854775807) → ((0 ≤ (s.length : Int) ∧ (s.length : Int) ≤ (s.length : Int)) ∧ Q s))
set_option maxRecDepth 20000 in
set_option maxHeartbeats 4000000 in
theorem slices_Clip_byte_byte_w {X : List Nat} {w : World} {s : (List Int)} {as1 : Option Addr} {cs2 : Nat} {Q : (List Int) → Prop} (hX0 : Old X w) (hs3 : Sl (rInt .u8) X w as1 cs2 s) (hp : slices_Clip_byte_byte_p s Q) :
    Calls Tryd.prog 125 #[(.slice as1 s.length cs2)] w (Ret fun v w' => ∃ (r0 : (List Int)), Q r0 ∧ Evo [] w w' ∧ ∃ (aq01 : Option Addr), v = (.slice aq01 r0.length r0.length) ∧ Sl (rInt .u8) X w' aq01 r0.length r0) := by
  have hXo := hX0
  have E0 : Evo [] w w := RB.refl _ _ _
  have hS : Sub X X := Sub.refl _
  unfold slices_Clip_byte_byte_p at hp
  refine enter_ Tryd.func125 rfl 9 [(0, (.slice as1 s.length cs2))] (by kernel_rfl) (fun Qe hQ => ?_)
  replace hp := hp (Sl.len hs3)
  refine seq_ (fun _ K4 => ?_)
  refine reg_ ?_
  refine sq (o_pv (.slice none 0 0) rfl (by kernel_rfl) ?_)
  refine nil_ ?_
  refine then_normal (K4 _ _ _ _ ?_)
  refine seq_ (fun _ K5 => ?_)
  refine reg_ ?_
  refine sq (o_pv (.slice as1 s.length cs2) rfl (by kernel_rfl) ?_)
  refine sq (o_pv (.slice as1 s.length cs2) rfl (by kernel_rfl) ?_)
  refine sq (o_pv (.int .i64 (s.length : Int)) rfl (by kernel_rfl) ?_)
  refine sq (o_pv (.slice as1 s.length cs2) rfl (by kernel_rfl) ?_)
  refine sq (o_pv (.int .i64 (s.length : Int)) rfl (by kernel_rfl) ?_)
  obtain ⟨h9, hp⟩ := hp
  refine sq (o_slice3F (R := (rInt .u8)) (k := .i64) (k' := .i64) (X := X) (L := s) (s.length : Int) Tryd.underlying91 Tryd.sizeOf5 hs3 (by kernel_rfl) rfl rfl (by kernel_rfl) (by kernel_rfl) h9 ?_)
  intro a6 h8
  rw [take_len] at h8
  rw [take_len]
  refine sq (o_pv (.slice a6 s.length s.length) rfl (by kernel_rfl) ?_)
  refine nil_ ?_
  refine then_normal (K5 _ _ _ _ ?_)
  refine wp_ret ?_
  refine end_ret hQ (.slice a6 s.length s.length) (by kernel_rfl) ?_
  exact ⟨s, hp, E0, a6, rfl, (Sl.less h8 hS)⟩
theorem slices_Clip_byte_byte_keep {w : World} {a : Option Addr} {m c : Nat} (hmc : m ≤ c) : Calls Tryd.prog 125 #[(.slice a m c)] w (Ret fun v w' => v = (.slice a m m) ∧ w' = w) := by
  refine enter_ Tryd.func125 rfl 9 [(0, (.slice a m c))] (by kernel_rfl) (fun Qe hQ => ?_)
  refine seq_ (fun _ K4 => ?_)
  refine reg_ ?_
  refine sq (o_pv (.slice none 0 0) rfl (by kernel_rfl) ?_)
  refine nil_ ?_
  refine then_normal (K4 _ _ _ _ ?_)
  refine seq_ (fun _ K5 => ?_)
  refine reg_ ?_
  refine sq (o_pv (.slice a m c) rfl (by kernel_rfl) ?_)
  refine sq (o_pv (.slice a m c) rfl (by kernel_rfl) ?_)
  refine sq (o_pv (.int .i64 (m : Int)) rfl (by kernel_rfl) ?_)
  refine sq (o_pv (.slice a m c) rfl (by kernel_rfl) ?_)
  refine sq (o_pv (.int .i64 (m : Int)) rfl (by kernel_rfl) ?_)
  refine sq (o_slice3K (a := a) (m := m) (c := c) (k := .i64) (k' := .i64) Tryd.underlying91 Tryd.sizeOf5 (by kernel_rfl) hmc rfl (by kernel_rfl) (by kernel_rfl) ?_)
  refine sq (o_pv (.slice a m m) rfl (by kernel_rfl) ?_)
  refine nil_ ?_
  refine then_normal (K5 _ _ _ _ ?_)
  refine wp_ret ?_
  refine end_ret hQ (.slice a m m) (by kernel_rfl) ?_
  exact ⟨rfl, rfl⟩

def simfs_FS_Read_p (f_ : S_simfs_FS) (p : ByteArray) (Q : S_simfs_FS → (List Int) → Int → Prop) : Prop :=
  ((p.size ≤ maxLen) → (simfs_FS_find_p f_ p (fun (f_7 : S_simfs_FS) (r8 : S_simfs_file) (r9 : Int) => ((inR .i64 r8.mode) → ((inR .i64 r8.time) → ((inR .i64 r8.inode) → ((r8.b.length ≤ 9223372036854775807) → ((inR .i64 r9) → (((¬ (r9 = (0 : Int))) → Q f_7 ([] : List Int) r9) ∧ ((r9 = (0 : Int)) → (slices_Clone_byte_byte_p r8.b (fun (r49 : (List Int)) => ((r49.length ≤ 9223372036854775807) → (slices_Clip_byte_byte_p r49 (fun (r76 : (List Int)) => ((r76.length ≤ 9223372036854775807) → Q f_7 r76 (0 : Int)))))))))))))))))
set_option maxRecDepth 20000 in
set_option maxHeartbeats 4000000 in
theorem simfs_FS_Read_w {X : List Nat} {w : World} {f_ : S_simfs_FS} {p : ByteArray} {bf_1 : Nat} {Ff_2 : List Nat} {Q : S_simfs_FS → (List Int) → Int → Prop} (hX0 : Old X w) (mf_3 : MO o_simfs_FS 153 Ff_2 w.heap.size X w Ff_2 bf_1 f_) (zp4 : p.size ≤ maxLen) (hp : simfs_FS_Read_p f_ p Q) :
    Calls Tryd.prog 112 #[(.pointer (some ⟨bf_1, 0, none⟩)), (.string p)] w (Ret fun v w' => ∃ (m0 : S_simfs_FS) (r0 : (List Int)) (r1 : Int), Q m0 r0 r1 ∧ ∃ (X' : List Nat) (Fm0 : List Nat) (aq01 : Option Addr) (cq02 : Nat), Step X w Ff_2 X' w' ∧ v = .tuple #[(.slice aq01 r0.length cq02), (.int .i64 r1)] ∧ MO o_simfs_FS 153 Ff_2 w.heap.size X' w' Fm0 bf_1 m0 ∧ Sl (rInt .u8) X' w' aq01 cq02 r0 ∧ inR .i64 r1) := by
  have hXo := hX0
  have E0 : Evo Ff_2 w w := RB.refl _ _ _
  have hS : Sub X X := Sub.refl _
  have hN : News X w X w := News.refl _ _
  have hF0 : Sub Ff_2 X := MO.mem mf_3
  unfold simfs_FS_Read_p at hp
  refine enter_ Tryd.func112 rfl 21 [(0, (.pointer (some ⟨bf_1, 0, none⟩))), (1, (.string p))] (by kernel_rfl) (fun Qe hQ => ?_)
  replace hp := hp zp4
  refine seq_ (fun _ K5 => ?_)
  refine reg_ ?_
  refine sq (o_pv (.slice none 0 0) rfl (by kernel_rfl) ?_)
  refine sq (o_pv (.int .i64 (0 : Int)) rfl (by kernel_rfl) ?_)
  refine nil_ ?_
  refine then_normal (K5 _ _ _ _ ?_)
  refine seq_ (fun _ K6 => ?_)
  refine reg_ ?_
  refine sq (o_pv (.pointer (some ⟨bf_1, 0, none⟩)) rfl (by kernel_rfl) ?_)
  refine sq (o_pv (.string p) rfl (by kernel_rfl) ?_)
  refine sq (o_call 89 #[(.pointer (some ⟨bf_1, 0, none⟩)), (.string p)] rfl (x_call Tryd.call89 (by kernel_rfl)) (simfs_FS_find_w (X := X) (f_ := f_) (p := p) hXo (MO.re mf_3 (Wr.self _ _ (Sub.refl _))) zp4 hp) ?_)
  rintro _ w10 ⟨f_7, r8, r9, hp, X11, F13, arb18, crb19, s12, rfl, m14, rrmode15, rrtime16, rrinode17, hrb20, rr21⟩
  have m22 := MO.re m14 (Wr.trans m14.wr mf_3.wr E0.size)
  replace hp := hp rrmode15
  replace hp := hp rrtime16
  replace hp := hp rrinode17
  replace hp := hp (Sl.len hrb20)
  replace hp := hp rr21
  refine sq (o_pv (.tuple #[(.agg #[(.int .i64 r8.mode), (.int .i64 r8.time), (.int .i64 r8.inode), (.slice arb18 r8.b.length crb19)]), (.int .i64 r9)]) rfl (by kernel_rfl) ?_)
  refine sq (o_pv (.agg #[(.int .i64 r8.mode), (.int .i64 r8.time), (.int .i64 r8.inode), (.slice arb18 r8.b.length crb19)]) rfl (by kernel_rfl) ?_)
  refine sq (o_pv (.int .i64 r9) rfl (by kernel_rfl) ?_)
  have E29 := (Evo.thenW E0 (Step.evo s12) mf_3.wr)
  refine sq (o_newX [(.int .i64 (0 : Int)), (.int .i64 (0 : Int)), (.int .i64 (0 : Int)), (.slice none 0 0)] 156 (X := X11) (B := w.heap.size) E29.size rfl (by kernel_rfl) ?_)
  intro b23 w24 X25 s26 k27 n28
  have p30 := n28 _ (MO.old m22)
  have m31 := (MO.step0 m22 s26)
  have E32 := (Evo.then0 E29 (Step.evo s26))
  refine sq (o_stB (o := 0) (v := (.agg #[(.int .i64 r8.mode), (.int .i64 r8.time), (.int .i64 r8.inode), (.slice arb18 r8.b.length crb19)])) [(.int .i64 r8.mode), (.int .i64 r8.time), (.int .i64 r8.inode), (.slice arb18 r8.b.length crb19)] rfl k27 (by kernel_rfl) (by kernel_rfl) Tryd.sizeOf156 rfl rfl rfl ?_)
  intro w33 s34 k35
  refine sq (o_pv (.int .i64 r9) rfl (by kernel_rfl) ?_)
  refine nil_ ?_
  refine then_normal (K6 _ _ _ _ ?_)
  refine seq_ (fun _ K36 => ?_)
  refine seq_ (fun _ K37 => ?_)
  refine reg_ ?_
  refine sq (o_pv (.int .i64 r9) rfl (by kernel_rfl) ?_)
  refine sq (o_pv (.bool (!decide (r9 = (0 : Int)))) rfl (by kernel_rfl) ?_)
  refine nil_ ?_
  refine then_normal (K37 _ _ _ _ ?_)
  refine cond_nd (r9 = (0 : Int)) (by kernel_rfl) (fun h38 => ?_) (fun h38 => ?_)
  ·
    replace hp := hp.1 h38
    refine seq_ (fun _ K39 => ?_)
    refine reg_ ?_
    refine sq (o_pv (.int .i64 r9) rfl (by kernel_rfl) ?_)
    refine sq (o_pv (.slice none 0 0) rfl (by kernel_rfl) ?_)
    refine sq (o_pv (.int .i64 r9) rfl (by kernel_rfl) ?_)
    refine nil_ ?_
    refine then_normal (K39 _ _ _ _ ?_)
    refine wp_ret ?_
    refine then_ret ?_
    have hXo40 := (Old.step (Old.step (Old.step hXo s12) s26) s34)
    have E41 := (Evo.thenW E32 (Step.evo s34) (Wr.of k27.2.2))
    have hS42 := (Sub.trans (Sub.trans (Sub.trans hS (Step.up s12)) (Step.up s26)) (Step.up s34))
    have hN43 := (News.step (News.step (News.step hN s12) s26) s34)
    have m44 := (MO.step m31 s34 p30)
    have hrb45 := (Sl.step (Sl.step hrb20 s26) s34)
    refine end_ret hQ (.tuple #[(.slice none 0 0), (.int .i64 r9)]) (by kernel_rfl) ?_
    exact ⟨f_7, ([] : List Int), r9, hp, X25, F13, none, 0, step_of E41 hF0 hS42 hN43, rfl, m44, Sl.nil, rr21⟩
  ·
    replace hp := hp.2 h38
    refine wp_skip ?_
    refine then_normal (K36 _ _ _ _ ?_)
    refine seq_ (fun _ K46 => ?_)
    refine reg_ ?_
    refine sq (o_pv (.pointer (some ⟨b23, 3, none⟩)) rfl (by kernel_rfl) ?_)
    refine sq (o_pv (.slice arb18 r8.b.length crb19) rfl (x_load1 (by kernel_rfl) Tryd.isAgg91 (k35.2.1.cell' 3 rfl)) ?_)
    have hrb47 := (Sl.step (Sl.step hrb20 s26) s34)
    have hXo48 := (Old.step (Old.step (Old.step hXo s12) s26) s34)
    have m56 := (MO.step m31 s34 p30)
    refine sq (o_call 92 #[(.slice arb18 r8.b.length crb19)] rfl (x_call Tryd.call92 (by kernel_rfl)) (slices_Clone_byte_byte_w (X := X25) (s := r8.b) hXo48 (Sl.sq hrb47) hp) ?_)
    rintro _ w50 ⟨r49, hp, e51, a53, c54, rfl, O55⟩
    have E60 := (Evo.thenW E32 (Step.evo s34) (Wr.of k27.2.2))
    obtain ⟨X57, s52, O58, n59⟩ := OS.own_in O55 e51 E60.size
    have p61 := n59 _ (MO.old m56)
    have p62 := n59 _ (OB.old k35)
    replace hp := hp (OS.len O58)
    have hS63 := (Sub.trans (Sub.trans (Sub.trans (Sub.trans hS (Step.up s12)) (Step.up s26)) (Step.up s34)) (Step.up s52))
    have hXo69 := (Old.step hXo48 s52)
    have E70 := (Evo.then0 E60 (Step.evo s52))
    have hN71 := (News.step (News.step (News.step (News.step hN s12) s26) s34) s52)
    have m72 := (MO.step0 m56 s52)
    have hrb73 := (Sl.step hrb47 s52)
    have k74 := (OB.step0 k35 s52)
    have ax68 := OS.apold O58 hX0
    obtain ⟨X64, u65, r66, hm67⟩ := OS.release O58
    have hXo75 := (Old.less hXo69 u65)
    refine sq (o_call 125 #[(.slice a53 r49.length c54)] rfl (x_call Tryd.call125 (by kernel_rfl)) (slices_Clip_byte_byte_w (X := X64) (s := r49) hXo75 r66 hp) ?_)
    rintro _ w77 ⟨r76, hp, e78, ar80, rfl, hr81⟩
    have s79 := Step.of0 X64 e78
    replace hp := hp (Sl.len hr81)
    refine sq (o_pv (.slice ar80 r76.length r76.length) rfl (by kernel_rfl) ?_)
    refine sq (o_pv (.int .i64 (0 : Int)) rfl (by kernel_rfl) ?_)
    refine nil_ ?_
    refine then_normal (K46 _ _ _ _ ?_)
    refine wp_ret ?_
    have hXo82 := (Old.step hXo75 s79)
    have E83 := (Evo.then0 E70 e78)
    have hS84 := (Sub.trans (hm67 _ ax68 hS63) (Step.up s79))
    have hN85 := (News.step (News.less hN71 u65) s79)
    have m86 := (MO.step0 (MO.less m72 u65 (hm67 _ p61 (MO.mem m72))) s79)
    have hrb87 := (Sl.step (Sl.less hrb73 u65) s79)
    have k88 := (OB.step0 (OB.less k74 (hm67 _ p62 (OB.mem k74))) s79)
    have r89 := (Sl.step r66 s79)
    refine end_ret hQ (.tuple #[(.slice ar80 r76.length r76.length), (.int .i64 (0 : Int))]) (by kernel_rfl) ?_
    exact ⟨f_7, r76, (0 : Int), hp, X64, F13, ar80, r76.length, step_of E83 hF0 hS84 hN85, rfl, m86, hr81, (by decide : inR .i64 (0 : Int))⟩

def stat_look_p (f_ : S_simfs_FS) (e : S_index_Entry) (written : Int) (Q : S_simfs_FS → Bool → Bool → Int → Prop) : Prop :=
  ((e.Path.size ≤ maxLen) → ((inR .i64 e.Stage) → ((inR .i64 e.Mode) → ((e.Data.size ≤ maxLen) → ((inR .i64 e.Time) → ((inR .i64 e.Size) → ((inR .i64 written) → (simfs_FS_Stat_p f_ e.Path (fun (f_25 : S_simfs_FS) (r26 : S_simfs_Stat) (r27 : Int) => ((inR .i64 r26.Size) → ((inR .i64 r26.Time) → ((inR .i64 r26.Inode) → ((inR .i64 r26.Mode) → ((inR .i64 r27) → (((r27 = (13 : Int)) → Q f_25 false false r27) ∧ ((¬ (r27 = (13 : Int))) → ((((¬ (r27 = (0 : Int))) ∨ (¬ (r26.Mode = e.Mode))) → Q f_25 true false (0 : Int)) ∧ ((¬ ((¬ (r27 = (0 : Int))) ∨ (¬ (r26.Mode = e.Mode)))) → (stat_Fresh_p e r26 written (fun (r85 : Bool) => (((r85 = true) → Q f_25 false false (0 : Int)) ∧ ((r85 = false) → (simfs_FS_Read_p f_25 e.Path (fun (f_106 : S_simfs_FS) (r107 : (List Int)) (r108 : Int) => ((r107.length ≤ 9223372036854775807) → ((inR .i64 r108) → Q f_106 (!decide ((strOfNums r107 : ByteArray) = e.Data)) true r108))))))))))))))))))))))))))
set_option maxRecDepth 20000 in
set_option maxHeartbeats 4000000 in
theorem stat_look_w {X : List Nat} {w : World} {f_ : S_simfs_FS} {e : S_index_Entry} {written : Int} {bf_1 : Nat} {Ff_2 : List Nat} {Q : S_simfs_FS → Bool → Bool → Int → Prop} (hX0 : Old X w) (mf_3 : MO o_simfs_FS 153 Ff_2 w.heap.size X w Ff_2 bf_1 f_) (zePath4 : e.Path.size ≤ maxLen) (reStage5 : inR .i64 e.Stage) (reMode6 : inR .i64 e.Mode) (zeData7 : e.Data.size ≤ maxLen) (reTime8 : inR .i64 e.Time) (reSize9 : inR .i64 e.Size) (rwritten10 : inR .i64 written) (hp : stat_look_p f_ e written Q) :
    Calls Tryd.prog 91 #[(.pointer (some ⟨bf_1, 0, none⟩)), (.agg #[(.string e.Path), (.int .i64 e.Stage), (.int .i64 e.Mode), (.string e.Data), (.int .i64 e.Time), (.int .i64 e.Size)]), (.int .i64 written)] w (Ret fun v w' => ∃ (m0 : S_simfs_FS) (r0 : Bool) (r1 : Bool) (r2 : Int), Q m0 r0 r1 r2 ∧ ∃ (X' : List Nat) (Fm0 : List Nat), Step X w Ff_2 X' w' ∧ v = .tuple #[(.bool r0), (.bool r1), (.int .i64 r2)] ∧ MO o_simfs_FS 153 Ff_2 w.heap.size X' w' Fm0 bf_1 m0 ∧ inR .i64 r2) := by
  have hXo := hX0
  have E0 : Evo Ff_2 w w := RB.refl _ _ _
  have hS : Sub X X := Sub.refl _
  have hN : News X w X w := News.refl _ _
  have hF0 : Sub Ff_2 X := MO.mem mf_3
  unfold stat_look_p at hp
  refine enter_ Tryd.func91 rfl 50 [(0, (.pointer (some ⟨bf_1, 0, none⟩))), (1, (.agg #[(.string e.Path), (.int .i64 e.Stage), (.int .i64 e.Mode), (.string e.Data), (.int .i64 e.Time), (.int .i64 e.Size)])), (2, (.int .i64 written))] (by kernel_rfl) (fun Qe hQ => ?_)
  replace hp := hp zePath4
  replace hp := hp reStage5
  replace hp := hp reMode6
  replace hp := hp zeData7
  replace hp := hp reTime8
  replace hp := hp reSize9
  replace hp := hp rwritten10
  refine seq_ (fun _ K11 => ?_)
  refine reg_ ?_
  refine sq (o_newX [(.string e.Path), (.int .i64 e.Stage), (.int .i64 e.Mode), (.string e.Data), (.int .i64 e.Time), (.int .i64 e.Size)] 82 (X := X) (B := w.heap.size) E0.size rfl (by kernel_rfl) ?_)
  intro b12 w13 X14 s15 k16 n17
  have p18 := n17 _ (MO.old mf_3)
  refine sq (o_pv (.bool false) rfl (by kernel_rfl) ?_)
  refine sq (o_pv (.bool false) rfl (by kernel_rfl) ?_)
  refine sq (o_pv (.int .i64 (0 : Int)) rfl (by kernel_rfl) ?_)
  refine nil_ ?_
  refine then_normal (K11 _ _ _ _ ?_)
  refine seq_ (fun _ K19 => ?_)
  refine reg_ ?_
  refine sq (o_pv (.pointer (some ⟨bf_1, 0, none⟩)) rfl (by kernel_rfl) ?_)
  refine sq (o_pv (.pointer (some ⟨b12, 0, none⟩)) rfl (by kernel_rfl) ?_)
  refine sq (o_pv (.string e.Path) rfl (x_load1 (by kernel_rfl) Tryd.isAgg9 (k16.2.1.cell' 0 rfl)) ?_)
  have mf_20 := (MO.step0 mf_3 s15)
  have hXo21 := (Old.step hXo s15)
  have E22 := (Evo.then0 E0 (Step.evo s15))
  have hS23 := (Sub.trans hS (Step.up s15))
  have hN24 := (News.step hN s15)
  refine sq (o_call 48 #[(.pointer (some ⟨bf_1, 0, none⟩)), (.string e.Path)] rfl (x_call Tryd.call48 (by kernel_rfl)) (simfs_FS_Stat_w (X := X14) (f_ := f_) (p := e.Path) hXo21 (MO.re mf_20 (Wr.self _ _ (Sub.refl _))) zePath4 hp) ?_)
  rintro _ w28 ⟨f_25, r26, r27, hp, X29, F31, s30, rfl, m32, rrSize33, rrTime34, rrInode35, rrMode36, rr37⟩
  have m38 := MO.re m32 (Wr.trans m32.wr mf_20.wr E22.size)
  have p39 := Ap.grow m32.wr (Ap.symm p18) (OB.old k16) (Nat.le_refl _)
  replace hp := hp rrSize33
  replace hp := hp rrTime34
  replace hp := hp rrInode35
  replace hp := hp rrMode36
  replace hp := hp rr37
  refine sq (o_pv (.tuple #[(.agg #[(.int .i64 r26.Size), (.int .i64 r26.Time), (.int .i64 r26.Inode), (.int .i64 r26.Mode)]), (.int .i64 r27)]) rfl (by kernel_rfl) ?_)
  refine sq (o_pv (.agg #[(.int .i64 r26.Size), (.int .i64 r26.Time), (.int .i64 r26.Inode), (.int .i64 r26.Mode)]) rfl (by kernel_rfl) ?_)
  refine sq (o_pv (.int .i64 r27) rfl (by kernel_rfl) ?_)
  have k46 := (OB.step k16 s30 (Ap.symm p18))
  have E47 := (Evo.thenW E22 (Step.evo s30) mf_20.wr)
  refine sq (o_newX [(.int .i64 (0 : Int)), (.int .i64 (0 : Int)), (.int .i64 (0 : Int)), (.int .i64 (0 : Int))] 84 (X := X29) (B := w.heap.size) E47.size rfl (by kernel_rfl) ?_)
  intro b40 w41 X42 s43 k44 n45
  have p48 := n45 _ (OB.old k46)
  have p49 := n45 _ (MO.old m38)
  have k50 := (OB.step0 k46 s43)
  have m51 := (MO.step0 m38 s43)
  have E52 := (Evo.then0 E47 (Step.evo s43))
  refine sq (o_stB (o := 0) (v := (.agg #[(.int .i64 r26.Size), (.int .i64 r26.Time), (.int .i64 r26.Inode), (.int .i64 r26.Mode)])) [(.int .i64 r26.Size), (.int .i64 r26.Time), (.int .i64 r26.Inode), (.int .i64 r26.Mode)] rfl k44 (by kernel_rfl) (by kernel_rfl) Tryd.sizeOf84 rfl rfl rfl ?_)
  intro w53 s54 k55
  refine sq (o_pv (.int .i64 r27) rfl (by kernel_rfl) ?_)
  refine nil_ ?_
  refine then_normal (K19 _ _ _ _ ?_)
  refine seq_ (fun _ K56 => ?_)
  refine wp_block ?_
  refine seq_ (fun _ K57 => ?_)
  refine reg_ ?_
  refine sq (o_pv (.int .i64 r27) rfl (by kernel_rfl) ?_)
  refine sq (o_pv (.bool (decide (r27 = (13 : Int)))) rfl (by kernel_rfl) ?_)
  refine sq (o_pv (.bool (decide (r27 = (13 : Int)))) rfl (by kernel_rfl) ?_)
  refine nil_ ?_
  refine then_normal (K57 _ _ _ _ ?_)
  refine cond_d (r27 = (13 : Int)) (by kernel_rfl) (fun h58 => ?_) (fun h58 => ?_)
  ·
    replace hp := hp.1 h58
    refine seq_ (fun _ K59 => ?_)
    refine reg_ ?_
    refine sq (o_pv (.int .i64 r27) rfl (by kernel_rfl) ?_)
    refine sq (o_pv (.bool false) rfl (by kernel_rfl) ?_)
    refine sq (o_pv (.bool false) rfl (by kernel_rfl) ?_)
    refine sq (o_pv (.int .i64 r27) rfl (by kernel_rfl) ?_)
    refine nil_ ?_
    refine then_normal (K59 _ _ _ _ ?_)
    refine wp_ret ?_
    refine blk_ret ?_
    refine then_ret ?_
    have hXo60 := (Old.step (Old.step (Old.step hXo21 s30) s43) s54)
    have E61 := (Evo.thenW E52 (Step.evo s54) (Wr.of k44.2.2))
    have hS62 := (Sub.trans (Sub.trans (Sub.trans hS23 (Step.up s30)) (Step.up s43)) (Step.up s54))
    have hN63 := (News.step (News.step (News.step hN24 s30) s43) s54)
    have k64 := (OB.step k50 s54 p48)
    have m65 := (MO.step m51 s54 p49)
    refine end_ret hQ (.tuple #[(.bool false), (.bool false), (.int .i64 r27)]) (by kernel_rfl) ?_
    exact ⟨f_25, false, false, r27, hp, X42, F31, step_of E61 hF0 hS62 hN63, rfl, m65, rr37⟩
  ·
    replace hp := hp.2 h58
    refine seq_ (fun _ K66 => ?_)
    refine ground_ ?_
    refine join_ 4290772992 (fun lq w71 => lq = [(22, (.bool (decide ((¬ (r27 = (0 : Int))) ∨ (¬ (r26.Mode = e.Mode))))))] ∧ w53 = w71) (fun Kj69 hJ70 => ?_) ?_
    ·
      refine reg_ ?_
      refine sq (o_pv (.int .i64 r27) rfl (by kernel_rfl) ?_)
      by_cases h73 : r27 = (0 : Int)
      ·
        refine sq (o_pv (.bool false) rfl (x_ndf (p := r27 = (0 : Int)) (by kernel_rfl) h73) ?_)
        refine sq (o_pv (.bool false) rfl (by kernel_rfl) ?_)
        refine sq (o_pv (.pointer (some ⟨b40, 3, none⟩)) (by kernel_rfl) (by kernel_rfl) ?_)
        refine sq (o_pv (.int .i64 r26.Mode) (by kernel_rfl) (x_load1 (by kernel_rfl) Tryd.isAgg3 (k55.2.1.cell' 3 rfl)) ?_)
        refine sq (o_pv (.pointer (some ⟨b12, 2, none⟩)) (by kernel_rfl) (by kernel_rfl) ?_)
        have k74 := (OB.step k50 s54 p48)
        refine sq (o_pv (.int .i64 e.Mode) (by kernel_rfl) (x_load1 (by kernel_rfl) Tryd.isAgg3 (k74.2.1.cell' 2 rfl)) ?_)
        refine sq (o_pv (.bool (!decide (r26.Mode = e.Mode))) (by kernel_rfl) (by kernel_rfl) ?_)
        refine sq (o_pv (.bool (!decide (r26.Mode = e.Mode))) rfl (by kernel_rfl) ?_)
        refine sq (o_pv (.bool (!decide (r26.Mode = e.Mode))) rfl (by kernel_rfl) ?_)
        refine nil_ ?_
        refine then_normal (hJ70 _ _ _ ⟨[(22, (.bool (decide ((¬ (r27 = (0 : Int))) ∨ (¬ (r26.Mode = e.Mode))))))], fit_mk (fun _ _ => rfl) (by kernel_rfl) (vs_cons (Eq.trans (b := (.bool (!decide (r26.Mode = e.Mode)))) (by kernel_rfl) (dec_n ((or_iff_right (fun h1 => h1 h73)).trans Iff.rfl)).symm) vs_nil), rfl, rfl⟩)
      ·
        refine sq (o_pv (.bool true) rfl (x_ndt (p := r27 = (0 : Int)) (by kernel_rfl) h73) ?_)
        refine sq (o_pv (.bool true) rfl (by kernel_rfl) ?_)
        refine sq (o_not (by kernel_rfl) ?_)
        refine sq (o_not (by kernel_rfl) ?_)
        refine sq (o_not (by kernel_rfl) ?_)
        refine sq (o_not (by kernel_rfl) ?_)
        refine sq (o_not (by kernel_rfl) ?_)
        refine sq (o_pv (.bool true) rfl (by kernel_rfl) ?_)
        refine sq (o_pv (.bool true) rfl (by kernel_rfl) ?_)
        refine nil_ ?_
        refine then_normal (hJ70 _ _ _ ⟨[(22, (.bool (decide ((¬ (r27 = (0 : Int))) ∨ (¬ (r26.Mode = e.Mode))))))], fit_mk (fun _ _ => rfl) (by kernel_rfl) (vs_cons (Eq.trans (b := (.bool true)) (by kernel_rfl) (dec_t (iff_true_intro (Or.inl h73))).symm) vs_nil), rfl, rfl⟩)
    ·
      rintro _ w71 g72 ⟨rfl, hw⟩
      subst hw
      refine then_normal (K66 _ _ _ _ ?_)
      refine cond_d ((¬ (r27 = (0 : Int))) ∨ (¬ (r26.Mode = e.Mode))) (by kernel_rfl) (fun h75 => ?_) (fun h75 => ?_)
      ·
        replace hp := hp.1 h75
        refine seq_ (fun _ K76 => ?_)
        refine reg_ ?_
        refine sq (o_pv (.bool true) rfl (by kernel_rfl) ?_)
        refine sq (o_pv (.bool false) rfl (by kernel_rfl) ?_)
        refine sq (o_pv (.int .i64 (0 : Int)) rfl (by kernel_rfl) ?_)
        refine nil_ ?_
        refine then_normal (K76 _ _ _ _ ?_)
        refine wp_ret ?_
        refine blk_ret ?_
        refine then_ret ?_
        have hXo77 := (Old.step (Old.step (Old.step hXo21 s30) s43) s54)
        have E78 := (Evo.thenW E52 (Step.evo s54) (Wr.of k44.2.2))
        have hS79 := (Sub.trans (Sub.trans (Sub.trans hS23 (Step.up s30)) (Step.up s43)) (Step.up s54))
        have hN80 := (News.step (News.step (News.step hN24 s30) s43) s54)
        have k81 := (OB.step k50 s54 p48)
        have m82 := (MO.step m51 s54 p49)
        refine end_ret hQ (.tuple #[(.bool true), (.bool false), (.int .i64 (0 : Int))]) (by kernel_rfl) ?_
        exact ⟨f_25, true, false, (0 : Int), hp, X42, F31, step_of E78 hF0 hS79 hN80, rfl, m82, (by decide : inR .i64 (0 : Int))⟩
      ·
        replace hp := hp.2 h75
        refine seq_ (fun _ K83 => ?_)
        refine reg_ ?_
        have k84 := (OB.step k50 s54 p48)
        refine sq (o_pv (.agg #[(.string e.Path), (.int .i64 e.Stage), (.int .i64 e.Mode), (.string e.Data), (.int .i64 e.Time), (.int .i64 e.Size)]) rfl (x_loadN [(.string e.Path), (.int .i64 e.Stage), (.int .i64 e.Mode), (.string e.Data), (.int .i64 e.Time), (.int .i64 e.Size)] (by kernel_rfl) Tryd.isAgg82 Tryd.sizeOf82 (k84.2.1.cells' 0 rfl)) ?_)
        refine sq (o_pv (.agg #[(.int .i64 r26.Size), (.int .i64 r26.Time), (.int .i64 r26.Inode), (.int .i64 r26.Mode)]) rfl (x_loadN [(.int .i64 r26.Size), (.int .i64 r26.Time), (.int .i64 r26.Inode), (.int .i64 r26.Mode)] (by kernel_rfl) Tryd.isAgg84 Tryd.sizeOf84 (k55.2.1.cells' 0 rfl)) ?_)
        refine sq (o_pv (.int .i64 written) rfl (by kernel_rfl) ?_)
        refine sq (o_call 42 #[(.agg #[(.string e.Path), (.int .i64 e.Stage), (.int .i64 e.Mode), (.string e.Data), (.int .i64 e.Time), (.int .i64 e.Size)]), (.agg #[(.int .i64 r26.Size), (.int .i64 r26.Time), (.int .i64 r26.Inode), (.int .i64 r26.Mode)]), (.int .i64 written)] rfl (x_call Tryd.call42 (by kernel_rfl)) (stat_Fresh_w (X := []) (e := e) (s := r26) (written := written) (Old.nil _) zePath4 reStage5 reMode6 zeData7 reTime8 reSize9 rrSize33 rrTime34 rrInode35 rrMode36 rwritten10 hp) ?_)
        rintro _ w86 ⟨r85, hp, e87, rfl⟩
        have s88 := Step.of0 X42 e87
        refine sq (o_pv (.bool r85) rfl (by kernel_rfl) ?_)
        refine nil_ ?_
        refine then_normal (K83 _ _ _ _ ?_)
        refine cond_b r85 (by kernel_rfl) (fun h89 => ?_) (fun h89 => ?_)
        ·
          replace hp := hp.1 h89
          refine seq_ (fun _ K90 => ?_)
          refine reg_ ?_
          refine sq (o_pv (.bool false) rfl (by kernel_rfl) ?_)
          refine sq (o_pv (.bool false) rfl (by kernel_rfl) ?_)
          refine sq (o_pv (.int .i64 (0 : Int)) rfl (by kernel_rfl) ?_)
          refine nil_ ?_
          refine then_normal (K90 _ _ _ _ ?_)
          refine wp_ret ?_
          refine blk_ret ?_
          refine then_ret ?_
          have hXo91 := (Old.step (Old.step (Old.step (Old.step hXo21 s30) s43) s54) s88)
          have E92 := (Evo.then0 (Evo.thenW E52 (Step.evo s54) (Wr.of k44.2.2)) e87)
          have hS93 := (Sub.trans (Sub.trans (Sub.trans (Sub.trans hS23 (Step.up s30)) (Step.up s43)) (Step.up s54)) (Step.up s88))
          have hN94 := (News.step (News.step (News.step (News.step hN24 s30) s43) s54) s88)
          have k95 := (OB.step0 k84 s88)
          have m96 := (MO.step0 (MO.step m51 s54 p49) s88)
          have k97 := (OB.step0 k55 s88)
          refine end_ret hQ (.tuple #[(.bool false), (.bool false), (.int .i64 (0 : Int))]) (by kernel_rfl) ?_
          exact ⟨f_25, false, false, (0 : Int), hp, X42, F31, step_of E92 hF0 hS93 hN94, rfl, m96, (by decide : inR .i64 (0 : Int))⟩
        ·
          replace hp := hp.2 h89
          refine wp_skip ?_
          refine blk_normal ?_
          refine then_normal (K56 _ _ _ _ ?_)
          refine seq_ (fun _ K98 => ?_)
          refine reg_ ?_
          refine sq (o_pv (.pointer (some ⟨bf_1, 0, none⟩)) rfl (by kernel_rfl) ?_)
          refine sq (o_pv (.pointer (some ⟨b12, 0, none⟩)) rfl (by kernel_rfl) ?_)
          have k99 := (OB.step0 k84 s88)
          refine sq (o_pv (.string e.Path) rfl (x_load1 (by kernel_rfl) Tryd.isAgg9 (k99.2.1.cell' 0 rfl)) ?_)
          have hXo100 := (Old.step (Old.step (Old.step (Old.step hXo21 s30) s43) s54) s88)
          have E101 := (Evo.then0 (Evo.thenW E52 (Step.evo s54) (Wr.of k44.2.2)) e87)
          have hS102 := (Sub.trans (Sub.trans (Sub.trans (Sub.trans hS23 (Step.up s30)) (Step.up s43)) (Step.up s54)) (Step.up s88))
          have hN103 := (News.step (News.step (News.step (News.step hN24 s30) s43) s54) s88)
          have m104 := (MO.step0 (MO.step m51 s54 p49) s88)
          have k105 := (OB.step0 k55 s88)
          refine sq (o_call 112 #[(.pointer (some ⟨bf_1, 0, none⟩)), (.string e.Path)] rfl (x_call Tryd.call112 (by kernel_rfl)) (simfs_FS_Read_w (X := X42) (f_ := f_25) (p := e.Path) hXo100 (MO.re m104 (Wr.self _ _ (Sub.refl _))) zePath4 hp) ?_)
          rintro _ w109 ⟨f_106, r107, r108, hp, X110, F112, ar114, cr115, s111, rfl, m113, hr116, rr117⟩
          have m118 := MO.re m113 (Wr.trans m113.wr m104.wr E101.size)
          have p119 := Ap.grow m113.wr p39 (OB.old k99) (Nat.le_refl _)
          have p120 := Ap.grow m113.wr (Ap.symm p49) (OB.old k105) (Nat.le_refl _)
          replace hp := hp (Sl.len hr116)
          replace hp := hp rr117
          refine sq (o_pv (.tuple #[(.slice ar114 r107.length cr115), (.int .i64 r108)]) rfl (by kernel_rfl) ?_)
          refine sq (o_pv (.slice ar114 r107.length cr115) rfl (by kernel_rfl) ?_)
          refine sq (o_pv (.int .i64 r108) rfl (by kernel_rfl) ?_)
          refine sq (o_pv (.slice ar114 r107.length cr115) rfl (by kernel_rfl) ?_)
          refine sq (o_pv (.int .i64 r108) rfl (by kernel_rfl) ?_)
          refine nil_ ?_
          refine then_normal (K98 _ _ _ _ ?_)
          refine seq_ (fun _ K121 => ?_)
          refine reg_ ?_
          refine sq (o_pv (.slice ar114 r107.length cr115) rfl (by kernel_rfl) ?_)
          have hl122 := Sl.len hr116
          refine sq (o_pv (.string (strOfNums r107)) rfl (x_b2s_sl (a := ar114) (len := r107.length) (c := cr115) r107 Tryd.underlying91 Tryd.underlying5 Tryd.underlying9 (by kernel_rfl) rfl hr116) ?_)
          refine sq (o_pv (.pointer (some ⟨b12, 3, none⟩)) rfl (by kernel_rfl) ?_)
          have k123 := (OB.step k99 s111 p39)
          refine sq (o_pv (.string e.Data) rfl (x_load1 (by kernel_rfl) Tryd.isAgg9 (k123.2.1.cell' 3 rfl)) ?_)
          refine sq (o_pv (.bool (!decide ((strOfNums r107 : ByteArray) = e.Data))) rfl (x_strne (by kernel_rfl) (by kernel_rfl)) ?_)
          refine sq (o_pv (.int .i64 r108) rfl (by kernel_rfl) ?_)
          refine sq (o_pv (.bool (!decide ((strOfNums r107 : ByteArray) = e.Data))) rfl (by kernel_rfl) ?_)
          refine sq (o_pv (.bool true) rfl (by kernel_rfl) ?_)
          refine sq (o_pv (.int .i64 r108) rfl (by kernel_rfl) ?_)
          refine nil_ ?_
          refine then_normal (K121 _ _ _ _ ?_)
          refine wp_ret ?_
          have hXo124 := (Old.step hXo100 s111)
          have E125 := (Evo.thenW E101 (Step.evo s111) m104.wr)
          have hS126 := (Sub.trans hS102 (Step.up s111))
          have hN127 := (News.step hN103 s111)
          have k128 := (OB.step k105 s111 (Ap.symm p49))
          refine end_ret hQ (.tuple #[(.bool (!decide ((strOfNums r107 : ByteArray) = e.Data))), (.bool true), (.int .i64 r108)]) (by kernel_rfl) ?_
          exact ⟨f_106, (!decide ((strOfNums r107 : ByteArray) = e.Data)), true, r108, hp, X110, F112, step_of E125 hF0 hS126 hN127, rfl, m118, rr117⟩

def slices_Clip_string_string_p (s : (List ByteArray)) (Q : (List ByteArray) → Prop) : Prop :=
  ((s.length ≤ 9223372036854775807) → ((0 ≤ (s.length : Int) ∧ (s.length : Int) ≤ (s.length : Int)) ∧ Q s))
set_option maxRecDepth 20000 in
set_option maxHeartbeats 4000000 in
theorem slices_Clip_string_string_w {X : List Nat} {w : World} {s : (List ByteArray)} {as1 : Option Addr} {cs2 : Nat} {Q : (List ByteArray) → Prop} (hX0 : Old X w) (hs3 : Sl rStr X w as1 cs2 s) (hp : slices_Clip_string_string_p s Q) :
    Calls Tryd.prog 75 #[(.slice as1 s.length cs2)] w (Ret fun v w' => ∃ (r0 : (List ByteArray)), Q r0 ∧ Evo [] w w' ∧ ∃ (aq01 : Option Addr), v = (.slice aq01 r0.length r0.length) ∧ Sl rStr X w' aq01 r0.length r0) := by
  have hXo := hX0
  have E0 : Evo [] w w := RB.refl _ _ _
  have hS : Sub X X := Sub.refl _
  unfold slices_Clip_string_string_p at hp
  refine enter_ Tryd.func75 rfl 9 [(0, (.slice as1 s.length cs2))] (by kernel_rfl) (fun Qe hQ => ?_)
  replace hp := hp (Sl.len hs3)
  refine seq_ (fun _ K4 => ?_)
  refine reg_ ?_
  refine sq (o_pv (.slice none 0 0) rfl (by kernel_rfl) ?_)
  refine nil_ ?_
  refine then_normal (K4 _ _ _ _ ?_)
  refine seq_ (fun _ K5 => ?_)
  refine reg_ ?_
  refine sq (o_pv (.slice as1 s.length cs2) rfl (by kernel_rfl) ?_)
  refine sq (o_pv (.slice as1 s.length cs2) rfl (by kernel_rfl) ?_)
  refine sq (o_pv (.int .i64 (s.length : Int)) rfl (by kernel_rfl) ?_)
  refine sq (o_pv (.slice as1 s.length cs2) rfl (by kernel_rfl) ?_)
  refine sq (o_pv (.int .i64 (s.length : Int)) rfl (by kernel_rfl) ?_)
  obtain ⟨h9, hp⟩ := hp
  refine sq (o_slice3F (R := rStr) (k := .i64) (k' := .i64) (X := X) (L := s) (s.length : Int) Tryd.underlying39 Tryd.sizeOf9 hs3 (by kernel_rfl) rfl rfl (by kernel_rfl) (by kernel_rfl) h9 ?_)
  intro a6 h8
  rw [take_len] at h8
  rw [take_len]
  refine sq (o_pv (.slice a6 s.length s.length) rfl (by kernel_rfl) ?_)
  refine nil_ ?_
  refine then_normal (K5 _ _ _ _ ?_)
  refine wp_ret ?_
  refine end_ret hQ (.slice a6 s.length s.length) (by kernel_rfl) ?_
  exact ⟨s, hp, E0, a6, rfl, (Sl.less h8 hS)⟩
theorem slices_Clip_string_string_keep {w : World} {a : Option Addr} {m c : Nat} (hmc : m ≤ c) : Calls Tryd.prog 75 #[(.slice a m c)] w (Ret fun v w' => v = (.slice a m m) ∧ w' = w) := by
  refine enter_ Tryd.func75 rfl 9 [(0, (.slice a m c))] (by kernel_rfl) (fun Qe hQ => ?_)
  refine seq_ (fun _ K4 => ?_)
  refine reg_ ?_
  refine sq (o_pv (.slice none 0 0) rfl (by kernel_rfl) ?_)
  refine nil_ ?_
  refine then_normal (K4 _ _ _ _ ?_)
  refine seq_ (fun _ K5 => ?_)
  refine reg_ ?_
  refine sq (o_pv (.slice a m c) rfl (by kernel_rfl) ?_)
  refine sq (o_pv (.slice a m c) rfl (by kernel_rfl) ?_)
  refine sq (o_pv (.int .i64 (m : Int)) rfl (by kernel_rfl) ?_)
  refine sq (o_pv (.slice a m c) rfl (by kernel_rfl) ?_)
  refine sq (o_pv (.int .i64 (m : Int)) rfl (by kernel_rfl) ?_)
  refine sq (o_slice3K (a := a) (m := m) (c := c) (k := .i64) (k' := .i64) Tryd.underlying39 Tryd.sizeOf9 (by kernel_rfl) hmc rfl (by kernel_rfl) (by kernel_rfl) ?_)
  refine sq (o_pv (.slice a m m) rfl (by kernel_rfl) ?_)
  refine nil_ ?_
  refine then_normal (K5 _ _ _ _ ?_)
  refine wp_ret ?_
  refine end_ret hQ (.slice a m m) (by kernel_rfl) ?_
  exact ⟨rfl, rfl⟩

def stat_Changed_p (f_ : S_simfs_FS) (l : (List S_index_Entry)) (written : Int) (Q : S_simfs_FS → (List ByteArray) → Int → Int → Prop) : Prop :=
  ((l.length ≤ 9223372036854775807) → ((inR .i64 written) → (simfs_FS_Off_p f_ (fun (f_11 : S_simfs_FS) (r12 : Bool) => (((r12 = true) → Q f_11 ([] : List ByteArray) (0 : Int) (13 : Int)) ∧ ((r12 = false) → (∃ (I599 : (List ByteArray) → Int → Int → S_simfs_FS → Prop) (m600 : (List ByteArray) → Int → Int → S_simfs_FS → Nat), (I599 ([] : List ByteArray) (0 : Int) (0 : Int) f_11) ∧ (∀ (paths299 : (List ByteArray)) (looks304 : Int) (s306 : Int) (o308 : S_simfs_FS), (I599 paths299 looks304 s306 o308) → (paths299.length ≤ 9223372036854775807) → (inR .i64 looks304) → (inR .i64 s306) → (((s306 < (l.length : Int)) → (∃ k751 : (List ByteArray) → Int → S_simfs_FS → Prop, (∀ (paths741 : (List ByteArray)) (looks746 : Int) (o748 : S_simfs_FS), k751 paths741 looks746 o748 → (paths741.length ≤ 9223372036854775807) → (inR .i64 looks746) → ((inR .i64 (s306 + (1 : Int))) ∧ ((I599 paths741 looks746 (s306 + (1 : Int)) o748) ∧ m600 paths741 looks746 (s306 + (1 : Int)) o748 < m600 paths299 looks304 s306 o308))) ∧ ((inL l s306) ∧ ((((lget l s306).Path).size ≤ maxLen) → ((inR .i64 ((lget l s306).Stage)) → ((inR .i64 ((lget l s306).Mode)) → ((((lget l s306).Data).size ≤ maxLen) → ((inR .i64 ((lget l s306).Time)) → ((inR .i64 ((lget l s306).Size)) → (((¬ (((lget l s306).Stage) = (0 : Int))) → (k751 paths299 looks304 o308)) ∧ ((((lget l s306).Stage) = (0 : Int)) → (stat_look_p o308 (lget l s306) written (fun (f_812 : S_simfs_FS) (r813 : Bool) (r814 : Bool) (r815 : Int) => ((inR .i64 r815) → (((¬ (r815 = (0 : Int))) → Q f_812 ([] : List ByteArray) (0 : Int) r815) ∧ ((r815 = (0 : Int)) → (∃ k842 : Int → Prop, (∀ (looks840 : Int), k842 looks840 → (inR .i64 looks840) → (((r813 = true) → (((paths299.length + ([(lget l s306).Path]).length) * 16 ≤ 140737488355328) ∧ (k751 (paths299 ++ ([(lget l s306).Path])) looks840 f_812))) ∧ ((r813 = false) → (k751 paths299 looks840 f_812)))) ∧ (((r814 = true) → ((inR .i64 (looks304 + (1 : Int))) ∧ (k842 (looks304 + (1 : Int))))) ∧ ((r814 = false) → (k842 looks304)))))))))))))))))))) ∧ ((¬ (s306 < (l.length : Int))) → (slices_Clip_string_string_p paths299 (fun (r910 : (List ByteArray)) => ((r910.length ≤ 9223372036854775807) → Q o308 r910 looks304 (0 : Int))))))))))))))
set_option maxRecDepth 20000 in
set_option maxHeartbeats 4000000 in
theorem stat_Changed_w {X : List Nat} {w : World} {f_ : S_simfs_FS} {l : (List S_index_Entry)} {written : Int} {bf_1 : Nat} {Ff_2 : List Nat} {al4 : Option Addr} {cl5 : Nat} {Q : S_simfs_FS → (List ByteArray) → Int → Int → Prop} (hX0 : Old X w) (mf_3 : MO o_simfs_FS 153 Ff_2 w.heap.size X w Ff_2 bf_1 f_) (hl6 : Sl r_index_Entry X w al4 cl5 l) (rwritten7 : inR .i64 written) (hp : stat_Changed_p f_ l written Q) :
    Calls Tryd.prog 50 #[(.pointer (some ⟨bf_1, 0, none⟩)), (.slice al4 l.length cl5), (.int .i64 written)] w (Ret fun v w' => ∃ (m0 : S_simfs_FS) (r0 : (List ByteArray)) (r1 : Int) (r2 : Int), Q m0 r0 r1 r2 ∧ ∃ (X' : List Nat) (Fm0 : List Nat) (aq01 : Option Addr) (cq02 : Nat), Step X w Ff_2 X' w' ∧ v = .tuple #[(.slice aq01 r0.length cq02), (.int .i64 r1), (.int .i64 r2)] ∧ MO o_simfs_FS 153 Ff_2 w.heap.size X' w' Fm0 bf_1 m0 ∧ Sl rStr X' w' aq01 cq02 r0 ∧ inR .i64 r1 ∧ inR .i64 r2) := by
  have hXo := hX0
  have E0 : Evo Ff_2 w w := RB.refl _ _ _
  have hS : Sub X X := Sub.refl _
  have hN : News X w X w := News.refl _ _
  have hF0 : Sub Ff_2 X := MO.mem mf_3
  unfold stat_Changed_p at hp
  refine enter_ Tryd.func50 rfl 49 [(0, (.pointer (some ⟨bf_1, 0, none⟩))), (1, (.slice al4 l.length cl5)), (2, (.int .i64 written))] (by kernel_rfl) (fun Qe hQ => ?_)
  replace hp := hp (Sl.len hl6)
  replace hp := hp rwritten7
  refine seq_ (fun _ K8 => ?_)
  refine reg_ ?_
  refine sq (o_pv (.slice none 0 0) rfl (by kernel_rfl) ?_)
  refine sq (o_pv (.int .i64 (0 : Int)) rfl (by kernel_rfl) ?_)
  refine sq (o_pv (.int .i64 (0 : Int)) rfl (by kernel_rfl) ?_)
  refine nil_ ?_
  refine then_normal (K8 _ _ _ _ ?_)
  refine seq_ (fun _ K9 => ?_)
  refine seq_ (fun _ K10 => ?_)
  refine reg_ ?_
  refine sq (o_pv (.pointer (some ⟨bf_1, 0, none⟩)) rfl (by kernel_rfl) ?_)
  refine sq (o_call 90 #[(.pointer (some ⟨bf_1, 0, none⟩))] rfl (x_call Tryd.call90 (by kernel_rfl)) (simfs_FS_Off_w (X := X) (f_ := f_) hXo (MO.re mf_3 (Wr.self _ _ (Sub.refl _))) hp) ?_)
  rintro _ w13 ⟨f_11, r12, hp, X14, F16, s15, rfl, m17⟩
  have m18 := MO.re m17 (Wr.trans m17.wr mf_3.wr E0.size)
  refine nil_ ?_
  refine then_normal (K10 _ _ _ _ ?_)
  refine cond_b r12 (by kernel_rfl) (fun h19 => ?_) (fun h19 => ?_)
  ·
    replace hp := hp.1 h19
    refine seq_ (fun _ K20 => ?_)
    refine reg_ ?_
    refine sq (o_pv (.slice none 0 0) rfl (by kernel_rfl) ?_)
    refine sq (o_pv (.int .i64 (0 : Int)) rfl (by kernel_rfl) ?_)
    refine sq (o_pv (.int .i64 (13 : Int)) rfl (by kernel_rfl) ?_)
    refine nil_ ?_
    refine then_normal (K20 _ _ _ _ ?_)
    refine wp_ret ?_
    refine then_ret ?_
    have hl21 := (Sl.step hl6 s15)
    have hXo22 := (Old.step hXo s15)
    have E23 := (Evo.thenW E0 (Step.evo s15) mf_3.wr)
    have hS24 := (Sub.trans hS (Step.up s15))
    have hN25 := (News.step hN s15)
    refine end_ret hQ (.tuple #[(.slice none 0 0), (.int .i64 (0 : Int)), (.int .i64 (13 : Int))]) (by kernel_rfl) ?_
    exact ⟨f_11, ([] : List ByteArray), (0 : Int), (13 : Int), hp, X14, F16, none, 0, step_of E23 hF0 hS24 hN25, rfl, m18, Sl.nil, (by decide : inR .i64 (0 : Int)), (by decide : inR .i64 (13 : Int))⟩
  ·
    replace hp := hp.2 h19
    refine wp_skip ?_
    refine then_normal (K9 _ _ _ _ ?_)
    refine seq_ (fun _ K26 => ?_)
    refine seq_ (fun _ K27 => ?_)
    refine reg_ ?_
    refine sq (o_pv (.slice al4 l.length cl5) rfl (by kernel_rfl) ?_)
    refine sq (o_pv (.int .i64 (l.length : Int)) rfl (by kernel_rfl) ?_)
    refine sq (o_pv (.int .i64 (0 : Int)) rfl (by kernel_rfl) ?_)
    refine nil_ ?_
    refine then_normal (K27 _ _ _ _ ?_)
    refine wp_block ?_
    have hl609 := (Sl.step hl6 s15)
    have hXo610 := (Old.step hXo s15)
    have E611 := (Evo.thenW E0 (Step.evo s15) mf_3.wr)
    have hS612 := (Sub.trans hS (Step.up s15))
    have hN613 := (News.step hN s15)
    obtain ⟨I599, m600, hI601, hp⟩ := hp
    refine loop_ 70368743931328 (fun kq lq w603 => ∃ (X604 : List Nat) (paths299 : (List ByteArray)) (looks304 : Int) (s306 : Int) (o308 : S_simfs_FS) (a300 : Option Addr) (n301 : Nat) (c302 : Nat) (F309 : List Nat), (lq = [(6, (.slice a300 n301 c302)), (7, (.int .i64 looks304)), (18, (.int .i64 s306))]) ∧ (kq = m600 paths299 looks304 s306 o308) ∧ (Evo Ff_2 w w603) ∧ (Old X604 w603) ∧ (Sub X X604) ∧ (News X w X604 w603) ∧ (Sl r_index_Entry X604 w603 al4 cl5 l) ∧ (OS rStr ([]) w.heap.size X604 w603 9 a300 n301 c302 paths299) ∧ (MO o_simfs_FS 153 Ff_2 w.heap.size X604 w603 F309 bf_1 o308) ∧ (Ap (blkL a300) (F309)) ∧ (inR .i64 looks304) ∧ (inR .i64 s306) ∧ (I599 paths299 looks304 s306 o308)) (m600 ([] : List ByteArray) (0 : Int) (0 : Int) f_11) [(6, (.slice none 0 0)), (7, (.int .i64 (0 : Int))), (18, (.int .i64 (0 : Int)))] (vs_cons (by kernel_rfl) (vs_cons (by kernel_rfl) (vs_cons (by kernel_rfl) vs_nil))) ⟨X14, ([] : List ByteArray), (0 : Int), (0 : Int), f_11, none, 0, 0, F16, rfl, rfl, E611, hXo610, hS612, hN613, hl609, (OS.nil _ _ _ _), m18, (Ap.nil_l _), (by decide : inR .i64 (0 : Int)), (by decide : inR .i64 (0 : Int)), hI601⟩ ?_
    rintro _ _ w603 g606 ⟨X604, paths299, looks304, s306, o308, a300, n301, c302, F309, rfl, rfl, E614, hXo615, hS616, hN617, hl618, O303, m310, p619, rlooks305, rs307, hI602⟩ Kl607 hA608
    replace hp := hp paths299 looks304 s306 o308 hI602 (OS.len O303) rlooks305 rs307
    refine seq_ (fun _ K620 => ?_)
    refine reg_ ?_
    refine sq (o_pv (.bool (decide (s306 < (l.length : Int)))) rfl (by kernel_rfl) ?_)
    refine nil_ ?_
    refine then_normal (K620 _ _ _ _ ?_)
    refine seq_ (fun _ K621 => ?_)
    refine cond_d (s306 < (l.length : Int)) (by kernel_rfl) (fun h622 => ?_) (fun h622 => ?_)
    ·
      replace hp := hp.1 h622
      refine wp_skip ?_
      refine then_normal (K621 _ _ _ _ ?_)
      refine seq_ (fun _ K623 => ?_)
      obtain ⟨k751, hk752, hp⟩ := hp
      refine ground_ ?_
      refine join_ 35184371056064 (fun lq w753 => ∃ (X754 : List Nat) (paths741 : (List ByteArray)) (looks746 : Int) (o748 : S_simfs_FS) (a742 : Option Addr) (n743 : Nat) (c744 : Nat) (F749 : List Nat), (lq = [(6, (.slice a742 n743 c744)), (7, (.int .i64 looks746))]) ∧ (Evo Ff_2 w w753) ∧ (Old X754 w753) ∧ (Sub X X754) ∧ (News X w X754 w753) ∧ (Sl r_index_Entry X754 w753 al4 cl5 l) ∧ (OS rStr ([]) w.heap.size X754 w753 9 a742 n743 c744 paths741) ∧ (MO o_simfs_FS 153 Ff_2 w.heap.size X754 w753 F749 bf_1 o748) ∧ (Ap (blkL a742) (F749)) ∧ (inR .i64 looks746) ∧ (k751 paths741 looks746 o748)) (fun Kj755 hJ756 => ?_) ?_
      ·
        refine wp_block ?_
        refine seq_ (fun _ K764 => ?_)
        refine reg_ ?_
        obtain ⟨h765, hp⟩ := hp
        obtain ⟨b766, o767, cs768, ha769, nx770, lt771, ok772, hc773⟩ := Sl.atI hl618 s306 h765
        obtain ⟨rfl, zePath774, reStage775, reMode776, zeData777, reTime778, reSize779⟩ := r_index_Entry_open ok772
        replace hp := hp zePath774
        replace hp := hp reStage775
        replace hp := hp reMode776
        replace hp := hp zeData777
        replace hp := hp reTime778
        replace hp := hp reSize779
        refine sq (o_pv (.pointer (some ⟨b766, o767 + s306.toNat * 6, none⟩)) rfl (x_ixA (m := l.length) (c := cl5) (k := .i64) (i := s306) Tryd.underlying87 Tryd.sizeOf82 (by rw [← ha769]; kernel_rfl) (by kernel_rfl) h765) ?_)
        refine sq (o_pv (.agg #[(.string ((lget l s306).Path)), (.int .i64 ((lget l s306).Stage)), (.int .i64 ((lget l s306).Mode)), (.string ((lget l s306).Data)), (.int .i64 ((lget l s306).Time)), (.int .i64 ((lget l s306).Size))]) rfl (x_loadN [(.string ((lget l s306).Path)), (.int .i64 ((lget l s306).Stage)), (.int .i64 ((lget l s306).Mode)), (.string ((lget l s306).Data)), (.int .i64 ((lget l s306).Time)), (.int .i64 ((lget l s306).Size))] (by kernel_rfl) Tryd.isAgg82 Tryd.sizeOf82 hc773) ?_)
        refine sq (o_newX [(.string (ByteArray.mk #[])), (.int .i64 (0 : Int)), (.int .i64 (0 : Int)), (.string (ByteArray.mk #[])), (.int .i64 (0 : Int)), (.int .i64 (0 : Int))] 82 (X := X604) (B := w.heap.size) E614.size rfl (by kernel_rfl) ?_)
        intro b780 w781 X782 s783 k784 n785
        have p786 := n785 _ (OS.old O303)
        have p787 := n785 _ (MO.old m310)
        have O788 := (OS.step0 O303 s783)
        have m789 := (MO.step0 m310 s783)
        have E790 := (Evo.then0 E614 (Step.evo s783))
        refine sq (o_stB (o := 0) (v := (.agg #[(.string ((lget l s306).Path)), (.int .i64 ((lget l s306).Stage)), (.int .i64 ((lget l s306).Mode)), (.string ((lget l s306).Data)), (.int .i64 ((lget l s306).Time)), (.int .i64 ((lget l s306).Size))])) [(.string ((lget l s306).Path)), (.int .i64 ((lget l s306).Stage)), (.int .i64 ((lget l s306).Mode)), (.string ((lget l s306).Data)), (.int .i64 ((lget l s306).Time)), (.int .i64 ((lget l s306).Size))] rfl k784 (by kernel_rfl) (by kernel_rfl) Tryd.sizeOf82 rfl rfl rfl ?_)
        intro w791 s792 k793
        refine nil_ ?_
        refine then_normal (K764 _ _ _ _ ?_)
        refine seq_ (fun _ K794 => ?_)
        refine seq_ (fun _ K795 => ?_)
        refine reg_ ?_
        refine sq (o_pv (.pointer (some ⟨b780, 1, none⟩)) rfl (by kernel_rfl) ?_)
        refine sq (o_pv (.int .i64 ((lget l s306).Stage)) rfl (x_load1 (by kernel_rfl) Tryd.isAgg3 (k793.2.1.cell' 1 rfl)) ?_)
        refine sq (o_pv (.bool (!decide (((lget l s306).Stage) = (0 : Int)))) rfl (by kernel_rfl) ?_)
        refine nil_ ?_
        refine then_normal (K795 _ _ _ _ ?_)
        refine cond_nd (((lget l s306).Stage) = (0 : Int)) (by kernel_rfl) (fun h796 => ?_) (fun h796 => ?_)
        ·
          replace hp := hp.1 h796
          refine wp_exit ?_
          refine then_exit ?_
          refine blk_exit ?_
          have E797 := (Evo.thenW E790 (Step.evo s792) (Wr.of k784.2.2))
          have hXo798 := (Old.step (Old.step hXo615 s783) s792)
          have hS799 := (Sub.trans (Sub.trans hS616 (Step.up s783)) (Step.up s792))
          have hN800 := (News.step (News.step hN617 s783) s792)
          have hl801 := (Sl.step (Sl.step hl618 s783) s792)
          have O802 := (OS.step O788 s792 p786)
          have m803 := (MO.step m789 s792 p787)
          refine then_normal (hJ756 _ _ _ ⟨[(6, (.slice a300 n301 c302)), (7, (.int .i64 looks304))], fit_mk (fun _ _ => rfl) (by kernel_rfl) (vs_cons (by kernel_rfl) (vs_cons (by kernel_rfl) vs_nil)), ?_⟩)
          exact ⟨X782, paths299, looks304, o308, a300, n301, c302, F309, rfl, E797, hXo798, hS799, hN800, hl801, O802, m803, p619, rlooks305, hp⟩
        ·
          replace hp := hp.2 h796
          refine wp_skip ?_
          refine then_normal (K794 _ _ _ _ ?_)
          refine seq_ (fun _ K804 => ?_)
          refine reg_ ?_
          refine sq (o_pv (.pointer (some ⟨bf_1, 0, none⟩)) rfl (by kernel_rfl) ?_)
          refine sq (o_pv (.agg #[(.string ((lget l s306).Path)), (.int .i64 ((lget l s306).Stage)), (.int .i64 ((lget l s306).Mode)), (.string ((lget l s306).Data)), (.int .i64 ((lget l s306).Time)), (.int .i64 ((lget l s306).Size))]) rfl (x_loadN [(.string ((lget l s306).Path)), (.int .i64 ((lget l s306).Stage)), (.int .i64 ((lget l s306).Mode)), (.string ((lget l s306).Data)), (.int .i64 ((lget l s306).Time)), (.int .i64 ((lget l s306).Size))] (by kernel_rfl) Tryd.isAgg82 Tryd.sizeOf82 (k793.2.1.cells' 0 rfl)) ?_)
          refine sq (o_pv (.int .i64 written) rfl (by kernel_rfl) ?_)
          have E805 := (Evo.thenW E790 (Step.evo s792) (Wr.of k784.2.2))
          have hXo806 := (Old.step (Old.step hXo615 s783) s792)
          have hS807 := (Sub.trans (Sub.trans hS616 (Step.up s783)) (Step.up s792))
          have hN808 := (News.step (News.step hN617 s783) s792)
          have hl809 := (Sl.step (Sl.step hl618 s783) s792)
          have O810 := (OS.step O788 s792 p786)
          have m811 := (MO.step m789 s792 p787)
          refine sq (o_call 91 #[(.pointer (some ⟨bf_1, 0, none⟩)), (.agg #[(.string ((lget l s306).Path)), (.int .i64 ((lget l s306).Stage)), (.int .i64 ((lget l s306).Mode)), (.string ((lget l s306).Data)), (.int .i64 ((lget l s306).Time)), (.int .i64 ((lget l s306).Size))]), (.int .i64 written)] rfl (x_call Tryd.call91 (by kernel_rfl)) (stat_look_w (X := X782) (f_ := o308) (e := (lget l s306)) (written := written) hXo806 (MO.re m811 (Wr.self _ _ (Sub.refl _))) zePath774 reStage775 reMode776 zeData777 reTime778 reSize779 rwritten7 hp) ?_)
          rintro _ w816 ⟨f_812, r813, r814, r815, hp, X817, F819, s818, rfl, m820, rr821⟩
          have m822 := MO.re m820 (Wr.trans m820.wr m811.wr E805.size)
          have p823 := Ap.grow m820.wr p619 (OS.old O810) (Nat.le_refl _)
          have p824 := Ap.grow m820.wr (Ap.symm p787) (OB.old k793) (Nat.le_refl _)
          replace hp := hp rr821
          refine sq (o_pv (.tuple #[(.bool r813), (.bool r814), (.int .i64 r815)]) rfl (by kernel_rfl) ?_)
          refine sq (o_pv (.bool r813) rfl (by kernel_rfl) ?_)
          refine sq (o_pv (.bool r814) rfl (by kernel_rfl) ?_)
          refine sq (o_pv (.int .i64 r815) rfl (by kernel_rfl) ?_)
          refine sq (o_pv (.bool r813) rfl (by kernel_rfl) ?_)
          refine sq (o_pv (.bool r814) rfl (by kernel_rfl) ?_)
          refine sq (o_pv (.int .i64 r815) rfl (by kernel_rfl) ?_)
          refine nil_ ?_
          refine then_normal (K804 _ _ _ _ ?_)
          refine seq_ (fun _ K825 => ?_)
          refine seq_ (fun _ K826 => ?_)
          refine reg_ ?_
          refine sq (o_pv (.int .i64 r815) rfl (by kernel_rfl) ?_)
          refine sq (o_pv (.bool (!decide (r815 = (0 : Int)))) rfl (by kernel_rfl) ?_)
          refine nil_ ?_
          refine then_normal (K826 _ _ _ _ ?_)
          refine cond_nd (r815 = (0 : Int)) (by kernel_rfl) (fun h827 => ?_) (fun h827 => ?_)
          ·
            replace hp := hp.1 h827
            refine seq_ (fun _ K828 => ?_)
            refine reg_ ?_
            refine sq (o_pv (.int .i64 r815) rfl (by kernel_rfl) ?_)
            refine sq (o_pv (.slice none 0 0) rfl (by kernel_rfl) ?_)
            refine sq (o_pv (.int .i64 (0 : Int)) rfl (by kernel_rfl) ?_)
            refine sq (o_pv (.int .i64 r815) rfl (by kernel_rfl) ?_)
            refine nil_ ?_
            refine then_normal (K828 _ _ _ _ ?_)
            refine wp_ret ?_
            refine then_ret ?_
            refine blk_ret ?_
            refine then_ret ?_
            refine then_ret ?_
            refine then_ret ?_
            refine blk_ret ?_
            refine then_ret ?_
            have E829 := (Evo.thenW E805 (Step.evo s818) m811.wr)
            have hXo830 := (Old.step hXo806 s818)
            have hS831 := (Sub.trans hS807 (Step.up s818))
            have hN832 := (News.step hN808 s818)
            have hl833 := (Sl.step hl809 s818)
            have O834 := (OS.step O810 s818 p619)
            have k835 := (OB.step k793 s818 (Ap.symm p787))
            refine end_ret hQ (.tuple #[(.slice none 0 0), (.int .i64 (0 : Int)), (.int .i64 r815)]) (by kernel_rfl) ?_
            exact ⟨f_812, ([] : List ByteArray), (0 : Int), r815, hp, X817, F819, none, 0, step_of E829 hF0 hS831 hN832, rfl, m822, Sl.nil, (by decide : inR .i64 (0 : Int)), rr821⟩
          ·
            replace hp := hp.2 h827
            refine wp_skip ?_
            refine then_normal (K825 _ _ _ _ ?_)
            refine seq_ (fun _ K836 => ?_)
            refine seq_ (fun _ K837 => ?_)
            refine reg_ ?_
            refine sq (o_pv (.bool r814) rfl (by kernel_rfl) ?_)
            refine nil_ ?_
            refine then_normal (K837 _ _ _ _ ?_)
            have E849 := (Evo.thenW E805 (Step.evo s818) m811.wr)
            have hXo850 := (Old.step hXo806 s818)
            have hS851 := (Sub.trans hS807 (Step.up s818))
            have hN852 := (News.step hN808 s818)
            have hl853 := (Sl.step hl809 s818)
            have O854 := (OS.step O810 s818 p619)
            have k855 := (OB.step k793 s818 (Ap.symm p787))
            obtain ⟨k842, hk843, hp⟩ := hp
            refine ground_ ?_
            refine join_ 412316860544 (fun lq w844 => ∃ (X845 : List Nat) (looks840 : Int), (lq = [(7, (.int .i64 looks840))]) ∧ (Evo Ff_2 w w844) ∧ (Old X845 w844) ∧ (Sub X X845) ∧ (News X w X845 w844) ∧ (OS rStr ([]) w.heap.size X845 w844 9 a300 n301 c302 paths299) ∧ (Sl r_index_Entry X845 w844 al4 cl5 l) ∧ (MO o_simfs_FS 153 Ff_2 w.heap.size X845 w844 F819 bf_1 f_812) ∧ (OB ([]) w.heap.size X845 w844 b780 [(.string ((lget l s306).Path)), (.int .i64 ((lget l s306).Stage)), (.int .i64 ((lget l s306).Mode)), (.string ((lget l s306).Data)), (.int .i64 ((lget l s306).Time)), (.int .i64 ((lget l s306).Size))] 82) ∧ (Ap (blkL a300) (F819)) ∧ (Ap (blkL a300) ([b780])) ∧ (inR .i64 looks840) ∧ (k842 looks840)) (fun Kj846 hJ847 => ?_) ?_
            ·
              refine cond_b r814 (by kernel_rfl) (fun h866 => ?_) (fun h866 => ?_)
              ·
                replace hp := hp.1 h866
                refine reg_ ?_
                refine sq (o_pv (.int .i64 looks304) rfl (by kernel_rfl) ?_)
                obtain ⟨h867, hp⟩ := hp
                refine sq (o_pv (.int .i64 (looks304 + (1 : Int))) rfl (x_add2 (k := .i64) (a := looks304) (b := (1 : Int)) (looks304 + (1 : Int)) (by kernel_rfl) (by kernel_rfl) (wrap_inR h867)) ?_)
                refine sq (o_pv (.int .i64 (looks304 + (1 : Int))) rfl (by kernel_rfl) ?_)
                refine nil_ ?_
                refine then_normal (hJ847 _ _ _ ⟨[(7, (.int .i64 (looks304 + (1 : Int))))], fit_mk (fun _ _ => rfl) (by kernel_rfl) (vs_cons (by kernel_rfl) vs_nil), ?_⟩)
                exact ⟨X817, (looks304 + (1 : Int)), rfl, E849, hXo850, hS851, hN852, O854, hl853, m822, k855, p823, p786, h867, hp⟩
              ·
                replace hp := hp.2 h866
                refine wp_skip ?_
                refine then_normal (hJ847 _ _ _ ⟨[(7, (.int .i64 looks304))], fit_mk (fun _ _ => rfl) (by kernel_rfl) (vs_cons (by kernel_rfl) vs_nil), ?_⟩)
                exact ⟨X817, looks304, rfl, E849, hXo850, hS851, hN852, O854, hl853, m822, k855, p823, p786, rlooks305, hp⟩
            ·
              rintro _ w844 g868 ⟨X845, looks840, rfl, E856, hXo857, hS858, hN859, O860, hl861, m862, k863, p864, p865, rlooks841, hv848⟩
              replace hp := hk843 looks840 hv848 rlooks841
              refine then_normal (K836 _ _ _ _ ?_)
              refine seq_ (fun _ K869 => ?_)
              refine reg_ ?_
              refine sq (o_pv (.bool r813) rfl (by kernel_rfl) ?_)
              refine nil_ ?_
              refine then_normal (K869 _ _ _ _ ?_)
              refine cond_b r813 (by kernel_rfl) (fun h870 => ?_) (fun h870 => ?_)
              ·
                replace hp := hp.1 h870
                refine reg_ ?_
                refine sq (o_pv (.slice a300 n301 c302) rfl (by kernel_rfl) ?_)
                refine sq (o_pv (.pointer (some ⟨b780, 0, none⟩)) rfl (by kernel_rfl) ?_)
                refine sq (o_pv (.string ((lget l s306).Path)) rfl (x_load1 (by kernel_rfl) Tryd.isAgg9 (k863.2.1.cell' 0 rfl)) ?_)
                refine sq (o_rowX (R := rStr) [(.string ((lget l s306).Path))] [(lget l s306).Path] 9 1 (X := X845) (B := w.heap.size) E856.size rfl (by kernel_rfl) (Flat.cons (cs := [(.string ((lget l s306).Path))]) (rStr_mk zePath774) Flat.nil) rfl (by decide) ?_)
                intro b871 w872 X873 s874 O875 n876
                have p877 := n876 _ (OS.old O860)
                have p878 := n876 _ (MO.old m862)
                have p879 := n876 _ (OB.old k863)
                obtain ⟨h880, hp⟩ := hp
                have O881 := (OS.step0 O860 s874)
                have m882 := (MO.step0 m862 s874)
                have k883 := (OB.step0 k863 s874)
                have E884 := (Evo.then0 E856 (Step.evo s874))
                refine sq (o_appX (R := rStr) (X := X873) (B := w.heap.size) (L := paths299) (M := [(lget l s306).Path]) rfl elT39 rfl E884.size O881 (OS.src O875) O875.1 (by kernel_rfl) (by kernel_rfl) h880 ?_)
                intro a885 n886 c887 w888 X889 s890 O891 gr892
                have p893 := gr892 _ (Ap.symm p864) (MO.old m882)
                have p894 := gr892 _ (Ap.symm p865) (OB.old k883)
                refine sq (o_pv (.slice a885 n886 c887) rfl (by kernel_rfl) ?_)
                refine nil_ ?_
                refine blk_normal ?_
                have E895 := (Evo.thenW E884 (Step.evo s890) (Wr.of O881.2.2))
                have hXo896 := (Old.step (Old.step hXo857 s874) s890)
                have hS897 := (Sub.trans (Sub.trans hS858 (Step.up s874)) (Step.up s890))
                have hN898 := (News.step (News.step hN859 s874) s890)
                have hl899 := (Sl.step (Sl.step hl861 s874) s890)
                have m900 := (MO.step m882 s890 (Ap.symm p864))
                refine then_normal (hJ756 _ _ _ ⟨[(6, (.slice a885 n886 c887)), (7, (.int .i64 looks840))], fit_mk (AgB.nest (AgB.look (fun _ _ => rfl) (by kernel_rfl)) (by kernel_rfl) (by kernel_rfl)) (by kernel_rfl) (vs_cons (by kernel_rfl) (vs_cons (by kernel_rfl) vs_nil)), ?_⟩)
                exact ⟨X889, (paths299 ++ ([(lget l s306).Path])), looks840, f_812, a885, n886, c887, F819, rfl, E895, hXo896, hS897, hN898, hl899, O891, m900, (Ap.symm p893), rlooks841, hp⟩
              ·
                replace hp := hp.2 h870
                refine wp_skip ?_
                refine blk_normal ?_
                refine then_normal (hJ756 _ _ _ ⟨[(6, (.slice a300 n301 c302)), (7, (.int .i64 looks840))], fit_mk (AgB.nest (AgB.look (fun _ _ => rfl) (by kernel_rfl)) (by kernel_rfl) (by kernel_rfl)) (by kernel_rfl) (vs_cons (by kernel_rfl) (vs_cons (by kernel_rfl) vs_nil)), ?_⟩)
                exact ⟨X845, paths299, looks840, f_812, a300, n301, c302, F819, rfl, E856, hXo857, hS858, hN859, hl861, O860, m862, p864, rlooks841, hp⟩
      ·
        rintro _ w753 g901 ⟨X754, paths741, looks746, o748, a742, n743, c744, F749, rfl, E758, hXo759, hS760, hN761, hl762, O745, m750, p763, rlooks747, hv757⟩
        replace hp := hk752 paths741 looks746 o748 hv757 (OS.len O745) rlooks747
        refine then_normal (K623 _ _ _ _ ?_)
        refine reg_ ?_
        obtain ⟨h902, hp⟩ := hp
        refine sq (o_pv (.int .i64 (s306 + (1 : Int))) rfl (x_add2 (k := .i64) (a := s306) (b := (1 : Int)) (s306 + (1 : Int)) (by kernel_rfl) (by kernel_rfl) (wrap_inR h902)) ?_)
        refine sq (o_pv (.int .i64 (s306 + (1 : Int))) rfl (by kernel_rfl) ?_)
        refine nil_ ?_
        refine then_normal (hA608 _ _ _ ⟨_, [(6, (.slice a742 n743 c744)), (7, (.int .i64 looks746)), (18, (.int .i64 (s306 + (1 : Int))))], hp.2, fit_mk (AgB.nest (AgB.look (AgB.mix _ _ _) (by kernel_rfl)) (by kernel_rfl) (by kernel_rfl)) (by kernel_rfl) (vs_cons (by kernel_rfl) (vs_cons (by kernel_rfl) (vs_cons (by kernel_rfl) vs_nil))), ?_⟩)
        exact ⟨X754, paths741, looks746, (s306 + (1 : Int)), o748, a742, n743, c744, F749, rfl, rfl, E758, hXo759, hS760, hN761, hl762, O745, m750, p763, rlooks747, h902, hp.1⟩
    ·
      replace hp := hp.2 h622
      refine wp_exit ?_
      refine then_exit ?_
      refine then_exit ?_
      refine blk_exit ?_
      refine then_normal (K26 _ _ _ _ ?_)
      refine seq_ (fun _ K903 => ?_)
      refine reg_ ?_
      refine sq (o_pv (.slice a300 n301 c302) rfl (by kernel_rfl) ?_)
      have ax908 := OS.apold O303 hX0
      obtain ⟨X904, u905, r906, hm907⟩ := OS.release O303
      obtain rfl : n301 = paths299.length := O303.1
      have hXo909 := (Old.less hXo615 u905)
      refine sq (o_call 75 #[(.slice a300 paths299.length c302)] rfl (x_call Tryd.call75 (by kernel_rfl)) (slices_Clip_string_string_w (X := X904) (s := paths299) hXo909 r906 hp) ?_)
      rintro _ w911 ⟨r910, hp, e912, ar914, rfl, hr915⟩
      have s913 := Step.of0 X904 e912
      replace hp := hp (Sl.len hr915)
      refine sq (o_pv (.int .i64 looks304) rfl (by kernel_rfl) ?_)
      refine sq (o_pv (.slice ar914 r910.length r910.length) rfl (by kernel_rfl) ?_)
      refine sq (o_pv (.int .i64 looks304) rfl (by kernel_rfl) ?_)
      refine sq (o_pv (.int .i64 (0 : Int)) rfl (by kernel_rfl) ?_)
      refine nil_ ?_
      refine then_normal (K903 _ _ _ _ ?_)
      refine wp_ret ?_
      have E916 := (Evo.then0 E614 e912)
      have hXo917 := (Old.step hXo909 s913)
      have hS918 := (Sub.trans (hm907 _ ax908 hS616) (Step.up s913))
      have hN919 := (News.step (News.less hN617 u905) s913)
      have hl920 := (Sl.step (Sl.less hl618 u905) s913)
      have r921 := (Sl.step r906 s913)
      have m922 := (MO.step0 (MO.less m310 u905 (hm907 _ (Ap.symm p619) (MO.mem m310))) s913)
      refine end_ret hQ (.tuple #[(.slice ar914 r910.length r910.length), (.int .i64 looks304), (.int .i64 (0 : Int))]) (by kernel_rfl) ?_
      exact ⟨o308, r910, looks304, (0 : Int), hp, X904, F309, ar914, r910.length, step_of E916 hF0 hS918 hN919, rfl, m922, hr915, rlooks305, (by decide : inR .i64 (0 : Int))⟩

end Go.Proofs.YtjejeipdndddpaaDoor
