/- The law StatFresh, to its given statement. -/
import Derived.Test.YtjejeipdndddpaaDoorRows
import Derived.Test.YtjejeipdndddpaaDoorSfP
import Derived.Test.YtjejeipdndddpaaDoorCards
import Derived.Test.YtjejeipdndddpaaDoorTie
import Derived.Test.YtjejeipdndddpaaDoorCard
import Derived.Test.YtjejeipdndddpaaDoorReadA
import Derived.Test.YtjejeipdndddpaaDoorRead
import Derived.ProofKit
import Derived.OpenShut
import Derived.ShutString
import Derived.ChangeOld
import Derived.Below
namespace Go.Proofs.YtjejeipdndddpaaDoor
open Go
namespace statFresh
open Go.ChangeShapes Go.WideShapes Go.ChangeAt Go.RowKit
open Go.ChangeMaps (open_string shut_string)
theorem own : ownKnob Tryd.prog.godebug = none := by kernel_rfl
theorem laidOut : laidOutB Tryd.prog = true := by kernel_rfl
theorem reads0 : Reads Tryd.prog 82 r_index_Entry := (reads_map _ (fun x => ⟨⟨x.1, x.2.1, x.2.2.1, x.2.2.2.1, x.2.2.2.2.1, x.2.2.2.2.2⟩, rfl⟩) (reads_struct Tryd.underlying82 (fr_cons (f := { name := "Path", type := 9, offset := 0, embedded := false, tag := "", pkgPath := "", byteOffset := 0 }) (reads_str Tryd.underlying9) (by kernel_rfl) (fr_cons (f := { name := "Stage", type := 3, offset := 1, embedded := false, tag := "", pkgPath := "", byteOffset := 16 }) (reads_int Tryd.underlying3) (by kernel_rfl) (fr_cons (f := { name := "Mode", type := 3, offset := 2, embedded := false, tag := "", pkgPath := "", byteOffset := 24 }) (reads_int Tryd.underlying3) (by kernel_rfl) (fr_cons (f := { name := "Data", type := 9, offset := 3, embedded := false, tag := "", pkgPath := "", byteOffset := 32 }) (reads_str Tryd.underlying9) (by kernel_rfl) (fr_cons (f := { name := "Time", type := 3, offset := 4, embedded := false, tag := "", pkgPath := "", byteOffset := 48 }) (reads_int Tryd.underlying3) (by kernel_rfl) (fr_one (f := { name := "Size", type := 3, offset := 5, embedded := false, tag := "", pkgPath := "", byteOffset := 56 }) (reads_int Tryd.underlying3) (by kernel_rfl))))))) (by kernel_rfl)))
theorem reads1 : Reads Tryd.prog 84 r_simfs_Stat := (reads_map _ (fun x => ⟨⟨x.1, x.2.1, x.2.2.1, x.2.2.2⟩, rfl⟩) (reads_struct Tryd.underlying84 (fr_cons (f := { name := "Size", type := 3, offset := 0, embedded := false, tag := "", pkgPath := "", byteOffset := 0 }) (reads_int Tryd.underlying3) (by kernel_rfl) (fr_cons (f := { name := "Time", type := 3, offset := 1, embedded := false, tag := "", pkgPath := "", byteOffset := 8 }) (reads_int Tryd.underlying3) (by kernel_rfl) (fr_cons (f := { name := "Inode", type := 3, offset := 2, embedded := false, tag := "", pkgPath := "", byteOffset := 16 }) (reads_int Tryd.underlying3) (by kernel_rfl) (fr_one (f := { name := "Mode", type := 3, offset := 3, embedded := false, tag := "", pkgPath := "", byteOffset := 24 }) (reads_int Tryd.underlying3) (by kernel_rfl))))) (by kernel_rfl)))
noncomputable def laidWorld (os : Os) : World := layIn Tryd.prog (World.holding Tryd.prog os ⟨#[], #[], []⟩) [("unicode/utf8.acceptRanges", Rows.laid_unicode_utf8_acceptRanges), ("unicode/utf8.first", Rows.laid_unicode_utf8_first)]
theorem laid_met (os : Os) : laidMetH Tryd.prog Rows.statFreshRow.laid ((laidWorld os).forCall (fun _ _ => 0) ⟨#[], #[(.agg #[(.string (ByteArray.mk #[])), (.int .i64 (0 : Int)), (.int .i64 (0 : Int)), (.string (ByteArray.mk #[])), (.int .i64 (0 : Int)), (.int .i64 (0 : Int))]), (.agg #[(.int .i64 (0 : Int)), (.int .i64 (0 : Int)), (.int .i64 (0 : Int)), (.int .i64 (0 : Int))]), .int .i64 0], []⟩).memory :=
  laidMetH_of_parts (laidMet_of_run' 8 (by kernel_rfl) (by kernel_rfl)) (by kernel_rfl)
set_option maxRecDepth 100000 in
theorem reads (os : Os) {H : Type} (enc : TypeId × Value → H) : ∃ places, DataW.whole enc Tryd.prog ((laidWorld os).forCall (fun _ _ => 0) ⟨#[], #[(.agg #[(.string (ByteArray.mk #[])), (.int .i64 (0 : Int)), (.int .i64 (0 : Int)), (.string (ByteArray.mk #[])), (.int .i64 (0 : Int)), (.int .i64 (0 : Int))]), (.agg #[(.int .i64 (0 : Int)), (.int .i64 (0 : Int)), (.int .i64 (0 : Int)), (.int .i64 (0 : Int))]), .int .i64 0], []⟩).memory Tryd.f8.params.toList Rows.statFreshSpec.vars false (#[(.agg #[(.string (ByteArray.mk #[])), (.int .i64 (0 : Int)), (.int .i64 (0 : Int)), (.string (ByteArray.mk #[])), (.int .i64 (0 : Int)), (.int .i64 (0 : Int))]), (.agg #[(.int .i64 (0 : Int)), (.int .i64 (0 : Int)), (.int .i64 (0 : Int)), (.int .i64 (0 : Int))]), .int .i64 0] : Array Value).toList 8 = some ([.agg [.lit (.string []), .lit (.int .i64 0), .lit (.int .i64 0), .lit (.string []), .lit (.int .i64 0), .lit (.int .i64 0)], .agg [.lit (.int .i64 0), .lit (.int .i64 0), .lit (.int .i64 0), .lit (.int .i64 0)], .lit (.int .i64 0)], [], places) :=
  ⟨[], by kernel_rfl⟩
set_option maxRecDepth 100000 in
set_option maxHeartbeats 1000000 in
theorem lifted (os : Os) (started : os.Started) (H : Type) (enc : TypeId × Value → H) (F : Stop.Interp) :
    ReturnsInHanded {} Tryd.checked os 8 .any ((OpenSpec.ofChange Rows.statFreshSpec).preRow enc Tryd.prog Tryd.f8 Rows.statFreshRow.domain false Rows.statFreshRow.laid) (((OpenSpec.ofChange Rows.statFreshSpec).at F).post enc Tryd.prog Tryd.f8 false true false false) := by
  obtain ⟨places, hx⟩ := reads os enc
  refine returnsInHanded_of_row (C := Tryd.checked) (s := (OpenSpec.ofChange Rows.statFreshSpec)) own started (by kernel_rfl) Tryd.func8
    (witness_row_at (enc := enc) (C := Tryd.checked) false (laidWorld os) #[(.agg #[(.string (ByteArray.mk #[])), (.int .i64 (0 : Int)), (.int .i64 (0 : Int)), (.string (ByteArray.mk #[])), (.int .i64 (0 : Int)), (.int .i64 (0 : Int))]), (.agg #[(.int .i64 (0 : Int)), (.int .i64 (0 : Int)), (.int .i64 (0 : Int)), (.int .i64 (0 : Int))]), .int .i64 0] rfl (by kernel_rfl) (by kernel_rfl) (by kernel_rfl)
      (OpenSpec.preRow_of_cond 8 hx (by kernel_rfl) (fun k hk => by cases hk) (by kernel_rfl) (laid_met os))) ?_
  intro W base args ds gs before hval0 hW _ hcond _ hL _ _
  clear hcond
  have hval : ∀ (j : Nat) t v, Tryd.f8.params[j]? = some t → args[j]? = some v → Value.okWide Tryd.prog W .any base t v := hval0
  have hW' := hW
  obtain ⟨p, q, hA0, hV, rfl, hfz, hnd⟩ := hW
  have hA : DataW.TrodAll enc Tryd.prog W 0 (fun _ => true) true Tryd.f8.params.toList args.toList ds p := hA0
  rw [Tryd.params8] at hA hval
  obtain ⟨v0, vs0, d0, ds0, p0, q0, hargs, rfl, rfl, h0, r0⟩ := trodAll_cons hA
  obtain ⟨v1, vs1, d1, ds1, p1, q1, rfl, rfl, rfl, h1, r1⟩ := trodAll_cons r0
  obtain ⟨v2, vs2, d2, ds2, p2, q2, rfl, rfl, rfl, h2, r2⟩ := trodAll_cons r1
  obtain ⟨rfl, rfl, rfl⟩ := trodAll_nil r2
  obtain rfl : args = #[v0, v1, v2] := by cases args; simp_all
  obtain ⟨rfl, rfl⟩ := trodVars_none hV
  have k0 := h0
  have lt0 : ∀ x ∈ p0, x.block < W.heap.size := by obtain ⟨m, hm⟩ := k0; exact DataW.trod_lt m _ _ _ hm
  obtain ⟨x0, cs_x0, rfl, o_x0⟩ := arg_struct reads0 (okWide_st Tryd.underlying82 (hval 0 82 v0 rfl rfl)) h0
  obtain ⟨rfl, zx0Path1, rx0Stage2, rx0Mode3, zx0Data4, rx0Time5, rx0Size6⟩ := r_index_Entry_open o_x0
  have k1 := h1
  have lt1 : ∀ x ∈ p1, x.block < W.heap.size := by obtain ⟨m, hm⟩ := k1; exact DataW.trod_lt m _ _ _ hm
  obtain ⟨x1, cs_x1, rfl, o_x1⟩ := arg_struct reads1 (okWide_st Tryd.underlying84 (hval 1 84 v1 rfl rfl)) h1
  obtain ⟨rfl, rx1Size7, rx1Time8, rx1Inode9, rx1Mode10⟩ := r_simfs_Stat_open o_x1
  have k2 := h2
  have lt2 : ∀ x ∈ p2, x.block < W.heap.size := by obtain ⟨m, hm⟩ := k2; exact DataW.trod_lt m _ _ _ hm
  obtain ⟨x2, rfl, _, _, wf2⟩ := open_int Tryd.underlying3 (hval 2 3 v2 rfl rfl) h2
  have h_x2 : inR .i64 x2 := wf_inR wf2
  clear hA0 hval0
  refine (rectolaw18_StatFresh_w (X := []) (e := x0) (s := x1) (written := x2) (Q := fun r => r = true) (Old.nil _) zx0Path1 rx0Stage2 rx0Mode3 zx0Data4 rx0Time5 rx0Size6 rx1Size7 rx1Time8 rx1Inode9 rx1Mode10 h_x2 (StatFresh_p rfl)).mono fun e W' hq => ?_
  obtain ⟨v, he, r0, hr, hE, hv⟩ := hq
  subst he; subst hv; subst hr
  have bel := hE.below
  exact ⟨_, rfl, _, _, _, [], _, [], hW', trodAll_mk1 (shut_bool Tryd.underlying4 _), (trodAll_cons_mk (Below.trod laidOut (by kernel_rfl) (of_decide_eq_true (by kernel_rfl)) k0 bel lt0) (trodAll_cons_mk (Below.trod laidOut (by kernel_rfl) (of_decide_eq_true (by kernel_rfl)) k1 bel lt1) (trodAll_cons_mk (Below.trod laidOut (by kernel_rfl) (of_decide_eq_true (by kernel_rfl)) k2 bel lt2) trodAll_mk0))), rfl, bel.frame _, fun h => by cases h⟩
theorem over : Rows.statFreshRow.holds Tryd.pinned (OpenSpec.ofChange Rows.statFreshSpec) :=
  OpenClaim.holds_of_cond 8 Tryd.f8 rfl rfl rfl rfl rfl rfl rfl ⟨rfl, rfl, rfl, rfl, rfl⟩ rfl rfl rfl rfl rfl (by kernel_rfl) Tryd.func8 (by kernel_rfl)
    (of_decide_eq_true (by kernel_rfl)) (by unfold Func.isWrapper; first | (rw [if_pos (by decide +kernel)]; kernel_rfl) | (rw [if_neg (by decide +kernel)]; exact ⟨rfl, rfl⟩))
    (fun os started H enc _ F => by rw [OpenClaim.pre_eq_preRow]; exact lifted os started H enc F)
theorem plain (f : FuncId) (fn : Func) (hf : Tryd.pinned.checked.prog.funcNamed "recto/rectolaw18.StatFresh" = some f) (hfn : Tryd.pinned.checked.prog.funcs[f]? = some fn) :
    true = Tryd.pinned.checked.prog.looks [] ∧ ∀ (j : Nat) t, fn.params[j]? = some t → Tryd.pinned.checked.prog.wantsStandIn t = false := by
  obtain rfl : f = 8 := Option.some.inj ((show Tryd.prog.funcNamed "recto/rectolaw18.StatFresh" = some 8 by kernel_rfl).symm.trans hf) |>.symm
  obtain rfl : fn = Tryd.f8 := (Option.some.inj (Tryd.func8.symm.trans hfn)).symm
  refine ⟨by kernel_rfl, fun j t ht => ?_⟩
  rw [Tryd.params8] at ht
  have hm := Array.mem_of_getElem? ht
  simp only [List.mem_toArray, List.mem_cons, List.not_mem_nil, or_false] at hm
  rcases hm with rfl | rfl | rfl
  all_goals exact (show Tryd.prog.wantsStandIn _ = false by kernel_rfl)
theorem provedCard : Rows.StatFreshCardSaid :=
  Claim7.holds_tied_plain_at .later [] _ _ _ _ over (fun _ h => by cases h) (by kernel_rfl) (fun _ h => by cases h) statFresh_row_tie rfl ⟨rfl, rfl⟩ (by kernel_rfl) rfl plain (by kernel_rfl)
#print axioms provedCard
end statFresh
end Go.Proofs.YtjejeipdndddpaaDoor
