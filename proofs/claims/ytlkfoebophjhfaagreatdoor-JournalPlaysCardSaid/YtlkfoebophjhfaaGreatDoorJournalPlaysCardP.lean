/- In every world that fits the given rows, JournalPlays returns true for every argument: of any row of changes all is done or nothing, the power cut at any op, any number of times. Conditions: none but the given rows'. -/
import Derived.Test.YtlkfoebophjhfaaGreatDoorRows
import Derived.Test.YtlkfoebophjhfaaGreatDoorJ6p
import Derived.Test.YtlkfoebophjhfaaGreatDoorCards
import Derived.Test.YtlkfoebophjhfaaGreatDoorTie
import Derived.Test.YtlkfoebophjhfaaGreatDoorCard
import Derived.Test.YtlkfoebophjhfaaGreatDoorRead
import Derived.ProofKit
import Derived.OpenShut
import Derived.ShutString
import Derived.ChangeOld
import Derived.Below
namespace Go.Proofs.YtlkfoebophjhfaaGreatDoor
open Go
namespace journalPlays
open Go.ChangeShapes Go.WideShapes Go.ChangeAt Go.RowKit
open Go.ChangeMaps (open_string shut_string)
theorem own : ownKnob Tryz.prog.godebug = none := by kernel_rfl
theorem laidOut : laidOutB Tryz.prog = true := by kernel_rfl
theorem reads0 : Reads Tryz.prog 48 (rSl (rSl r_journal_Change)) := (reads_slice Tryz.underlying48 (by kernel_rfl) (by decide) (reads_slice Tryz.underlying22 (by kernel_rfl) (by decide) (reads_map _ (fun x => ⟨⟨x.1, x.2.1, x.2.2.1, x.2.2.2⟩, rfl⟩) (reads_struct Tryz.underlying34 (fr_cons (f := { name := "Path", type := 9, offset := 0, embedded := false, tag := "", pkgPath := "", byteOffset := 0 }) (reads_str Tryz.underlying9) (by kernel_rfl) (fr_cons (f := { name := "Gone", type := 4, offset := 1, embedded := false, tag := "", pkgPath := "", byteOffset := 16 }) (reads_bool Tryz.underlying4) (by kernel_rfl) (fr_cons (f := { name := "Mode", type := 3, offset := 2, embedded := false, tag := "", pkgPath := "", byteOffset := 24 }) (reads_int Tryz.underlying3) (by kernel_rfl) (fr_one (f := { name := "Data", type := 32, offset := 3, embedded := false, tag := "", pkgPath := "", byteOffset := 32 }) (reads_slice Tryz.underlying32 (by kernel_rfl) (by decide) (reads_int Tryz.underlying5)) (by kernel_rfl))))) (by kernel_rfl)))))
theorem reads1 : Reads Tryz.prog 32 (rSl (rInt .u8)) := (reads_slice Tryz.underlying32 (by kernel_rfl) (by decide) (reads_int Tryz.underlying5))
theorem reads2 : Reads Tryz.prog 43 (rSl rBool) := (reads_slice Tryz.underlying43 (by kernel_rfl) (by decide) (reads_bool Tryz.underlying4))
noncomputable def laidWorld (os : Os) : World := layIn Tryz.prog (World.holding Tryz.prog os ⟨#[], #[], []⟩) [("math/bits.deBruijn32tab", Rows.laid_math_bits_deBruijn32tab), ("math/bits.deBruijn64tab", Rows.laid_math_bits_deBruijn64tab), ("internal/strconv.uint64pow10", Rows.laid_internal_strconv_uint64pow10), ("unicode/utf8.acceptRanges", Rows.laid_unicode_utf8_acceptRanges), ("unicode/utf8.first", Rows.laid_unicode_utf8_first)]
theorem laid_met (os : Os) : laidMetH Tryz.prog Rows.journalPlaysRow.laid ((laidWorld os).forCall (fun _ _ => 0) ⟨#[], #[.slice none 0 0, .slice none 0 0, .slice none 0 0], []⟩).memory :=
  laidMetH_of_parts (laidMet_of_run' 8 (by kernel_rfl) (by kernel_rfl)) (by kernel_rfl)
theorem gv_pow {W : World} (h : laidMetH Tryz.prog Rows.journalPlaysRow.laid W) : GV [] W 0 (Lib.pow10Tab.map (Value.int .u64)) := by
  have h2 : laidMet Tryz.prog [("math/bits.deBruijn32tab", Rows.laid_math_bits_deBruijn32tab), ("math/bits.deBruijn64tab", Rows.laid_math_bits_deBruijn64tab), ("internal/strconv.uint64pow10", Rows.laid_internal_strconv_uint64pow10), ("unicode/utf8.acceptRanges", Rows.laid_unicode_utf8_acceptRanges), ("unicode/utf8.first", Rows.laid_unicode_utf8_first)] W := h
  have h3 := laidMet_tail (laidMet_tail (h2))
  have h4 : Lib.TabIs Tryz.prog W "internal/strconv.uint64pow10" .u64 Lib.pow10Tab := Lib.tabIs_of_head (g := 0) (by kernel_rfl) (by kernel_rfl) Tryz.underlying172 Tryz.underlying121 (by kernel_rfl) (by kernel_rfl) h3
  exact GV.of_var (by kernel_rfl) h4
set_option maxRecDepth 100000 in
theorem reads (os : Os) {H : Type} (enc : TypeId × Value → H) : ∃ places, DataW.whole enc Tryz.prog ((laidWorld os).forCall (fun _ _ => 0) ⟨#[], #[.slice none 0 0, .slice none 0 0, .slice none 0 0], []⟩).memory Tryz.f6.params.toList Rows.journalPlaysSpec.vars false (#[.slice none 0 0, .slice none 0 0, .slice none 0 0] : Array Value).toList 8 = some ([.nil, .nil, .nil], [], places) :=
  ⟨[], by kernel_rfl⟩
set_option maxRecDepth 100000 in
set_option maxHeartbeats 1000000 in
theorem lifted (os : Os) (started : os.Started) (H : Type) (enc : TypeId × Value → H) (F : Stop.Interp) :
    ReturnsInHanded {} Tryz.checked os 6 .any ((OpenSpec.ofChange Rows.journalPlaysSpec).preRow enc Tryz.prog Tryz.f6 Rows.journalPlaysRow.domain false Rows.journalPlaysRow.laid) (((OpenSpec.ofChange Rows.journalPlaysSpec).at F).post enc Tryz.prog Tryz.f6 false true false false) := by
  obtain ⟨places, hx⟩ := reads os enc
  refine returnsInHanded_of_row (C := Tryz.checked) (s := (OpenSpec.ofChange Rows.journalPlaysSpec)) own started (by kernel_rfl) Tryz.func6
    (witness_row_at (enc := enc) (C := Tryz.checked) false (laidWorld os) #[.slice none 0 0, .slice none 0 0, .slice none 0 0] rfl (by kernel_rfl) (by kernel_rfl) (by kernel_rfl)
      (OpenSpec.preRow_of_cond 8 hx (by kernel_rfl) (fun k hk => by cases hk) (by kernel_rfl) (laid_met os))) ?_
  intro W base args ds gs before hval0 hW _ hcond _ hL _ _
  clear hcond
  have hval : ∀ (j : Nat) t v, Tryz.f6.params[j]? = some t → args[j]? = some v → Value.okWide Tryz.prog W .any base t v := hval0
  have hW' := hW
  obtain ⟨p, q, hA0, hV, rfl, hfz, hnd⟩ := hW
  have hA : DataW.TrodAll enc Tryz.prog W 0 (fun _ => true) true Tryz.f6.params.toList args.toList ds p := hA0
  rw [Tryz.params6] at hA hval
  obtain ⟨v0, vs0, d0, ds0, p0, q0, hargs, rfl, rfl, h0, r0⟩ := trodAll_cons hA
  obtain ⟨v1, vs1, d1, ds1, p1, q1, rfl, rfl, rfl, h1, r1⟩ := trodAll_cons r0
  obtain ⟨v2, vs2, d2, ds2, p2, q2, rfl, rfl, rfl, h2, r2⟩ := trodAll_cons r1
  obtain ⟨rfl, rfl, rfl⟩ := trodAll_nil r2
  obtain rfl : args = #[v0, v1, v2] := by cases args; simp_all
  obtain ⟨rfl, rfl⟩ := trodVars_none hV
  have k0 := h0
  have lt0 : ∀ x ∈ p0, x.block < W.heap.size := by obtain ⟨m, hm⟩ := k0; exact DataW.trod_lt m _ _ _ hm
  obtain ⟨x0_a, x0_n, x0_c, rfl⟩ := okWide_slice Tryz.underlying48 (hval 0 48 v0 rfl rfl)
  obtain ⟨x0, rfl, h_x0⟩ := arg_slice reads0 rfl h0
  have k1 := h1
  have lt1 : ∀ x ∈ p1, x.block < W.heap.size := by obtain ⟨m, hm⟩ := k1; exact DataW.trod_lt m _ _ _ hm
  obtain ⟨x1_a, x1_n, x1_c, rfl⟩ := okWide_slice Tryz.underlying32 (hval 1 32 v1 rfl rfl)
  obtain ⟨x1, rfl, h_x1⟩ := arg_slice reads1 rfl h1
  have k2 := h2
  have lt2 : ∀ x ∈ p2, x.block < W.heap.size := by obtain ⟨m, hm⟩ := k2; exact DataW.trod_lt m _ _ _ hm
  obtain ⟨x2_a, x2_n, x2_c, rfl⟩ := okWide_slice Tryz.underlying43 (hval 2 43 v2 rfl rfl)
  obtain ⟨x2, rfl, h_x2⟩ := arg_slice reads2 rfl h2
  clear hA0 hval0
  refine (rectolaw6_JournalPlays_w (X := []) (rows := x0) (cuts := x1) (keep := x2) (Q := fun r => r = true) (Old.nil _) h_x0 h_x1 h_x2 (JournalPlays_p rfl)).mono fun e W' hq => ?_
  obtain ⟨v, he, r0, hr, hE, hv⟩ := hq
  subst he; subst hv; subst hr
  have bel := hE.below
  exact ⟨_, rfl, _, _, _, [], _, [], hW', trodAll_mk1 (shut_bool Tryz.underlying4 _), (trodAll_cons_mk (Below.trod laidOut (by kernel_rfl) (of_decide_eq_true (by kernel_rfl)) k0 bel lt0) (trodAll_cons_mk (Below.trod laidOut (by kernel_rfl) (of_decide_eq_true (by kernel_rfl)) k1 bel lt1) (trodAll_cons_mk (Below.trod laidOut (by kernel_rfl) (of_decide_eq_true (by kernel_rfl)) k2 bel lt2) trodAll_mk0))), rfl, bel.frame _, fun h => by cases h⟩
theorem over : Rows.journalPlaysRow.holds Tryz.pinned (OpenSpec.ofChange Rows.journalPlaysSpec) :=
  OpenClaim.holds_of_cond 6 Tryz.f6 rfl rfl rfl rfl rfl rfl rfl ⟨rfl, rfl, rfl, rfl, rfl⟩ rfl rfl rfl rfl rfl (by kernel_rfl) Tryz.func6 (by kernel_rfl)
    (of_decide_eq_true (by kernel_rfl)) (by unfold Func.isWrapper; first | (rw [if_pos (by decide +kernel)]; kernel_rfl) | (rw [if_neg (by decide +kernel)]; exact ⟨rfl, rfl⟩))
    (fun os started H enc _ F => by rw [OpenClaim.pre_eq_preRow]; exact lifted os started H enc F)
theorem plain (f : FuncId) (fn : Func) (hf : Tryz.pinned.checked.prog.funcNamed "recto/rectolaw6.JournalPlays" = some f) (hfn : Tryz.pinned.checked.prog.funcs[f]? = some fn) :
    true = Tryz.pinned.checked.prog.looks [] ∧ ∀ (j : Nat) t, fn.params[j]? = some t → Tryz.pinned.checked.prog.wantsStandIn t = false := by
  obtain rfl : f = 6 := Option.some.inj ((show Tryz.prog.funcNamed "recto/rectolaw6.JournalPlays" = some 6 by kernel_rfl).symm.trans hf) |>.symm
  obtain rfl : fn = Tryz.f6 := (Option.some.inj (Tryz.func6.symm.trans hfn)).symm
  refine ⟨by kernel_rfl, fun j t ht => ?_⟩
  rw [Tryz.params6] at ht
  have hm := Array.mem_of_getElem? ht
  simp only [List.mem_toArray, List.mem_cons, List.not_mem_nil, or_false] at hm
  rcases hm with rfl | rfl | rfl
  all_goals exact (show Tryz.prog.wantsStandIn _ = false by kernel_rfl)
theorem provedCard : Rows.JournalPlaysCardSaid :=
  Claim7.holds_tied_plain_at .later [] _ _ _ _ over (fun _ h => by cases h) (by kernel_rfl) (fun _ h => by cases h) journalPlays_row_tie rfl ⟨rfl, rfl⟩ (by kernel_rfl) rfl plain (by kernel_rfl)
#print axioms provedCard
end journalPlays
end Go.Proofs.YtlkfoebophjhfaaGreatDoor
