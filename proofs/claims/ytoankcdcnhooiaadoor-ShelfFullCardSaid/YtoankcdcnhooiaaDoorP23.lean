/- The plain law of chapter 23: as many shelves as may be. -/
import Derived.Test.YtoankcdcnhooiaaDoorSh3
import Derived.Test.YtoankcdcnhooiaaDoorPure
namespace Go.Proofs.YtoankcdcnhooiaaDoor
open Go
def shOk (x : S_shelf_Shelf) : Prop := x.Index.length ≤ 1000 ∧ x.Work.length ≤ 1000
theorem fClone_p {s : List S_files_File} {Q : List S_files_File → Prop} (hs : s.length ≤ 1000) (h : Q s) : slices_Clone_files_Row_files_File_p s Q := by
  unfold slices_Clone_files_Row_files_File_p; intro _; exact ⟨by omega, h⟩
theorem sClip_p {s : List S_shelf_Shelf} {Q : List S_shelf_Shelf → Prop} (h : Q s) : slices_Clip_shelf_Stack_shelf_Shelf_p s Q := by
  unfold slices_Clip_shelf_Stack_shelf_Shelf_p; intro _; exact ⟨⟨by omega, by omega⟩, h⟩
theorem apart_p {x : S_shelf_Shelf} {Q : S_shelf_Shelf → Prop} (hx : shOk x) (h : Q x) : shelf_apart_p x Q := by
  unfold shelf_apart_p; intro _ _ _ _ k hk
  exact fClone_p hx.1 fun _ => fClone_p hx.2 fun _ => hk _ _ fun _ _ => h
theorem all_p {s : List S_shelf_Shelf} {Q : List S_shelf_Shelf → Prop} (hs : ∀ x ∈ s, shOk x) (hl : s.length ≤ 1000) (h : Q s) : shelf_Stack_all_p s Q := by
  unfold shelf_Stack_all_p; simp only [inR_i64]; intro _
  refine ⟨fun out i => ∃ k : Nat, i = k ∧ k ≤ s.length ∧ out = s.take k, fun _ i => s.length - i.toNat, ⟨0, rfl, Nat.zero_le _, rfl⟩, ?_⟩
  rintro _ _ ⟨k, rfl, hk, rfl⟩ _ _
  refine ⟨fun hlt => ?_, fun hge => ?_⟩
  · have hkl : k < s.length := by omega
    refine ⟨⟨by omega, by omega⟩, fun _ _ _ _ => ?_⟩
    have e : lget s (k : Int) = s[k] := lget_lt hkl
    rw [e]
    refine apart_p (hs _ (List.getElem_mem _)) fun _ _ _ _ => ⟨?_, ⟨by omega, by omega⟩, ⟨k + 1, by omega, hkl, by rw [List.take_add_one, List.getElem?_eq_getElem hkl]; rfl⟩, ?_⟩
    · rw [List.length_take]; simp only [List.length_singleton]; omega
    · dsimp only; omega
  · obtain rfl : k = s.length := by omega
    rw [List.take_length]; exact h
theorem Push_p {s : List S_shelf_Shelf} {x : S_shelf_Shelf} {Q : List S_shelf_Shelf → Int → Prop} (hs : ∀ x ∈ s, shOk x) (hx : shOk x) (hl : s.length < 16) (h : Q (x :: s) 0) : shelf_Stack_Push_p s x Q := by
  unfold shelf_Stack_Push_p; intro _ _ _ _ _
  refine ⟨fun h16 => absurd h16 (by omega), fun _ => all_p hs (by omega) fun _ => apart_p hx fun _ _ _ _ => ⟨rfl, by simp, ?_, fun _ => sClip_p fun _ => h⟩⟩
  simp only [List.length_singleton]; omega
theorem Push_full {s : List S_shelf_Shelf} {x : S_shelf_Shelf} {Q : List S_shelf_Shelf → Int → Prop} (hl : 16 ≤ s.length) (h : Q [] 4) : shelf_Stack_Push_p s x Q := by
  unfold shelf_Stack_Push_p; intro _ _ _ _ _
  exact ⟨fun _ => h, fun hn => absurd (by omega) hn⟩
theorem in_p {s : List S_shelf_Shelf} {n : Int} {Q : Bool → Prop} (h : Q (decide ((n ≥ (0 : Int)) ∧ (n < (s.length : Int))))) : shelf_Stack_in_p s n Q := by
  unfold shelf_Stack_in_p; intro _ _; exact h
theorem Get_p {s : List S_shelf_Shelf} {n : Int} {Q : S_shelf_Shelf → Int → Prop} (hs : ∀ x ∈ s, shOk x) (hn : inL s n) (h : Q (lget s n) 0) : shelf_Stack_Get_p s n Q := by
  unfold shelf_Stack_Get_p; intro _ _
  refine in_p ?_
  rw [decide_eq_true ⟨hn.1, hn.2⟩]
  exact ⟨fun e => (by cases e), fun _ => ⟨hn, fun _ _ _ _ => apart_p (hs _ (lget_mem hn)) fun _ _ _ _ => h⟩⟩
theorem Get_out {s : List S_shelf_Shelf} {n : Int} {Q : S_shelf_Shelf → Int → Prop} (hn : ¬ (n ≥ 0 ∧ n < (s.length : Int))) (h : Q ⟨0, [], [], ByteArray.mk #[]⟩ 1) : shelf_Stack_Get_p s n Q := by
  unfold shelf_Stack_Get_p; intro _ _
  refine in_p ?_
  rw [decide_eq_false hn]
  exact ⟨fun _ => h, fun e => by cases e⟩
theorem Drop_p {s : List S_shelf_Shelf} {n : Int} {Q : List S_shelf_Shelf → Int → Prop} (hs : ∀ x ∈ s, shOk x) (hl : s.length ≤ 1000) (hn : inL s n) (h : Q (s.take n.toNat ++ s.drop (n + 1).toNat) 0) : shelf_Stack_Drop_p s n Q := by
  have h1 := hn.1; have h2 := hn.2
  unfold shelf_Stack_Drop_p; simp only [inR_i64]; intro _ _
  refine in_p ?_
  rw [decide_eq_true ⟨hn.1, hn.2⟩]
  exact ⟨fun e => (by cases e), fun _ => all_p hs hl fun _ => ⟨⟨by omega, by omega⟩, ⟨by omega, by omega, by omega⟩, sClip_p fun _ => h⟩⟩
/-! ### what is known -/
def shA : S_shelf_Shelf := ⟨1, [], [], ByteArray.mk #[97]⟩
def shB : S_shelf_Shelf := ⟨2, [], [⟨ByteArray.mk #[112], 1, ByteArray.mk #[]⟩], ByteArray.mk #[98]⟩
theorem okA : shOk shA := ⟨by decide, by decide⟩
theorem okB : shOk shB := ⟨by decide, by decide⟩
theorem it0 : (⟨(Lib.itoa 0).toArray⟩ : ByteArray) = ByteArray.mk #[48] := by
  rw [show (0 : Int) = ((0 : Nat) : Int) from rfl, Lib.itoa_nonneg, Lib.decDigits_one (by decide)]; rfl
theorem it1 : (⟨(Lib.itoa 1).toArray⟩ : ByteArray) = ByteArray.mk #[49] := by
  rw [show (1 : Int) = ((1 : Nat) : Int) from rfl, Lib.itoa_nonneg, Lib.decDigits_one (by decide)]; rfl
theorem it2 : (⟨(Lib.itoa 2).toArray⟩ : ByteArray) = ByteArray.mk #[50] := by
  rw [show (2 : Int) = ((2 : Nat) : Int) from rfl, Lib.itoa_nonneg, Lib.decDigits_one (by decide)]; rfl
theorem Itoa0 {Q : ByteArray → Prop} (h : Q (ByteArray.mk #[48])) : strconv_Itoa_p 0 Q := by unfold strconv_Itoa_p; rw [it0]; exact h
theorem Itoa1 {Q : ByteArray → Prop} (h : Q (ByteArray.mk #[49])) : strconv_Itoa_p 1 Q := by unfold strconv_Itoa_p; rw [it1]; exact h
theorem Itoa2 {Q : ByteArray → Prop} (h : Q (ByteArray.mk #[50])) : strconv_Itoa_p 2 Q := by unfold strconv_Itoa_p; rw [it2]; exact h
theorem copyCheck_p {b : S_strings_Builder} {Q : S_strings_Builder → Prop} (h : Q ⟨true, b.buf⟩) : strings_Builder_copyCheck_p b Q := by
  unfold strings_Builder_copyCheck_p; intro _
  refine ⟨fun _ => h, fun e => ⟨fun e2 => absurd (e.symm.trans e2) (by decide), fun _ => ?_⟩⟩
  obtain ⟨a, l⟩ := b
  obtain rfl : a = true := by simpa using e
  exact h
theorem WriteString_p {b : S_strings_Builder} {s : ByteArray} {Q : S_strings_Builder → Int → PErr → Prop} (hs : b.buf.length + s.size ≤ 140737488355328) (h : Q ⟨true, b.buf ++ bytesL s⟩ (s.size : Int) PErr.nil) : strings_Builder_WriteString_p b s Q := by
  unfold strings_Builder_WriteString_p; intro _
  exact copyCheck_p fun _ => ⟨hs, h⟩
def ln0 : ByteArray := ByteArray.mk #[48, 58, 32, 98, 32, 40, 50, 44, 32, 48, 47, 49, 41, 10]
def ln1 : ByteArray := ByteArray.mk #[49, 58, 32, 97, 32, 40, 49, 44, 32, 48, 47, 48, 41, 10]
theorem Text_p {Q : ByteArray → Prop} (h : Q (ByteArray.mk #[48, 58, 32, 98, 32, 40, 50, 44, 32, 48, 47, 49, 41, 10, 49, 58, 32, 97, 32, 40, 49, 44, 32, 48, 47, 48, 41, 10])) : shelf_Stack_Text_p [shB, shA] Q := by
  unfold shelf_Stack_Text_p; simp only [inR_i64]; intro _
  refine ⟨fun i b => (i = 0 ∧ b = ⟨false, []⟩) ∨ (i = 1 ∧ b = ⟨true, bytesL ln0⟩) ∨ (i = 2 ∧ b = ⟨true, bytesL ln0 ++ bytesL ln1⟩), fun i _ => (2 - i).toNat, .inl ⟨rfl, rfl⟩, ?_⟩
  rintro _ _ (⟨rfl, rfl⟩ | ⟨rfl, rfl⟩ | ⟨rfl, rfl⟩) _
  · refine ⟨fun _ => ⟨⟨by decide, by decide⟩, fun _ _ _ _ => ?_⟩, fun hn => absurd (by decide) hn⟩
    show strconv_Itoa_p 0 _
    refine Itoa0 fun _ => ⟨by decide, by decide, by decide, ?_⟩
    show strconv_Itoa_p 2 _
    refine Itoa2 fun _ => ⟨by decide, by decide, ?_⟩
    show strconv_Itoa_p 0 _
    refine Itoa0 fun _ => ⟨by decide, by decide, ?_⟩
    show strconv_Itoa_p 1 _
    refine Itoa1 fun _ => ⟨by decide, by decide, ?_⟩
    refine WriteString_p (by decide) fun _ => ⟨⟨by decide, by decide⟩, .inr (.inl ⟨rfl, rfl⟩), by decide⟩
  · refine ⟨fun _ => ⟨⟨by decide, by decide⟩, fun _ _ _ _ => ?_⟩, fun hn => absurd (by decide) hn⟩
    show strconv_Itoa_p 1 _
    refine Itoa1 fun _ => ⟨by decide, by decide, by decide, ?_⟩
    show strconv_Itoa_p 1 _
    refine Itoa1 fun _ => ⟨by decide, by decide, ?_⟩
    show strconv_Itoa_p 0 _
    refine Itoa0 fun _ => ⟨by decide, by decide, ?_⟩
    show strconv_Itoa_p 0 _
    refine Itoa0 fun _ => ⟨by decide, by decide, ?_⟩
    refine WriteString_p (by decide) fun _ => ⟨⟨by decide, by decide⟩, .inr (.inr ⟨rfl, rfl⟩), by decide⟩
  · refine ⟨fun hn => absurd hn (by decide), fun _ => ?_⟩
    unfold strings_Builder_String_p; intro _ _; exact h
theorem fEq_nil {Q : Bool → Prop} (h : Q true) : slices_Equal_files_Row_files_File_p [] [] Q := by
  unfold slices_Equal_files_Row_files_File_p; intro _ _
  refine ⟨fun hn => (hn (by first | trivial | rfl)).elim, fun _ => ⟨fun i => i = 0, fun _ => 0, rfl, ?_⟩⟩
  rintro _ rfl _
  exact ⟨fun hl => absurd hl (by decide), fun _ => h⟩
theorem Same_p {Q : Bool → Prop} (h : Q true) : shelf_Stack_Same_p [shA] [shA] Q := by
  unfold shelf_Stack_Same_p; intro _ _
  unfold slices_EqualFunc_shelf_Stack_shelf_Stack_shelf_Shelf_shelf_Shelf__shelf_Stack_Same_1_p; intro _ _
  simp only [inR_i64]
  refine ⟨fun hn => (hn (by first | trivial | rfl)).elim, fun _ => ⟨fun i => i = 0 ∨ i = 1, fun i => (1 - i).toNat, .inl rfl, ?_⟩⟩
  rintro _ (rfl | rfl) _
  · refine ⟨fun _ => ⟨⟨by decide, by decide⟩, fun _ _ _ _ => ⟨⟨by decide, by decide⟩, fun _ _ _ _ => ?_⟩⟩, fun hn => absurd (by decide) hn⟩
    unfold shelf_Stack_Same_1_p; intro _ _ _ _ _ _ _ _
    refine ⟨fun b => b = true, ?_, fun _ => ?_, fun hn => (hn (by first | trivial | rfl)).elim⟩
    · rintro _ rfl
      exact ⟨fun e => (by cases e), fun _ => ⟨⟨by decide, by decide⟩, .inr rfl, by decide⟩⟩
    · unfold files_Row_Same_p; intro _ _
      refine fEq_nil ⟨fun _ => ?_, fun e => by cases e⟩
      intro _ _
      refine fEq_nil ⟨fun _ => ?_, fun e => by cases e⟩
      exact decide_eq_true rfl
  · exact ⟨fun hl => absurd hl (by decide), fun _ => h⟩
theorem known23_p {Q : Bool → Prop} (h : Q true) : rectolaw23_known_p Q := by
  unfold rectolaw23_known_p
  have hA : ∀ x ∈ [shA], shOk x := by simp [okA]
  have hBA : ∀ x ∈ [shB, shA], shOk x := by simp [okA, okB]
  refine Push_p (s := []) (x := shA) (by simp) okA (by decide) fun _ _ => ?_
  refine Push_p (s := [shA]) (x := shB) hA okB (by decide) fun _ _ => ?_
  refine Get_p (s := [shB, shA]) hBA ⟨by decide, by decide⟩ fun _ _ _ _ _ => ?_
  refine Drop_p (s := [shB, shA]) hBA (by decide) ⟨by decide, by decide⟩ fun _ _ => ?_
  refine Get_out (s := [shB, shA]) (by decide) fun _ _ _ _ _ => ?_
  simp only [inR_i64]
  refine ⟨fun b => b = true, fun b hb => by rw [hb]; exact h, ⟨by decide, by decide⟩, ⟨by decide, by decide⟩, ⟨by decide, by decide⟩, fun _ => ⟨fun _ => ⟨fun _ => ⟨fun _ => ⟨fun _ => ⟨⟨by decide, by decide⟩, fun _ _ _ _ => ⟨fun _ => ⟨fun _ => ?_, fun hn => (hn (by first | trivial | rfl)).elim⟩, fun hn => (hn (by first | trivial | rfl)).elim⟩⟩, fun hn => (hn (by first | trivial | rfl)).elim⟩, fun hn => (hn (by first | trivial | rfl)).elim⟩, fun hn => (hn (by first | trivial | rfl)).elim⟩, fun hn => (hn (by first | trivial | rfl)).elim⟩, fun hn => (hn (by first | trivial | rfl)).elim⟩
  refine Text_p fun _ => ⟨fun _ => ?_, fun hn => (hn (by first | trivial | rfl)).elim⟩
  exact Same_p rfl
/-! ### the law -/
def stk : Nat → List S_shelf_Shelf
  | 0 => []
  | k + 1 => ⟨(k : Int) + 1, [], [], ByteArray.mk #[]⟩ :: stk k
theorem stk_len : ∀ k, (stk k).length = k
  | 0 => rfl
  | k + 1 => by rw [stk, List.length_cons, stk_len k]
theorem stk_ok : ∀ k, ∀ x ∈ stk k, shOk x
  | 0, x, h => by cases h
  | k + 1, x, h => by
    rw [stk] at h
    rcases List.mem_cons.1 h with rfl | h
    · exact ⟨Nat.zero_le _, Nat.zero_le _⟩
    · exact stk_ok k x h
theorem stk_get : ∀ k j, j < k → ((stk k).getD j default).Base = (k : Int) - j
  | k + 1, 0, _ => by show ((k : Int) + 1) = _; omega
  | k + 1, j + 1, h => by
    show ((stk k).getD j default).Base = _
    rw [stk_get k j (by omega)]; omega
theorem ShelfFull_p {more which : Int} {Q : Bool → Prop} (h : Q true) : rectolaw23_ShelfFull_p more which Q := by
  unfold rectolaw23_ShelfFull_p; intro hu1 hu2
  have h1 : 0 ≤ more ∧ more ≤ 255 := inR_u8.1 hu1
  have h2 : 0 ≤ which ∧ which ≤ 255 := inR_u8.1 hu2
  simp only [inR_i64]
  refine known23_p ⟨fun hx => (by cases hx), fun _ => ?_⟩
  refine ⟨fun s i => ∃ k : Nat, i = k ∧ (k : Int) ≤ 16 + more % 4 ∧ s = stk (min k 16), fun _ i => (16 + more % 4 - i).toNat, ⟨0, rfl, by omega, rfl⟩, ?_⟩
  rintro _ _ ⟨k, rfl, hk, rfl⟩ _ _
  refine ⟨⟨by omega, by omega⟩, fun hlt => ?_, fun hge => ?_⟩
  · refine ⟨fun s => s = stk (min (k + 1) 16), ?_, ⟨by omega, by omega⟩, ?_⟩
    · rintro _ rfl _
      exact ⟨⟨by omega, by omega⟩, ⟨k + 1, by omega, by omega, rfl⟩, by dsimp only; omega⟩
    · by_cases h16 : k < 16
      · rw [Nat.min_eq_left (by omega : k ≤ 16), Nat.min_eq_left (by omega : k + 1 ≤ 16)]
        refine Push_p (stk_ok k) ⟨Nat.zero_le _, Nat.zero_le _⟩ (by rw [stk_len]; exact h16) fun _ _ => ?_
        refine ⟨fun b => b = false, ?_, fun _ => ⟨fun hn => absurd hn (by omega), fun _ => rfl⟩, fun hn => absurd (by rw [decide_eq_true rfl, decide_eq_true (by omega : (k : Int) < 16)]) hn⟩
        rintro _ rfl
        exact ⟨fun e => (by cases e), fun _ => ⟨fun _ => rfl, fun hn => absurd (by omega) hn⟩⟩
      · rw [Nat.min_eq_right (by omega : 16 ≤ k), Nat.min_eq_right (by omega : 16 ≤ k + 1)]
        refine Push_full (by rw [stk_len]; omega) fun _ _ => ?_
        refine ⟨fun b => b = false, ?_, fun _ => ⟨fun _ => rfl, fun hn => absurd (by omega) hn⟩, fun hn => absurd (by rw [decide_eq_false (by decide), decide_eq_false (by omega : ¬ (k : Int) < 16)]) hn⟩
        rintro _ rfl
        exact ⟨fun e => (by cases e), fun _ => ⟨fun hn => absurd hn (by omega), fun _ => rfl⟩⟩
  · rw [Nat.min_eq_right (by omega : 16 ≤ k)]
    obtain ⟨n, hn, hn16⟩ : ∃ n : Nat, which % 16 = n ∧ n < 16 := ⟨(which % 16).toNat, by omega, by omega⟩
    rw [hn]
    have hl := stk_len 16
    have hd : ∀ x ∈ (stk 16).take n ++ (stk 16).drop (n + 1), shOk x := fun x hx => by
      rcases List.mem_append.1 hx with h | h
      · exact stk_ok 16 x (List.mem_of_mem_take h)
      · exact stk_ok 16 x (List.mem_of_mem_drop h)
    have hdl : ((stk 16).take n ++ (stk 16).drop (n + 1)).length = 15 := by rw [List.length_append, List.length_take, List.length_drop, hl]; omega
    refine Drop_p (stk_ok 16) (by rw [hl]; decide) ⟨by omega, by rw [hl]; omega⟩ fun _ _ => ?_
    rw [show ((n : Int)).toNat = n from rfl, show ((n : Int) + 1).toNat = n + 1 from by omega]
    refine Push_p hd ⟨Nat.zero_le _, Nat.zero_le _⟩ (by rw [hdl]; decide) fun _ _ => ?_
    have hd2 : ∀ x ∈ (⟨99, [], [], ByteArray.mk #[]⟩ : S_shelf_Shelf) :: ((stk 16).take n ++ (stk 16).drop (n + 1)), shOk x := fun x hx => by
      rcases List.mem_cons.1 hx with rfl | h
      · exact ⟨Nat.zero_le _, Nat.zero_le _⟩
      · exact hd x h
    have hdl2 : ((⟨99, [], [], ByteArray.mk #[]⟩ : S_shelf_Shelf) :: ((stk 16).take n ++ (stk 16).drop (n + 1))).length = 16 := by rw [List.length_cons, hdl]
    refine Get_p hd2 ⟨by omega, by rw [hdl2]; omega⟩ fun _ _ _ _ _ => ⟨⟨by omega, by omega⟩, ?_⟩
    rw [lget_zero]
    have fin : ∀ (x : S_shelf_Shelf) (r : Int), (r = if n = 15 then 1 else 0) → (n < 15 → x.Base = 16 - n - 1) → ((inR .i64 x.Base) → ((x.Index.length ≤ 9223372036854775807) → ((x.Work.length ≤ 9223372036854775807) → ((x.Text.size ≤ maxLen) → ((inR .i64 r) → True))))) := fun _ _ _ _ _ _ _ _ _ => trivial
    by_cases h15 : n = 15
    · refine Get_out (by rw [hdl2]; omega) fun _ _ _ _ _ => ⟨⟨⟨by omega, by omega⟩, ⟨by omega, by omega⟩, fun _ => ⟨fun _ => trivial, fun _ => trivial⟩, fun _ => trivial⟩, fun hbad => ?_, fun _ => ⟨fun _ => h, fun hb => absurd (by omega) hb⟩⟩
      rcases hbad with hb | hb | hb
      · exact (hb (by first | trivial | rfl)).elim
      · exact (hb (by first | trivial | rfl)).elim
      · exact absurd (by rw [hdl2]; rfl) hb
    · refine Get_p hd2 ⟨by omega, by rw [hdl2]; omega⟩ fun _ _ _ _ _ => ⟨⟨⟨by omega, by omega⟩, ⟨by omega, by omega⟩, fun _ => ⟨fun _ => trivial, fun _ => trivial⟩, fun _ => trivial⟩, fun hbad => ?_, fun _ => ⟨fun hb => absurd hb (by omega), fun _ => ⟨⟨fun _ => ⟨⟨by omega, by omega⟩, ⟨by omega, by omega⟩, trivial⟩, fun _ => trivial⟩, ?_⟩⟩⟩
      · rcases hbad with hb | hb | hb
        · exact (hb (by first | trivial | rfl)).elim
        · exact (hb (by first | trivial | rfl)).elim
        · exact absurd (by rw [hdl2]; rfl) hb
      · have e : lget ((⟨99, [], [], ByteArray.mk #[]⟩ : S_shelf_Shelf) :: ((stk 16).take n ++ (stk 16).drop (n + 1))) ((n : Int) + 1) = (stk 16).getD (n + 1) default := by
          unfold lget
          rw [show ((n : Int) + 1).toNat = n + 1 from by omega]
          show ((stk 16).take n ++ (stk 16).drop (n + 1)).getD n default = _
          rw [List.getD_eq_getElem?_getD, List.getD_eq_getElem?_getD, List.getElem?_append_right (by rw [List.length_take]; omega), List.length_take, hl, Nat.min_eq_left (by omega), Nat.sub_self, List.getElem?_drop, Nat.add_zero]
        rw [e]
        have e2 := stk_get 16 (n + 1) (by omega)
        rw [decide_eq_true ⟨rfl, by rw [e2]; omega⟩]
        exact h
end Go.Proofs.YtoankcdcnhooiaaDoor
