/- Chapter 2, plainly: digits, and the laws. -/
import Derived.Test.YtjejeipdndddpaaP2b
namespace Go.Proofs.Ytjejeipdndddpaa
open Go
theorem strOfNums_cat (A B : List Int) : strOfNums A ++ strOfNums B = strOfNums (A ++ B) := by
  unfold strOfNums; simp [ByteArray.ext_iff]
theorem strOfNums_of {s : ByteArray} : strOfNums (bytesL s) = s := by
  unfold strOfNums bytesL
  rw [List.map_map]
  have : (fun n : Int => UInt8.ofNat n.toNat) ∘ (fun b : UInt8 => (b.toNat : Int)) = id := by funext b; simp
  rw [this, List.map_id]
theorem bytesL_of {L : List Int} (h : ∀ x ∈ L, inR .u8 x) : bytesL (strOfNums L) = L := by
  unfold strOfNums bytesL
  simp only [List.map_map]
  refine (List.map_congr_left fun x hx => ?_).trans (List.map_id _)
  have := h x hx; rw [inR_u8] at this
  simp only [Function.comp, UInt8.toNat_ofNat', id]
  omega
theorem and15 (x : Nat) : x &&& 15 = x % 16 := Nat.and_two_pow_sub_one_eq_mod x 4
theorem ishl_u8 (x y : Nat) (hy : y ≤ 8) : ishl .u8 x y = ((x * 2 ^ y % 256 : Nat) : Int) := by
  unfold ishl
  rw [Int.toNat_natCast, show IntKind.u8.bits = 8 from rfl, Nat.min_eq_left hy, wrap_u8_mod, Int.natCast_emod, Int.natCast_mul, Int.natCast_pow]; rfl
theorem digit_p {id : List Int} {k : Nat} {Q : Int → Prop} (hok : okArr .u8 32 id) (hk : k < 64) (h : Q (digS id k : Nat)) : sha_ID_digit_p id (k : Int) Q := by
  unfold sha_ID_digit_p; intro _ _
  obtain ⟨v, hv, hl⟩ := okArr_nat hok (i := k / 2) (by omega)
  rw [show (k : Int) / 2 = ((k / 2 : Nat) : Int) from by omega, hv]
  unfold digS at h
  rw [hv, Int.toNat_natCast] at h
  refine ⟨by omega, fun he => ⟨by omega, by omega, ?_⟩, fun ho => ⟨by omega, by omega, ?_⟩⟩
  · rw [if_pos (by omega)] at h
    rw [show (4 : Int) = ((4 : Nat) : Int) from rfl, ishr_nat .u8 v 4 (by decide)]; exact h
  · rw [if_neg (by omega)] at h
    rw [show (15 : Int) = ((15 : Nat) : Int) from rfl, iand_u8 hl (by decide), and15]; exact h
theorem hex_at : ∀ d : Nat, d < 16 → bget (ByteArray.mk #[48, 49, 50, 51, 52, 53, 54, 55, 56, 57, 97, 98, 99, 100, 101, 102]) (d : Int) = hexC d := by decide
theorem String_p {id : List Int} {Q : ByteArray → Prop} (hok : okArr .u8 32 id) (h : Q (hexS id)) : sha_ID_String_p id Q := by
  unfold sha_ID_String_p; simp only [inR_i64]; intro _
  have hl : (List.replicate (64 : Int).toNat (default : Int)).length = 64 := by simp
  rw [hl]
  refine ⟨by omega, fun s i => ∃ n : Nat, i = n ∧ n ≤ 64 ∧ s.length = 64 ∧ ∀ j : Nat, j < n → lget s (j : Int) = hexC (digS id j), fun _ i => 64 - i.toNat, ⟨0, rfl, by omega, hl, fun j hj => by omega⟩, ?_⟩
  rintro s _ ⟨n, rfl, hn, hs, hf⟩ _ _
  refine ⟨fun hlt => ?_, fun hge => ?_⟩
  · have hd := digS_lt hok (i := n) (by omega)
    refine digit_p hok (by omega) fun _ => ⟨⟨by omega, ?_⟩, inL_nat.2 (by omega), fun _ => ?_⟩
    · show ((digS id n : Nat) : Int) < 16; omega
    rintro _ rfl
    refine ⟨by omega, ⟨n + 1, rfl, by omega, by rw [len_lset]; exact hs, fun j hj => ?_⟩, by first | (dsimp only; omega) | omega⟩
    rw [hex_at _ hd]
    by_cases hjn : j = n
    · subst hjn; rw [lget_lset_eq (by omega)]
    · rw [lget_lset_ne (by omega)]; exact hf j (by omega)
  · obtain rfl : n = 64 := by omega
    have : s = (List.range 64).map fun i => hexC (digS id i) := ext_lget hs (by simp) fun j hj => by rw [hf j hj, lget_range _ hj]
    rw [this]; exact h
theorem rString_p {id : List Int} {Q : ByteArray → Prop} (hok : okArr .u8 32 id) (h : Q (hexS id)) : rectoref2_String_p id Q := by
  unfold rectoref2_String_p; simp only [inR_i64]; intro _
  refine ⟨fun s i => ∃ n : Nat, i = n ∧ n ≤ 32 ∧ s = strOfNums ((List.range (2 * n)).map fun i => hexC (digS id i)), fun _ i => 32 - i.toNat, ⟨0, rfl, by omega, rfl⟩, ?_⟩
  rintro _ _ ⟨n, rfl, hn, rfl⟩ _ _
  refine ⟨fun hlt => ?_, fun hge => ?_⟩
  · obtain ⟨v, hv, hl⟩ := okArr_nat hok (i := n) (by omega)
    have d0 : digS id (2 * n) = v / 16 := by unfold digS; rw [if_pos (by omega), show 2 * n / 2 = n from by omega, hv, Int.toNat_natCast]
    have d1 : digS id (2 * n + 1) = v % 16 := by unfold digS; rw [if_neg (by omega), show (2 * n + 1) / 2 = n from by omega, hv, Int.toNat_natCast]
    rw [hv, show (4 : Int) = ((4 : Nat) : Int) from rfl, ishr_nat .u8 v 4 (by decide), show (15 : Int) = ((15 : Nat) : Int) from rfl, iand_u8 hl (by decide), and15]
    rw [hex_at _ (show v / 2 ^ 4 < 16 by simp; omega), hex_at _ (show v % 16 < 16 by omega)]
    refine ⟨by omega, ⟨by omega, ?_⟩, by omega, ⟨by omega, ?_⟩, ?_, by omega, ⟨n + 1, rfl, by omega, ?_⟩, by first | (dsimp only; omega) | omega⟩
    · show ((v / 2 ^ 4 : Nat) : Int) < 16; simp; omega
    · show ((v % 16 : Nat) : Int) < 16; omega
    · rw [strOfNums_cat, strOfNums_size]; unfold maxLen; simp; omega
    · rw [strOfNums_cat, show 2 * (n + 1) = 2 * n + 1 + 1 from by omega, List.range_succ, List.range_succ]
      simp only [List.map_append, List.append_assoc, List.map_cons, List.map_nil, List.cons_append, List.nil_append, d0, d1]
  · obtain rfl : n = 32 := by omega
    exact h
theorem value_p {d : Nat} {Q : Int → Bool → Prop} (hd : d < 16) (h : Q (d : Int) true) : sha_value_p (hexC d) Q := by
  unfold sha_value_p; intro _
  unfold hexC
  by_cases h10 : d < 10
  · rw [if_pos h10]
    refine ⟨fun _ => ?_, fun hn => absurd (by omega) hn⟩
    rw [show (((48 + d : Nat) : Int) - 48) % 256 = (d : Int) from by omega]; exact h
  · rw [if_neg h10]
    refine ⟨fun hn => absurd hn (by omega), fun _ => ⟨fun _ => ?_, fun hn => absurd (by omega) hn⟩⟩
    rw [show ((((87 + d : Nat) : Int) - 97) % 256 + 10) % 256 = (d : Int) from by omega]; exact h
theorem Parse_p {id : List Int} {Q : List Int → PErr → Prop} (hok : okArr .u8 32 id) (h : Q id PErr.nil) : sha_Parse_p (hexS id) Q := by
  unfold sha_Parse_p; simp only [inR_i64]; intro _
  rw [hexS_size]
  refine ⟨fun hn => absurd hn (by decide), fun _ => ⟨fun hn => absurd hn (by decide), fun _ => ?_⟩⟩
  refine ⟨fun s f => ∃ n : Nat, s = n ∧ n ≤ 64 ∧ ∀ j : Nat, j < 32 → lget f (j : Int) = if 2 * j + 1 < n then lget id (j : Int) else if 2 * j < n then ((digS id (2 * j) : Nat) : Int) else 0, fun s _ => 64 - s.toNat, ⟨0, rfl, by omega, fun j hj => ?_⟩, ?_⟩
  · rw [if_neg (by omega), if_neg (by omega)]
    show lget (List.replicate 32 (0 : Int)) (j : Int) = 0
    rw [lget_lt (by simpa using hj), List.getElem_replicate]
  rintro _ f ⟨n, rfl, hn, hf⟩ _ hok2
  refine ⟨fun hlt => ?_, fun hge => ?_⟩
  · have hd := digS_lt hok (i := n) (by omega)
    rw [hexS_get hok (by omega)]
    refine ⟨by omega, value_p hd fun _ => ⟨fun hx => by simp at hx, fun _ => ⟨by omega, by omega, by omega, by omega, ?_⟩⟩⟩
    rintro _ rfl
    refine ⟨by omega, ⟨n + 1, rfl, by omega, fun j hj => ?_⟩, by first | (dsimp only; omega) | omega⟩
    rw [show (n : Int) / 2 = ((n / 2 : Nat) : Int) from by omega]
    obtain ⟨v, hv, hl⟩ := okArr_nat hok (i := n / 2) (by omega)
    by_cases hjn : j = n / 2
    · subst hjn
      rw [lget_lset_eq (by rw [hok2.1]; omega), hf _ hj]
      by_cases he : n % 2 = 0
      · have hdn : digS id (2 * (n / 2)) = digS id n := by rw [show 2 * (n / 2) = n from by omega]
        rw [if_neg (by omega), if_neg (by omega), if_neg (by omega), if_pos (by omega), hdn]
        have h0 : ishl .u8 0 4 = ((0 : Nat) : Int) := by decide
        rw [h0, ior_u8 (by decide) (by omega), Nat.zero_or]
      · have hd0 : digS id (2 * (n / 2)) = v / 16 := by unfold digS; rw [if_pos (by omega), show 2 * (n / 2) / 2 = n / 2 from by omega, hv, Int.toNat_natCast]
        have hd1 : digS id n = v % 16 := by unfold digS; rw [if_neg he, hv, Int.toNat_natCast]
        rw [if_neg (by omega), if_pos (by omega), if_pos (by omega), hd0, hd1, hv, show (4 : Int) = ((4 : Nat) : Int) from rfl, ishl_u8 _ _ (by decide), Nat.mod_eq_of_lt (show v / 16 * 2 ^ 4 < 256 by omega), ior_u8 (by omega) (by omega), Nat.or_comm, or_disj (n := 4) (by omega)]
        omega
    · rw [lget_lset_ne (by omega), hf j hj]
      by_cases h1 : 2 * j + 1 < n
      · rw [if_pos h1, if_pos (by omega)]
      · by_cases h2 : 2 * j < n
        · omega
        · rw [if_neg h1, if_neg h2, if_neg (by omega), if_neg (by omega)]
  · obtain rfl : n = 64 := by omega
    have : f = id := ext_lget hok2.1 hok.1 fun j hj => by rw [hf j hj, if_pos (by omega)]
    rw [this]; exact h
theorem ParseS_p {s : ByteArray} {Q : List Int → PErr → Prop} (hs : s.size < 64) (h : ∀ l p a n, Q l (.fault p a n)) : sha_Parse_p s Q := by
  unfold sha_Parse_p; intro _
  refine ⟨fun _ => ?_, fun hn => absurd (by omega) hn⟩
  unfold sha_fault_p; intro _ _
  rintro _ rfl; exact h _ _ _ _
theorem shrF_go {a b : List Int} {n : Nat} (hn : n < 64) : shrF a b (64 - n) n = if digS a n = digS b n then shrF a b (64 - (n + 1)) (n + 1) else n := by
  rw [show 64 - n = (64 - (n + 1)) + 1 from by omega]; rfl
theorem Shared_p {a b : List Int} {Q : Int → Prop} (ha : okArr .u8 32 a) (hb : okArr .u8 32 b) (h : Q (shrS a b : Nat)) : sha_Shared_p a b Q := by
  unfold sha_Shared_p; simp only [inR_i64]; intro _ _
  refine ⟨fun s => ∃ n : Nat, s = n ∧ n ≤ 64 ∧ shrS a b = shrF a b (64 - n) n, fun s => 64 - s.toNat, ⟨0, rfl, by omega, rfl⟩, ?_⟩
  rintro _ ⟨n, rfl, hn, he⟩ _
  refine ⟨fun hlt => ?_, fun hge => ?_⟩
  · refine digit_p ha (by omega) fun _ => digit_p hb (by omega) fun _ => ⟨fun hne => ?_, fun heq => ?_⟩
    · rw [shrF_go (by omega), if_neg (by omega)] at he
      rw [← he]; exact h
    · rw [shrF_go (by omega), if_pos (by omega)] at he
      exact ⟨by omega, ⟨n + 1, rfl, by omega, he⟩, by first | (dsimp only; omega) | omega⟩
  · obtain rfl : n = 64 := by omega
    have : shrS a b = 64 := he
    rw [this] at h; exact h
theorem rShared_p {a b : List Int} {Q : Int → Prop} (ha : okArr .u8 32 a) (hb : okArr .u8 32 b) (h : Q (shrS a b : Nat)) : rectoref2_Shared_p a b Q := by
  unfold rectoref2_Shared_p; simp only [inR_i64]; intro _ _
  refine rString_p ha fun _ => rString_p hb fun _ => ?_
  refine ⟨fun s => ∃ n : Nat, s = n ∧ n ≤ 64 ∧ shrS a b = shrF a b (64 - n) n, fun s => 64 - s.toNat, ⟨0, rfl, by omega, rfl⟩, ?_⟩
  rintro _ ⟨n, rfl, hn, he⟩ _
  refine ⟨fun s => s = decide (n < 64 ∧ digS a n = digS b n), ?_, fun hlt => ?_, fun hge => ?_⟩
  · rintro _ rfl
    refine ⟨fun ht => ?_, fun hf => ?_⟩
    · obtain ⟨h1, h2⟩ := of_decide_eq_true ht
      rw [shrF_go h1, if_pos h2] at he
      exact ⟨by omega, ⟨n + 1, rfl, by omega, he⟩, by first | (dsimp only; omega) | omega⟩
    · have hnn := of_decide_eq_false hf
      by_cases h1 : n < 64
      · have h2 : ¬ digS a n = digS b n := fun h2 => hnn ⟨h1, h2⟩
        rw [shrF_go h1, if_neg h2] at he
        rw [← he]; exact h
      · obtain rfl : n = 64 := by omega
        have : shrS a b = 64 := he
        rw [this] at h; exact h
  · have h1 : n < 64 := by omega
    rw [hexS_size, hexS_size, hexS_get ha h1, hexS_get hb h1]
    refine ⟨by omega, by omega, ?_⟩
    show decide _ = decide _
    rw [decide_eq_decide]
    exact ⟨fun hh => ⟨h1, hexC_inj (digS_lt ha h1) (digS_lt hb h1) hh⟩, fun hh => by rw [hh.2]⟩
  · show false = decide _
    rw [eq_comm, decide_eq_false_iff_not]; omega
theorem shortF_step (id : List Int) {all : List (List Int)} {n : Nat} (hn : n < all.length) (out : Int) : shortF id (all.drop n) out = shortF id (all.drop (n + 1)) (if lget all (n : Int) = id then out else max out ((shrS (lget all (n : Int)) id : Nat) + 1 : Int)) := by
  rw [List.drop_eq_getElem_cons hn, lget_lt hn]; rfl
theorem Short_p {all : List (List Int)} {id : List Int} {least : Int} {Q : Int → Prop} (hid : okArr .u8 32 id) (h : 0 ≤ shortS all id least → shortS all id least ≤ 64 → Q (shortS all id least)) : sha_Short_p all id least Q := by
  unfold sha_Short_p; simp only [inR_i64]; intro _ _ _
  refine ⟨fun out s => ∃ n : Nat, s = n ∧ n ≤ all.length ∧ 0 ≤ out ∧ out ≤ 64 ∧ shortF id (all.drop n) out = shortS all id least, fun _ s => all.length - s.toNat, ⟨0, rfl, by omega, by omega, by omega, rfl⟩, ?_⟩
  rintro out _ ⟨n, rfl, hn, h0, h64, he⟩ _ _
  refine ⟨fun hlt => ?_, fun hge => ?_⟩
  · have hnl : n < all.length := by omega
    rw [shortF_step id hnl] at he
    refine ⟨fun o => o = (if lget all (n : Int) = id then out else max out ((shrS (lget all (n : Int)) id : Nat) + 1 : Int)) ∧ 0 ≤ o ∧ o ≤ 64, ?_, inL_nat.2 hnl, fun hok => ⟨fun hne => ?_, fun heq => ?_⟩⟩
    · rintro _ ⟨rfl, h1, h2⟩ _
      exact ⟨by omega, ⟨n + 1, rfl, by omega, h1, h2, he⟩, by first | (dsimp only; omega) | omega⟩
    · have := shrS_lt hok hid hne
      refine Shared_p hok hid fun _ => ⟨by omega, ?_, by omega, by omega⟩
      rw [if_neg hne]
    · exact ⟨by rw [if_pos heq], h0, h64⟩
  · have : n = all.length := by omega
    subst this
    rw [List.drop_length] at he
    replace he : out = shortS all id least := he
    rw [he] at h0 h64 ⊢
    exact h h0 h64
theorem rShort_p {all : List (List Int)} {id : List Int} {least : Int} {Q : Int → Prop} (hid : okArr .u8 32 id) (h : Q (shortS all id least)) : rectoref2_Short_p all id least Q := by
  unfold rectoref2_Short_p; simp only [inR_i64]; intro _ _ hr
  refine ⟨fun n => n = max least 0, ?_, fun _ => by omega, fun _ => by omega⟩
  rintro n rfl _
  refine ⟨fun o s => ∃ n : Nat, s = n ∧ n ≤ all.length ∧ 0 ≤ o ∧ shortF id (all.drop n) (min o 64) = shortS all id least, fun _ s => all.length - s.toNat, ⟨0, rfl, by omega, by omega, rfl⟩, ?_⟩
  rintro out _ ⟨n, rfl, hn, h0, he⟩ _ _
  refine ⟨fun hlt => ?_, fun hge => ?_⟩
  · have hnl : n < all.length := by omega
    rw [shortF_step id hnl] at he
    refine ⟨fun o => 0 ≤ o ∧ min o 64 = (if lget all (n : Int) = id then min out 64 else max (min out 64) ((shrS (lget all (n : Int)) id : Nat) + 1 : Int)), ?_, ?_⟩
    · rintro o ⟨h1, h2⟩ _
      exact ⟨by omega, ⟨n + 1, rfl, by omega, h1, by rw [h2]; exact he⟩, by first | (dsimp only; omega) | omega⟩
    refine ⟨fun s => okArr .u8 32 (lget all (n : Int)) ∧ s = decide (lget all (n : Int) ≠ id ∧ ((shrS (lget all (n : Int)) id : Nat) + 1 : Int) > out), ?_, inL_nat.2 hnl, fun hok => ⟨fun heq => ⟨hok, ?_⟩, fun hne => ⟨inL_nat.2 hnl, fun _ => rShared_p hok hid fun _ => ⟨by have := shrS_le (lget all (n : Int)) id; omega, hok, ?_⟩⟩⟩⟩
    · rintro _ ⟨hok, rfl⟩
      refine ⟨fun ht => ⟨inL_nat.2 hnl, fun hok => rShared_p hok hid fun _ => ?_⟩, fun hf => ⟨h0, ?_⟩⟩
      · obtain ⟨h1, h2⟩ := of_decide_eq_true ht
        have := shrS_lt hok hid h1
        refine ⟨by omega, by omega, ?_⟩
        rw [if_neg h1]; omega
      · have hnn := of_decide_eq_false hf
        by_cases h1 : lget all (n : Int) = id
        · rw [if_pos h1]
        · have h2 : ¬ ((shrS (lget all (n : Int)) id : Nat) + 1 : Int) > out := fun h2 => hnn ⟨h1, h2⟩
          have := shrS_lt hok hid h1
          rw [if_neg h1]; omega
    · exact (decide_eq_false fun hh => hh.1 heq).symm
    · show decide _ = decide _
      rw [decide_eq_decide]; exact ⟨fun hh => ⟨hne, hh⟩, fun hh => hh.2⟩
  · have : n = all.length := by omega
    subst this
    rw [List.drop_length] at he
    replace he : min out 64 = shortS all id least := he
    refine ⟨fun hgt => ?_, fun hle => ?_⟩
    · rw [← he, show min out 64 = 64 from by omega] at h; exact h
    · rw [← he, show min out 64 = out from by omega] at h; exact h
end Go.Proofs.Ytjejeipdndddpaa
