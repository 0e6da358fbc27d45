/- Chapter 2, plainly: what the program's and the document's sums of bytes come to. -/
import Derived.Test.YtjejeipdndddpaaSh6
import Derived.Test.YtjejeipdndddpaaSha
namespace Go.Proofs.Ytjejeipdndddpaa
open Go
abbrev natI (l : List Nat) : List Int := l.map fun n : Nat => (n : Int)
theorem lget_lset_eq {f : List Int} {k : Nat} (h : k < f.length) (v : Int) : lget (lset f (k : Int) v) (k : Int) = v := by
  rw [lset_nat, lget_lt (by simpa using h)]; simp
theorem lget_lset_ne {f : List Int} {k j : Nat} (h : k ≠ j) (v : Int) : lget (lset f (k : Int) v) (j : Int) = lget f (j : Int) := by
  rw [lset_nat, lget_nat, lget_nat]; simp [List.getD, List.getElem?_set_ne h]
theorem ext_lget {f g : List Int} {m : Nat} (hf : f.length = m) (hg : g.length = m) (h : ∀ j : Nat, j < m → lget f (j : Int) = lget g (j : Int)) : f = g := by
  refine List.ext_getElem (by rw [hf, hg]) fun i h1 h2 => ?_
  have := h i (by omega)
  rwa [lget_lt h1, lget_lt h2] at this
theorem lget_range {m j : Nat} (g : Nat → Int) (h : j < m) : lget ((List.range m).map g) (j : Int) = g j := by
  rw [lget_lt (by simpa using h)]; simp
theorem lget_natI (l : List Nat) (j : Nat) : lget (natI l) (j : Int) = ((l.getD j 0 : Nat) : Int) := by
  rw [lget_nat]; simp only [List.getD, List.getElem?_map]; cases l[j]? <;> rfl
theorem iwrap8m (v : Nat) : iwrap .u8 (v : Int) = ((v % 256 : Nat) : Int) := by unfold iwrap; rw [wrap_u8_mod]; omega
theorem u8_nat {x : Int} (h : inR .u8 x) : ∃ v : Nat, x = v ∧ v < 256 := by rw [inR_u8] at h; exact ⟨x.toNat, by omega, by omega⟩
/-! a word turned -/
theorem right_p {x : Nat} (k : Nat) {n : Int} {Q : Int → Prop} (hn : n = (k : Int)) (h0 : 0 < k) (h1 : k < 32) (hx : x < 4294967296) (h : inR .u32 (rotr x k : Nat) → Q (rotr x k : Nat)) : sha_right_p (x : Int) n Q := by
  subst hn
  unfold sha_right_p math_bits_RotateLeft32_p
  have e1 : iwrap .u64 (-(k : Int)) = ((18446744073709551616 - k : Nat) : Int) := by unfold iwrap; rw [wrap_u64_mod]; omega
  have e2 : iand .u64 (iwrap .u64 (-(k : Int))) 31 = ((32 - k : Nat) : Int) := by
    rw [e1, show (31 : Int) = ((31 : Nat) : Int) from rfl, iand_u64 (by omega) (by decide), show (31 : Nat) = 2 ^ 5 - 1 from rfl, Nat.and_two_pow_sub_one_eq_mod]
    omega
  refine fun _ _ => ⟨inR_i64.2 ⟨by omega, by omega⟩, fun _ _ => ?_⟩
  rintro _ rfl _ rfl
  rw [e2, show (((32 : Int) - ((32 - k : Nat) : Int)) % 18446744073709551616) = (k : Int) from by omega, ishl_u32 _ _ (by omega), ishr_nat .u32 x k (show k ≤ 32 by omega), ior_u32 (mod_lt32 _) (div_lt32 _ hx)]
  exact h
theorem rturn_p {x : Nat} (k : Nat) {n : Int} {Q : Int → Prop} (hn : n = (k : Int)) (h0 : 0 < k) (h1 : k < 32) (hx : x < 4294967296) (h : inR .u32 (rotr x k : Nat) → Q (rotr x k : Nat)) (hr : inR .u32 (rotr x k : Nat)) : rectoref2_turn_p (x : Int) n Q := by
  subst hn
  unfold rectoref2_turn_p
  have e1 : iwrap .u64 (k : Int) = (k : Int) := by unfold iwrap; rw [wrap_u64_mod]; omega
  have e2 : iwrap .u64 ((32 : Int) - (k : Int)) = ((32 - k : Nat) : Int) := by unfold iwrap; rw [wrap_u64_mod]; omega
  refine fun _ _ => ⟨inR_i64.2 ⟨by omega, by omega⟩, ?_⟩
  rintro _ rfl
  rw [e1, e2, ishl_u32 _ _ (by omega), ishr_nat .u32 x k (show k ≤ 32 by omega), ior_u32 (div_lt32 _ hx) (mod_lt32 _), Nat.or_comm]
  exact h hr
theorem rotr_in {x k : Nat} (hx : x < 4294967296) : inR .u32 (rotr x k : Nat) := by rw [inR_u32]; have := rotr_lt k hx; omega
/-! the words of a block -/
theorem word_eq {b : List Int} {i : Int} {k v0 v1 v2 v3 : Nat} (hi : i = 4 * (k : Int)) (h0 : lget b i = v0) (h1 : lget b (i + 1) = v1) (h2 : lget b (i + 2) = v2) (h3 : lget b (i + 3) = v3) (l3 : v3 < 256) :
    ior .u32 (ior .u32 (ior .u32 (ishl .u32 (lget b i) 24) (ishl .u32 (lget b (i + 1)) 16)) (ishl .u32 (lget b (i + 2)) 8)) (lget b (i + 3)) = ((word0 b k : Nat) : Int) := by
  subst hi
  unfold word0
  rw [show ((4 * k : Nat) : Int) = 4 * (k : Int) from by omega, show ((4 * k + 1 : Nat) : Int) = 4 * (k : Int) + 1 from by omega, show ((4 * k + 2 : Nat) : Int) = 4 * (k : Int) + 2 from by omega, show ((4 * k + 3 : Nat) : Int) = 4 * (k : Int) + 3 from by omega, h0, h1, h2, h3]
  simp only [Int.toNat_natCast]
  rw [show (24 : Int) = ((24 : Nat) : Int) from rfl, show (16 : Int) = ((16 : Nat) : Int) from rfl, show (8 : Int) = ((8 : Nat) : Int) from rfl, ishl_u32 _ _ (by decide), ishl_u32 _ _ (by decide), ishl_u32 _ _ (by decide),
    ior_u32 (mod_lt32 _) (mod_lt32 _), ior_u32 (or_lt32 (mod_lt32 _) (mod_lt32 _)) (mod_lt32 _), ior_u32 (or_lt32 (or_lt32 (mod_lt32 _) (mod_lt32 _)) (mod_lt32 _)) (by omega), Nat.mod_eq_of_lt (show v3 < 4294967296 by omega)]
theorem sig0_eq {x : Nat} (hx : x < 4294967296) : ixor .u32 (ixor .u32 ((rotr x 7 : Nat) : Int) ((rotr x 18 : Nat) : Int)) (ishr .u32 (x : Int) 3) = ((ssig0 x : Nat) : Int) := by
  rw [show (3 : Int) = ((3 : Nat) : Int) from rfl, ishr_nat .u32 x 3 (by decide), ixor_u32 (rotr_lt _ hx) (rotr_lt _ hx), ixor_u32 (xor_lt32 (rotr_lt _ hx) (rotr_lt _ hx)) (div_lt32 _ hx)]; rfl
theorem sig1_eq {x : Nat} (hx : x < 4294967296) : ixor .u32 (ixor .u32 ((rotr x 17 : Nat) : Int) ((rotr x 19 : Nat) : Int)) (ishr .u32 (x : Int) 10) = ((ssig1 x : Nat) : Int) := by
  rw [show (10 : Int) = ((10 : Nat) : Int) from rfl, ishr_nat .u32 x 10 (by decide), ixor_u32 (rotr_lt _ hx) (rotr_lt _ hx), ixor_u32 (xor_lt32 (rotr_lt _ hx) (rotr_lt _ hx)) (div_lt32 _ hx)]; rfl
theorem next_eq {x : List Int} {k : Nat} (h : 16 ≤ k) : ((((wn x (k - 16) : Int) + (ssig0 (wn x (k - 15)) : Nat)) % 4294967296 + (wn x (k - 7) : Nat)) % 4294967296 + (ssig1 (wn x (k - 2)) : Nat)) % 4294967296 = ((wn x k : Nat) : Int) := by
  rw [wn_hi x h]; omega
theorem words_p {b : List Int} {Q : List Int → Prop} (hb : 64 ≤ b.length) (hb2 : b.length ≤ 1000000000000) (h : Q ((List.range 64).map fun j => ((wn b j : Nat) : Int))) : sha_words_p b Q := by
  unfold sha_words_p; simp only [inR_i64]; intro _
  refine ⟨fun s f => ∃ k : Nat, s = k ∧ k ≤ 16 ∧ ∀ j : Nat, j < k → lget f (j : Int) = ((wn b j : Nat) : Int), fun s _ => 16 - s.toNat, ⟨0, rfl, by omega, fun j hj => by omega⟩, ?_⟩
  rintro _ f ⟨k, rfl, hk, hf⟩ _ hok
  refine ⟨fun hlt => ?_, fun hge => ?_⟩
  · refine ⟨by omega, by unfold inL; omega, fun r0 => ⟨by omega, by omega, by unfold inL; omega, fun r1 => ?_⟩⟩
    rintro _ rfl
    refine ⟨by omega, by omega, by unfold inL; omega, fun r2 => ?_⟩
    rintro _ rfl
    refine ⟨by omega, by omega, by unfold inL; omega, fun r3 => ⟨by omega, ?_⟩⟩
    rintro _ rfl
    obtain ⟨v0, h0, _⟩ := u8_nat r0
    obtain ⟨v1, h1, _⟩ := u8_nat r1
    obtain ⟨v2, h2, _⟩ := u8_nat r2
    obtain ⟨v3, h3, l3⟩ := u8_nat r3
    refine ⟨by omega, ⟨k + 1, rfl, by omega, fun j hj => ?_⟩, by first | (dsimp only; omega) | omega⟩
    rw [word_eq rfl h0 h1 h2 h3 l3]
    by_cases hjk : j = k
    · subst hjk
      rw [lget_lset_eq (by rw [hok.1]; omega), wn_lo b (by omega)]
    · rw [lget_lset_ne (by omega)]; exact hf j (by omega)
  · refine ⟨fun i g => ∃ k : Nat, i = k ∧ 16 ≤ k ∧ k ≤ 64 ∧ ∀ j : Nat, j < k → lget g (j : Int) = ((wn b j : Nat) : Int), fun i _ => 64 - i.toNat, ⟨16, rfl, by omega, by omega, fun j hj => hf j (by omega)⟩, ?_⟩
    rintro _ g ⟨k, rfl, h16, h64, hg⟩ _ hok2
    refine ⟨fun hlt => ?_, fun hge => ?_⟩
    · rw [show (k : Int) - 15 = ((k - 15 : Nat) : Int) from by omega, show (k : Int) - 2 = ((k - 2 : Nat) : Int) from by omega, show (k : Int) - 16 = ((k - 16 : Nat) : Int) from by omega, show (k : Int) - 7 = ((k - 7 : Nat) : Int) from by omega]
      rw [hg (k - 15) (by omega), hg (k - 2) (by omega), hg (k - 16) (by omega), hg (k - 7) (by omega)]
      refine ⟨by omega, by omega, by omega, by omega, by omega, by omega, by omega, by omega, ?_⟩
      refine right_p 7 rfl (by decide) (by decide) (wn_lt _ _) fun _ _ => right_p 18 rfl (by decide) (by decide) (wn_lt _ _) fun _ _ => ?_
      rintro _ rfl _ rfl
      refine right_p 17 rfl (by decide) (by decide) (wn_lt _ _) fun _ _ => right_p 19 rfl (by decide) (by decide) (wn_lt _ _) fun _ _ => ?_
      rintro _ rfl
      refine ⟨by omega, by omega, ⟨k + 1, rfl, by omega, by omega, fun j hj => ?_⟩, by first | (dsimp only; omega) | omega⟩
      rw [sig0_eq (wn_lt _ _), sig1_eq (wn_lt _ _), next_eq h16]
      by_cases hjk : j = k
      · subst hjk
        rw [lget_lset_eq (by rw [hok2.1]; omega)]
      · rw [lget_lset_ne (by omega)]; exact hg j (by omega)
    · have hk64 : k = 64 := by omega
      subst hk64
      have : g = (List.range 64).map fun j => ((wn b j : Nat) : Int) := ext_lget hok2.1 (by simp) fun j hj => by rw [hg j hj, lget_range _ hj]
      rw [this]; exact h
/-! the rounds -/
theorem lg3 {α : Type} [Inhabited α] (a b c d : α) (l : List α) : lget (a :: b :: c :: d :: l) 3 = d := rfl
theorem lg4 {α : Type} [Inhabited α] (a b c d e : α) (l : List α) : lget (a :: b :: c :: d :: e :: l) 4 = e := rfl
theorem lg5 {α : Type} [Inhabited α] (a b c d e f : α) (l : List α) : lget (a :: b :: c :: d :: e :: f :: l) 5 = f := rfl
theorem lg6 {α : Type} [Inhabited α] (a b c d e f g : α) (l : List α) : lget (a :: b :: c :: d :: e :: f :: g :: l) 6 = g := rfl
theorem lg7 {α : Type} [Inhabited α] (a b c d e f g i : α) (l : List α) : lget (a :: b :: c :: d :: e :: f :: g :: i :: l) 7 = i := rfl
theorem b1_eq {x : Nat} (hx : x < 4294967296) : ixor .u32 (ixor .u32 ((rotr x 6 : Nat) : Int) ((rotr x 11 : Nat) : Int)) ((rotr x 25 : Nat) : Int) = ((bsig1 x : Nat) : Int) := by
  rw [ixor_u32 (rotr_lt _ hx) (rotr_lt _ hx), ixor_u32 (xor_lt32 (rotr_lt _ hx) (rotr_lt _ hx)) (rotr_lt _ hx)]; rfl
theorem b0_eq {x : Nat} (hx : x < 4294967296) : ixor .u32 (ixor .u32 ((rotr x 2 : Nat) : Int) ((rotr x 13 : Nat) : Int)) ((rotr x 22 : Nat) : Int) = ((bsig0 x : Nat) : Int) := by
  rw [ixor_u32 (rotr_lt _ hx) (rotr_lt _ hx), ixor_u32 (xor_lt32 (rotr_lt _ hx) (rotr_lt _ hx)) (rotr_lt _ hx)]; rfl
theorem ch_eq {e f g : Nat} (he : e < 4294967296) (hf : f < 4294967296) (hg : g < 4294967296) : ixor .u32 (iand .u32 (e : Int) (f : Int)) (iand .u32 (inot .u32 (e : Int)) (g : Int)) = ((chW e f g : Nat) : Int) := by
  rw [inot_u32 he, iand_u32 he hf, iand_u32 (by omega) hg, ixor_u32 (and_lt32 he) (and_lt32 (by omega))]; rfl
theorem maj_eq {a b c : Nat} (ha : a < 4294967296) (hb : b < 4294967296) (hc : c < 4294967296) : ixor .u32 (ixor .u32 (iand .u32 (a : Int) (b : Int)) (iand .u32 (a : Int) (c : Int))) (iand .u32 (b : Int) (c : Int)) = ((majW a b c : Nat) : Int) := by
  rw [iand_u32 ha hb, iand_u32 ha hc, iand_u32 hb hc, ixor_u32 (and_lt32 ha) (and_lt32 ha), ixor_u32 (xor_lt32 (and_lt32 ha) (and_lt32 ha)) (and_lt32 hb)]; rfl
theorem rnd_eq {k w a b c d e f g i : Nat} : natI (rnd k w [a, b, c, d, e, f, g, i]) =
    [((((((((((i : Int) + (bsig1 e : Nat)) % 4294967296 + (chW e f g : Nat)) % 4294967296 + (k : Int)) % 4294967296) + (w : Int)) % 4294967296)) + ((((bsig0 a : Nat) : Int) + (majW a b c : Nat)) % 4294967296)) % 4294967296), (a : Int), (b : Int), (c : Int),
      ((d : Int) + (((((((i : Int) + (bsig1 e : Nat)) % 4294967296 + (chW e f g : Nat)) % 4294967296 + (k : Int)) % 4294967296) + (w : Int)) % 4294967296)) % 4294967296, (e : Int), (f : Int), (g : Int)] := by
  unfold rnd; simp only [force_eq, natI, List.map_cons, List.map_nil, List.cons.injEq, and_true, true_and]
  constructor <;> omega
theorem rnd_eq' {k w a b c d e f g i : Nat} : natI (rnd k w [a, b, c, d, e, f, g, i]) =
    [(((((((((i : Int) + (bsig1 e : Nat)) % 4294967296 + (chW e f g : Nat)) % 4294967296 + (k : Int)) % 4294967296) + (w : Int)) % 4294967296) + ((bsig0 a : Nat) : Int)) % 4294967296 + (majW a b c : Nat)) % 4294967296, (a : Int), (b : Int), (c : Int),
      ((d : Int) + (((((((i : Int) + (bsig1 e : Nat)) % 4294967296 + (chW e f g : Nat)) % 4294967296 + (k : Int)) % 4294967296) + (w : Int)) % 4294967296)) % 4294967296, (e : Int), (f : Int), (g : Int)] := by
  unfold rnd; simp only [force_eq, natI, List.map_cons, List.map_nil, List.cons.injEq, and_true, true_and]
  constructor <;> omega
theorem natI_ok {H : List Nat} (h : ok8 H) : (natI H).length = 8 := by simpa using h.1
theorem turn_p {H : List Nat} {b : List Int} {Q : List Int → Prop} (hH : ok8 H) (hb : 64 ≤ b.length) (hb2 : b.length ≤ 1000000000000) (h : okArr .u32 8 (natI (turnS H b)) → Q (natI (turnS H b))) : sha_turn_p (natI H) b (natI kTab) Q := by
  unfold sha_turn_p; intro _ _ _ k345 hk
  refine words_p hb hb2 fun _ => hk _ fun _ => ?_
  simp only [inR_i64]
  refine ⟨fun s f => ∃ n : Nat, s = n ∧ n ≤ 64 ∧ f = natI (stR b H n), fun s _ => 64 - s.toNat, ⟨0, rfl, by omega, rfl⟩, ?_⟩
  rintro _ _ ⟨n, rfl, hn, rfl⟩ _ hok
  obtain ⟨a, b', c, d, e, f, g, i, hs, h1, h2, h3, h4, h5, h6, h7, h8⟩ := ok8_cases (stR_ok b hH n)
  refine ⟨fun hlt => ?_, fun hge => ?_⟩
  · rw [hs]
    simp only [natI, List.map_cons, List.map_nil, lg3, lg4, lg5, lg6, lg7, lget_zero, lget_one, lget_two]
    rintro _ rfl
    refine ⟨by omega, by omega, right_p 6 rfl (by decide) (by decide) h5 fun _ _ => right_p 11 rfl (by decide) (by decide) h5 fun _ _ => right_p 25 rfl (by decide) (by decide) h5 fun _ _ => ?_⟩
    rintro _ rfl _ rfl _ rfl _ rfl
    refine right_p 2 rfl (by decide) (by decide) h1 fun _ _ => right_p 13 rfl (by decide) (by decide) h1 fun _ _ => right_p 22 rfl (by decide) (by decide) h1 fun _ _ => ?_
    rintro _ rfl _ rfl
    refine ⟨by omega, ⟨n + 1, rfl, by omega, ?_⟩, by first | (dsimp only; omega) | omega⟩
    have hk := lget_natI kTab n
    have hw := lget_range (fun j => ((wn b j : Nat) : Int)) (show n < 64 by omega)
    simp only [natI] at hk
    rw [hk, hw, b1_eq h5, b0_eq h1, ch_eq h5 h6 h7, maj_eq h1 h2 h3]
    show _ = natI (rnd (kTab.getD n 0) (wn b n) (stR b H n))
    rw [hs, rnd_eq]
  · have hn64 : n = 64 := by omega
    subst hn64
    refine ⟨fun s f => ∃ m : Nat, s = m ∧ m ≤ 8 ∧ ∀ j : Nat, j < 8 → lget f (j : Int) = if j < m then lget (natI (turnS H b)) (j : Int) else lget (natI H) (j : Int), fun s _ => 8 - s.toNat, ⟨0, rfl, by omega, fun j _ => by simp⟩, ?_⟩
    rintro _ f2 ⟨m, rfl, hm, hf⟩ _ hok2
    refine ⟨fun hlt => ?_, fun hge => ?_⟩
    · refine ⟨by omega, by omega, by omega, ?_⟩
      rintro _ rfl
      refine ⟨by omega, ⟨m + 1, rfl, by omega, fun j hj => ?_⟩, by first | (dsimp only; omega) | omega⟩
      by_cases hjm : j = m
      · subst hjm
        rw [lget_lset_eq (by rw [hok2.1]; exact hj), if_pos (by omega), hf j hj, if_neg (by omega), lget_natI, lget_natI, lget_natI]
        obtain ⟨a, b', c, d, e, f, g, i, hs, _⟩ := ok8_cases hH
        obtain ⟨a', b'', c', d', e', f', g', i', hs', _⟩ := ok8_cases (stR_ok b hH 64)
        unfold turnS addW
        rw [hs', hs]
        have : j = 0 ∨ j = 1 ∨ j = 2 ∨ j = 3 ∨ j = 4 ∨ j = 5 ∨ j = 6 ∨ j = 7 := by omega
        rcases this with rfl | rfl | rfl | rfl | rfl | rfl | rfl | rfl <;> simp [List.getD]
      · rw [lget_lset_ne (by omega), hf j hj]
        by_cases h9 : j < m
        · rw [if_pos h9, if_pos (by omega)]
        · rw [if_neg h9, if_neg (by omega)]
    · have hm8 : m = 8 := by omega
      subst hm8
      have : f2 = natI (turnS H b) := ext_lget hok2.1 (by simpa using (turnS_ok b hH).1) fun j hj => by rw [hf j hj, if_pos hj]
      subst this
      exact h hok2
end Go.Proofs.Ytjejeipdndddpaa
