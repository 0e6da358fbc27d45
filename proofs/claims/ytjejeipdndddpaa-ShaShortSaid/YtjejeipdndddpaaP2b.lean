/- Chapter 2, plainly: sums of bytes, the program's and the document's. -/
import Derived.Test.YtjejeipdndddpaaP2
namespace Go.Proofs.Ytjejeipdndddpaa
open Go
theorem clone2_p {s : List Int} {Q : List Int → Prop} (hs : s.length ≤ 1000000000000) (h : Q s) : slices_Clone_byte_byte_p s Q := by
  unfold slices_Clone_byte_byte_p; exact fun _ => ⟨by omega, h⟩
theorem first_p {Q : List Int → Prop} (h : Q (natI hTab)) : sha_first_p Q := by unfold sha_first_p; rintro _ rfl; exact h
theorem table_p {Q : List Int → Prop} (h : Q (natI kTab)) : sha_table_p Q := by unfold sha_table_p; rintro _ rfl; exact h
theorem rtable_p {Q : List Int → Prop} (h : Q (natI kTab)) : rectoref2_table_p Q := by unfold rectoref2_table_p; rintro _ rfl; exact h
theorem hTab_ok : ok8 hTab := ⟨rfl, by decide⟩
theorem len_eq {n k : Nat} (hn : n ≤ 1000000000000) (hk : k < 8) {i : Int} (hi : i = ((8 * k : Nat) : Int)) : iwrap .u8 (ishr .u64 (((iwrap .u64 (n : Int)) * (8 : Int)) % 18446744073709551616) i) = lenB n k := by
  have e1 : iwrap .u64 (n : Int) = (n : Int) := by unfold iwrap; rw [wrap_u64_mod]; omega
  rw [e1, hi, show ((n : Int) * 8) % 18446744073709551616 = ((n * 8 % 18446744073709551616 : Nat) : Int) from by omega, ishr_nat .u64 _ _ (show 8 * k ≤ 64 by omega), iwrap8m]; rfl
theorem zeros_go {n z : Nat} (hz : z ≤ zerosN n) (h : ((n + (1 + z) : Nat) : Int) % 64 ≠ 56) : z < zerosN n := by
  unfold zerosN at *; omega
theorem zeros_end {n z : Nat} (hz : z ≤ zerosN n) (h : ((n + (1 + z) : Nat) : Int) % 64 = 56) : z = zerosN n := by
  unfold zerosN at *; omega
theorem out_eq {v k : Nat} {i : Int} (hk : k ≤ 24) (hi : i = (k : Int)) : iwrap .u8 (ishr .u32 (v : Int) i) = ((v / 2 ^ k % 256 : Nat) : Int) := by
  rw [hi, ishr_nat .u32 _ _ (show k ≤ 32 by omega), iwrap8m]
theorem out_get {H : List Nat} {j : Nat} (hj : j < 32) : lget (outS H) (j : Int) = (((H.getD (j / 4) 0) / 2 ^ (24 - 8 * (j % 4)) % 256 : Nat) : Int) := lget_range _ hj
theorem Sum_p {b : List Int} {Q : List Int → Prop} (hb : b.length ≤ 1000000000) (h : Q (sumS b)) : sha_Sum_p b Q := by
  unfold sha_Sum_p; simp only [inR_i64]; intro _
  refine clone2_p (by omega) fun _ => ⟨by simp; omega, ?_⟩
  refine ⟨fun x => ∃ z : Nat, x = b ++ [128] ++ List.replicate z 0 ∧ z ≤ zerosN b.length, fun x => b.length + 1 + zerosN b.length - x.length, ⟨0, by simp, Nat.zero_le _⟩, ?_⟩
  rintro _ ⟨z, rfl, hz⟩ _
  have hzl : zerosN b.length < 64 := by unfold zerosN; omega
  have hlen : (b ++ [128] ++ List.replicate z 0 : List Int).length = b.length + (1 + z) := by simp; omega
  rw [hlen]
  refine ⟨by omega, fun hne => ?_, fun he => ?_⟩
  · have := zeros_go hz hne
    refine ⟨by simp; omega, ⟨z + 1, ?_, this⟩, by simp; omega⟩
    rw [List.replicate_succ', ← List.append_assoc]
  · have hz2 := zeros_end hz he
    subst hz2
    refine ⟨fun x s => ∃ n : Nat, s = n ∧ n ≤ 8 ∧ x = b ++ [128] ++ List.replicate (zerosN b.length) 0 ++ (List.range n).map (fun k => lenB b.length (7 - k)), fun _ s => 8 - s.toNat, ⟨0, rfl, by omega, by simp⟩, ?_⟩
    rintro _ _ ⟨n, rfl, hn, rfl⟩ _ _
    refine ⟨fun hlt => ?_, fun hge => ?_⟩
    · refine ⟨by omega, by omega, by omega, ?_⟩
      rintro _ rfl
      refine ⟨by simp; omega, by omega, ⟨n + 1, rfl, by omega, ?_⟩, by first | (dsimp only; omega) | omega⟩
      rw [len_eq (k := 7 - n) (by omega) (by omega) (by omega), List.range_succ, List.map_append, ← List.append_assoc]; rfl
    · have hn8 : n = 8 := by omega
      subst hn8
      refine first_p fun _ => table_p fun _ => ?_
      have hps := padS_size b
      refine ⟨fun x f => ∃ (m : Nat) (H : List Nat), ok8 H ∧ f = natI H ∧ x.length = 64 * m ∧ x.length ≤ 1000000100 ∧ hashS m x H = hashS ((padS b).length / 64) (padS b) hTab, fun x _ => x.length, ⟨_, hTab, hTab_ok, rfl, padS_len b, (show (padS b).length ≤ 1000000100 by omega), rfl⟩, ?_⟩
      rintro x _ ⟨m, H, hH, rfl, hx, hxl, hh⟩ _ _
      refine ⟨fun hlt => ?_, fun hge => ?_⟩
      · obtain ⟨m', rfl⟩ : ∃ m', m = m' + 1 := ⟨m - 1, by omega⟩
        refine turn_p hH (by omega) (by omega) fun _ _ => ⟨by omega, ⟨m', turnS H x, turnS_ok x hH, rfl, by simp; omega, by simp; omega, hh⟩, by simp; omega⟩
      · obtain rfl : m = 0 := by omega
        replace hh : H = hashS ((padS b).length / 64) (padS b) hTab := hh
        refine ⟨fun s f => ∃ n : Nat, s = n ∧ n ≤ 8 ∧ ∀ j : Nat, j < 4 * n → lget f (j : Int) = lget (outS H) (j : Int), fun s _ => 8 - s.toNat, ⟨0, rfl, by omega, fun j hj => by omega⟩, ?_⟩
        rintro _ f ⟨n, rfl, hn, hf⟩ _ hok
        refine ⟨fun hlt => ?_, fun hge => ?_⟩
        · refine ⟨by omega, by omega, by omega, by omega, by omega, by omega, by omega, by omega, by omega, ?_⟩
          rintro _ rfl; refine ⟨by omega, ?_⟩; rintro _ rfl; refine ⟨by omega, ?_⟩; rintro _ rfl; refine ⟨by omega, ?_⟩; rintro _ rfl
          refine ⟨by omega, ⟨n + 1, rfl, by omega, fun j hj => ?_⟩, by first | (dsimp only; omega) | omega⟩
          have hfl := hok.1
          rw [lget_natI H n]
          rw [show (4 : Int) * (n : Int) = ((4 * n : Nat) : Int) from by omega, show ((4 * n : Nat) : Int) + 1 = ((4 * n + 1 : Nat) : Int) from by omega, show ((4 * n : Nat) : Int) + 2 = ((4 * n + 2 : Nat) : Int) from by omega, show ((4 * n : Nat) : Int) + 3 = ((4 * n + 3 : Nat) : Int) from by omega]
          rw [out_get (show j < 32 by omega)]
          by_cases j3 : j = 4 * n + 3
          · subst j3
            rw [lget_lset_eq (by simp only [len_lset]; omega), iwrap8m, show (4 * n + 3) / 4 = n from by omega, show (4 * n + 3) % 4 = 3 from by omega]; simp
          rw [lget_lset_ne (by omega)]
          by_cases j2 : j = 4 * n + 2
          · subst j2
            rw [lget_lset_eq (by simp only [len_lset]; omega), out_eq (k := 8) (i := 8) (by omega) rfl, show (4 * n + 2) / 4 = n from by omega, show (4 * n + 2) % 4 = 2 from by omega]
          rw [lget_lset_ne (by omega)]
          by_cases j1 : j = 4 * n + 1
          · subst j1
            rw [lget_lset_eq (by simp only [len_lset]; omega), out_eq (k := 16) (i := 16) (by omega) rfl, show (4 * n + 1) / 4 = n from by omega, show (4 * n + 1) % 4 = 1 from by omega]
          rw [lget_lset_ne (by omega)]
          by_cases j0 : j = 4 * n
          · subst j0
            rw [lget_lset_eq (by omega), out_eq (k := 24) (i := 24) (by omega) rfl, show (4 * n) / 4 = n from by omega, show (4 * n) % 4 = 0 from by omega]
          rw [lget_lset_ne (by omega), hf j (by omega), out_get (by omega)]
        · obtain rfl : n = 8 := by omega
          have : f = sumS b := ext_lget hok.1 (sumS_ok b).1 fun j hj => by rw [hf j (by omega), hh]; rfl
          rw [this]; exact h
theorem rSum_p {b : List Int} {Q : List Int → Prop} (hb : b.length ≤ 1000000000) (h : Q (sumS b)) : rectoref2_Sum_p b Q := by
  unfold rectoref2_Sum_p; simp only [inR_i64]; intro _
  rintro _ rfl
  refine rtable_p fun _ => ⟨by omega, by simp; omega, ?_⟩
  refine ⟨fun x => ∃ z : Nat, x = b ++ [128] ++ List.replicate z 0 ∧ z ≤ zerosN b.length, fun x => b.length + 1 + zerosN b.length - x.length, ⟨0, by simp, Nat.zero_le _⟩, ?_⟩
  rintro _ ⟨z, rfl, hz⟩ _
  have hzl : zerosN b.length < 64 := by unfold zerosN; omega
  have hlen : (b ++ [128] ++ List.replicate z 0 : List Int).length = b.length + (1 + z) := by simp; omega
  rw [hlen]
  refine ⟨by omega, fun hne => ?_, fun he => ?_⟩
  · have := zeros_go hz hne
    refine ⟨by simp; omega, ⟨z + 1, ?_, this⟩, by simp; omega⟩
    rw [List.replicate_succ', ← List.append_assoc]
  · have hz2 := zeros_end hz he
    subst hz2
    refine ⟨fun x s => ∃ n : Nat, s = 7 - (n : Int) ∧ n ≤ 8 ∧ x = b ++ [128] ++ List.replicate (zerosN b.length) 0 ++ (List.range n).map (fun k => lenB b.length (7 - k)), fun _ s => (s + 1).toNat, ⟨0, rfl, by omega, by simp⟩, ?_⟩
    rintro _ _ ⟨n, rfl, hn, rfl⟩ _ _
    refine ⟨fun hlt => ?_, fun hge => ?_⟩
    · refine ⟨by omega, ?_⟩
      rintro _ rfl
      refine ⟨by simp; omega, by omega, ⟨n + 1, by omega, by omega, ?_⟩, by first | (dsimp only; omega) | omega⟩
      have e1 : iwrap .u64 ((8 : Int) * (7 - (n : Int))) = ((8 * (7 - n) : Nat) : Int) := by unfold iwrap; rw [wrap_u64_mod]; omega
      rw [len_eq (k := 7 - n) (by omega) (by omega) e1, List.range_succ, List.map_append, ← List.append_assoc]; rfl
    · have hn8 : n = 8 := by omega
      subst hn8
      have hps := padS_size b
      have hpl := padS_len b
      generalize hP : (b ++ [128] ++ List.replicate (zerosN b.length) 0 ++ (List.range 8).map (fun k => lenB b.length (7 - k)) : List Int) = P
      have hP' : padS b = P := hP
      refine ⟨fun a f => ∃ (m k : Nat) (H : List Nat), ok8 H ∧ f = natI H ∧ a = ((64 * k : Nat) : Int) ∧ P.length = 64 * k + 64 * m ∧ hashS m (P.drop (64 * k)) H = hashS ((padS b).length / 64) (padS b) hTab, fun a _ => P.length - a.toNat, ⟨(padS b).length / 64, 0, hTab, hTab_ok, rfl, rfl, by rw [← hP']; omega, by rw [hP']; rfl⟩, ?_⟩
      rw [hP'] at hps
      rintro _ _ ⟨m, k, H, hH, rfl, rfl, hx, hh⟩ _ _
      refine ⟨fun hlt => ?_, fun hge => ?_⟩
      · obtain ⟨m', rfl⟩ : ∃ m', m = m' + 1 := ⟨m - 1, by omega⟩
        generalize hB : P.drop (64 * k) = B at *
        have hBl : 64 ≤ B.length := by rw [← hB]; simp; omega
        have hget : ∀ t : Nat, lget P (((64 * k : Nat) : Int) + ((t : Nat) : Int)) = lget B (t : Int) := fun t => by
          rw [← hB, show ((64 * k : Nat) : Int) + (t : Int) = ((64 * k + t : Nat) : Int) from by omega, lget_nat, lget_nat]; simp [List.getD]
        -- the words
        refine ⟨fun s f => ∃ j : Nat, s = j ∧ j ≤ 16 ∧ ∀ i : Nat, i < j → lget f (i : Int) = ((wn B i : Nat) : Int), fun s _ => 16 - s.toNat, ⟨0, rfl, by omega, fun j hj => by omega⟩, ?_⟩
        rintro _ f ⟨j, rfl, hj, hf⟩ _ hok
        refine ⟨fun hlt => ?_, fun hge => ?_⟩
        · have i0 : ((64 * k : Nat) : Int) + 4 * (j : Int) = ((64 * k : Nat) : Int) + ((4 * j : Nat) : Int) := by omega
          refine ⟨by omega, by omega, by unfold inL; omega, fun r0 => ⟨by omega, by unfold inL; omega, fun r1 => ?_⟩⟩
          rintro _ rfl _ rfl
          refine ⟨by omega, by unfold inL; omega, fun r2 => ?_⟩
          rintro _ rfl
          refine ⟨by omega, by unfold inL; omega, fun r3 => ?_⟩
          rintro _ rfl
          refine ⟨by omega, by omega, ⟨j + 1, rfl, by omega, fun i hi => ?_⟩, by first | (dsimp only; omega) | omega⟩
          have g0 := hget (4 * j); have g1 := hget (4 * j + 1); have g2 := hget (4 * j + 2); have g3 := hget (4 * j + 3)
          rw [← i0] at g0
          rw [show ((64 * k : Nat) : Int) + ((4 * j + 1 : Nat) : Int) = ((64 * k : Nat) : Int) + 4 * (j : Int) + 1 from by omega, show ((4 * j + 1 : Nat) : Int) = 4 * (j : Int) + 1 from by omega] at g1
          rw [show ((64 * k : Nat) : Int) + ((4 * j + 2 : Nat) : Int) = ((64 * k : Nat) : Int) + 4 * (j : Int) + 2 from by omega, show ((4 * j + 2 : Nat) : Int) = 4 * (j : Int) + 2 from by omega] at g2
          rw [show ((64 * k : Nat) : Int) + ((4 * j + 3 : Nat) : Int) = ((64 * k : Nat) : Int) + 4 * (j : Int) + 3 from by omega, show ((4 * j + 3 : Nat) : Int) = 4 * (j : Int) + 3 from by omega] at g3
          rw [show ((4 * j : Nat) : Int) = 4 * (j : Int) from by omega] at g0
          rw [g0] at r0; rw [g1] at r1; rw [g2] at r2; rw [g3] at r3
          obtain ⟨v0, h0, _⟩ := u8_nat r0
          obtain ⟨v1, h1, _⟩ := u8_nat r1
          obtain ⟨v2, h2, _⟩ := u8_nat r2
          obtain ⟨v3, h3, l3⟩ := u8_nat r3
          rw [g0, g1, g2, g3, word_eq rfl h0 h1 h2 h3 l3]
          by_cases hjk : i = j
          · subst hjk
            rw [lget_lset_eq (by rw [hok.1]; omega), wn_lo B (by omega)]
          · rw [lget_lset_ne (by omega)]; exact hf i (by omega)
        · refine ⟨fun i g => ∃ j : Nat, i = j ∧ 16 ≤ j ∧ j ≤ 64 ∧ ∀ i : Nat, i < j → lget g (i : Int) = ((wn B i : Nat) : Int), fun i _ => 64 - i.toNat, ⟨16, rfl, by omega, by omega, fun i hi => hf i (by omega)⟩, ?_⟩
          rintro _ g ⟨j, rfl, h16, h64, hg⟩ _ hok2
          refine ⟨fun hlt => ?_, fun hge => ?_⟩
          · rw [show (j : Int) - 15 = ((j - 15 : Nat) : Int) from by omega, show (j : Int) - 2 = ((j - 2 : Nat) : Int) from by omega, show (j : Int) - 16 = ((j - 16 : Nat) : Int) from by omega, show (j : Int) - 7 = ((j - 7 : Nat) : Int) from by omega]
            rw [hg (j - 15) (by omega), hg (j - 2) (by omega), hg (j - 16) (by omega), hg (j - 7) (by omega)]
            refine ⟨by omega, by omega, by omega, by omega, by omega, by omega, ?_⟩
            refine rturn_p 7 rfl (by decide) (by decide) (wn_lt _ _) (fun _ _ => rturn_p 18 rfl (by decide) (by decide) (wn_lt _ _) (fun _ _ => ?_) (rotr_in (wn_lt _ _))) (rotr_in (wn_lt _ _))
            rintro _ rfl
            refine ⟨by omega, by omega, by omega, by omega, by omega, by omega, ?_⟩
            refine rturn_p 17 rfl (by decide) (by decide) (wn_lt _ _) (fun _ _ => rturn_p 19 rfl (by decide) (by decide) (wn_lt _ _) (fun _ _ => ?_) (rotr_in (wn_lt _ _))) (rotr_in (wn_lt _ _))
            rintro _ rfl
            refine ⟨by omega, by omega, by omega, by omega, ?_⟩
            rintro _ rfl
            refine ⟨by omega, by omega, ⟨j + 1, rfl, by omega, by omega, fun i hi => ?_⟩, by first | (dsimp only; omega) | omega⟩
            rw [sig0_eq (wn_lt _ _), sig1_eq (wn_lt _ _), next_eq h16]
            by_cases hjk : i = j
            · subst hjk
              rw [lget_lset_eq (by rw [hok2.1]; omega)]
            · rw [lget_lset_ne (by omega)]; exact hg i (by omega)
          · obtain rfl : j = 64 := by omega
            -- the rounds
            refine ⟨fun s f => ∃ n : Nat, s = n ∧ n ≤ 64 ∧ f = natI (stR B H n), fun s _ => 64 - s.toNat, ⟨0, rfl, by omega, rfl⟩, ?_⟩
            rintro _ _ ⟨n, rfl, hn, rfl⟩ _ hok3
            obtain ⟨a, b', c, d, e, f', g', i, hs, h1, h2, h3, h4, h5, h6, h7, h8⟩ := ok8_cases (stR_ok B hH n)
            refine ⟨fun hlt => ?_, fun hge => ?_⟩
            · have hk := lget_natI kTab n
              have hw := hg n (by omega)
              rw [hs, hk, hw]
              simp only [natI, List.map_cons, List.map_nil, lg3, lg4, lg5, lg6, lg7, lget_zero, lget_one, lget_two]
              refine rturn_p 6 rfl (by decide) (by decide) h5 (fun _ _ => rturn_p 11 rfl (by decide) (by decide) h5 (fun _ _ => rturn_p 25 rfl (by decide) (by decide) h5 (fun _ _ => ?_) (rotr_in h5)) (rotr_in h5)) (rotr_in h5)
              rintro _ rfl _ rfl
              refine ⟨by omega, by omega, ?_⟩
              rintro _ rfl
              refine rturn_p 2 rfl (by decide) (by decide) h1 (fun _ _ => rturn_p 13 rfl (by decide) (by decide) h1 (fun _ _ => rturn_p 22 rfl (by decide) (by decide) h1 (fun _ _ => ?_) (rotr_in h1)) (rotr_in h1)) (rotr_in h1)
              rintro _ rfl _ rfl _ rfl _ rfl
              refine ⟨by omega, ⟨n + 1, rfl, by omega, ?_⟩, by first | (dsimp only; omega) | omega⟩
              rw [b1_eq h5, b0_eq h1, ch_eq h5 h6 h7, maj_eq h1 h2 h3]
              show _ = natI (rnd (kTab.getD n 0) (wn B n) (stR B H n))
              rw [hs, rnd_eq']
            · obtain rfl : n = 64 := by omega
              refine ⟨fun s f => ∃ m : Nat, s = m ∧ m ≤ 8 ∧ ∀ j : Nat, j < 8 → lget f (j : Int) = if j < m then lget (natI (turnS H B)) (j : Int) else lget (natI H) (j : Int), fun s _ => 8 - s.toNat, ⟨0, rfl, by omega, fun j _ => by simp⟩, ?_⟩
              rintro _ f2 ⟨m, rfl, hm, hf⟩ _ hok4
              refine ⟨fun hlt => ?_, fun hge => ?_⟩
              · refine ⟨by omega, by omega, by omega, ?_⟩
                rintro _ rfl
                refine ⟨by omega, ⟨m + 1, rfl, by omega, fun j hj => ?_⟩, by first | (dsimp only; omega) | omega⟩
                by_cases hjm : j = m
                · subst hjm
                  rw [lget_lset_eq (by rw [hok4.1]; exact hj), if_pos (by omega), hf j hj, if_neg (by omega), lget_natI, lget_natI, lget_natI]
                  obtain ⟨a, b', c, d, e, f, g, i, hs, _⟩ := ok8_cases hH
                  obtain ⟨a', b'', c', d', e', f', g', i', hs', _⟩ := ok8_cases (stR_ok B hH 64)
                  unfold turnS addW
                  rw [hs', hs]
                  have : j = 0 ∨ j = 1 ∨ j = 2 ∨ j = 3 ∨ j = 4 ∨ j = 5 ∨ j = 6 ∨ j = 7 := by omega
                  rcases this with rfl | rfl | rfl | rfl | rfl | rfl | rfl | rfl <;> simp [List.getD]
                · rw [lget_lset_ne (by omega), hf j hj]
                  by_cases h9 : j < m
                  · rw [if_pos h9, if_pos (by omega)]
                  · rw [if_neg h9, if_neg (by omega)]
              · obtain rfl : m = 8 := by omega
                have : f2 = natI (turnS H B) := ext_lget hok4.1 (by simpa using (turnS_ok B hH).1) fun j hj => by rw [hf j hj, if_pos hj]
                subst this
                refine ⟨by omega, ⟨m', k + 1, turnS H B, turnS_ok B hH, rfl, by omega, by omega, ?_⟩, by first | (dsimp only; omega) | omega⟩
                rw [← hh, show 64 * (k + 1) = 64 * k + 64 from by omega, ← List.drop_drop, hB]; rfl
      · obtain rfl : m = 0 := by omega
        replace hh : H = hashS ((padS b).length / 64) (padS b) hTab := hh
        refine ⟨fun s f => ∃ n : Nat, s = n ∧ n ≤ 32 ∧ ∀ j : Nat, j < n → lget f (j : Int) = lget (outS H) (j : Int), fun s _ => 32 - s.toNat, ⟨0, rfl, by omega, fun j hj => by omega⟩, ?_⟩
        rintro _ f ⟨n, rfl, hn, hf⟩ _ hok
        refine ⟨fun hlt => ?_, fun hge => ?_⟩
        · have e1 : iwrap .u64 ((24 : Int) - (8 : Int) * ((n : Int) % 4)) = ((24 - 8 * (n % 4) : Nat) : Int) := by unfold iwrap; rw [wrap_u64_mod]; omega
          rw [show (n : Int) / 4 = ((n / 4 : Nat) : Int) from by omega, lget_natI H (n / 4)]
          refine ⟨by omega, by omega, by omega, by omega, by omega, ?_⟩
          rintro _ rfl
          refine ⟨by omega, by omega, ⟨n + 1, rfl, by omega, fun j hj => ?_⟩, by first | (dsimp only; omega) | omega⟩
          by_cases hjn : j = n
          · subst hjn
            rw [lget_lset_eq (by rw [hok.1]; omega), out_eq (k := 24 - 8 * (j % 4)) (by omega) e1, out_get (by omega)]
          · rw [lget_lset_ne (by omega)]; exact hf j (by omega)
        · obtain rfl : n = 32 := by omega
          have : f = sumS b := ext_lget hok.1 (sumS_ok b).1 fun j hj => by rw [hf j (by omega), hh]; rfl
          rw [this]; exact h
end Go.Proofs.Ytjejeipdndddpaa
