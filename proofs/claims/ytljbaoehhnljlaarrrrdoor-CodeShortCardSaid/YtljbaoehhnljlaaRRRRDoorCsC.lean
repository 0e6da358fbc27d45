/- Plain laws of chapter 3: numbers and texts, written and read. -/
import Derived.Test.YtljbaoehhnljlaaRRRRDoorCs4
import Derived.Test.YtljbaoehhnljlaaRRRRDoorBits
namespace Go.Proofs.YtljbaoehhnljlaaRRRRDoor
open Go
def encI (n : Int) : List Int := vb (zz n)
def encT (s : ByteArray) : List Int := encI (s.size : Int) ++ bytesL s
def encIs (l : List Int) : List Int := l.flatMap encI
theorem encI_len {n : Int} (h : inR .i64 n) : (encI n).length ≤ 10 := vb_ten (zz_lt h)
theorem encI_pos (n : Int) : 0 < (encI n).length := vb_pos _
theorem flat_take {α β : Type} [Inhabited α] (g : α → List β) {l : List α} {k : Nat} (h : k < l.length) : (l.take (k + 1)).flatMap g = (l.take k).flatMap g ++ g (lget l (k : Int)) := by
  rw [take_lget h, List.flatMap_append]; simp
theorem flat_cut {α β : Type} [Inhabited α] (g : α → List β) {l : List α} {k : Nat} (h : k < l.length) : l.flatMap g = (l.take k).flatMap g ++ (g (lget l (k : Int)) ++ (l.drop (k + 1)).flatMap g) := by
  rw [← List.append_assoc, ← flat_take g h, ← List.flatMap_append, List.take_append_drop]
theorem EncInt_p {e : S_codec_Enc} {l : List Int} {Q : S_codec_Enc → Prop} (hb : e.b.length + 10 * l.length ≤ 1000000000000) (h : Q ⟨e.b ++ encIs l⟩) : codec_Enc_Int_p e l Q := by
  unfold codec_Enc_Int_p; simp only [inR_i64]; intro _
  refine ⟨fun s o => ∃ k : Nat, s = k ∧ k ≤ l.length ∧ o.b = e.b ++ encIs (l.take k) ∧ o.b.length ≤ e.b.length + 10 * k, fun s _ => l.length - s.toNat, ⟨0, rfl, Nat.zero_le _, by simp [encIs], by omega⟩, ?_⟩
  rintro _ o ⟨k, rfl, hk, ho, hl⟩ _
  refine ⟨fun hlt => ?_, fun hge => ?_⟩
  · have hkl : k < l.length := by omega
    refine ⟨inL_nat.2 hkl, fun hr => ?_⟩
    rw [← inR_i64] at hr
    rintro _ rfl
    rw [enc_zz hr]
    have hlen := encI_len hr
    refine ⟨fun v o2 => ∃ u : Nat, v = u ∧ u < 18446744073709551616 ∧ o2.b ++ vb u = e.b ++ encIs (l.take (k + 1)) ∧ o2.b.length + (vb u).length ≤ e.b.length + 10 * (k + 1), fun v _ => v.toNat, ⟨zz (lget l (k : Int)), rfl, zz_lt hr, ?_, ?_⟩, ?_⟩
    · rw [ho]; unfold encIs; rw [flat_take encI hkl, List.append_assoc]; rfl
    · show o.b.length + (encI _).length ≤ _; omega
    rintro _ o2 ⟨u, rfl, hu, he, hl2⟩ _
    refine ⟨fun hge => ?_, fun hnl => ?_⟩
    · have hn : ¬ u < 128 := by omega
      rw [vb_ge hn] at he hl2
      rw [ior128 hu, shr7]
      refine fun _ => ⟨by simp at hl2 ⊢; omega, ⟨u / 128, rfl, by omega, by simpa using he, by simp at hl2 ⊢; omega⟩, by dsimp only; omega⟩
    · have hn : u < 128 := by omega
      rw [vb_lt hn] at he hl2
      rw [iwrap8 hn]
      refine fun _ => ⟨by simp at hl2 ⊢; omega, ⟨by omega, by omega⟩, ⟨k + 1, rfl, hkl, he, by simp at hl2 ⊢; omega⟩, by dsimp only; omega⟩
  · have : k = l.length := by omega
    subst this
    rw [List.take_length] at ho
    have : o = ⟨e.b ++ encIs l⟩ := by cases o; simp at ho; rw [ho]
    rw [this]; exact h
theorem EncText_p {e : S_codec_Enc} {s : ByteArray} {Q : S_codec_Enc → Prop} (hb : e.b.length + 10 + s.size ≤ 1000000000000) (h : Q ⟨e.b ++ encT s⟩) : codec_Enc_Text_p e [s] Q := by
  unfold codec_Enc_Text_p; simp only [inR_i64]; intro _
  have hr : inR .i64 (s.size : Int) := inR_i64.2 ⟨by omega, by omega⟩
  have hlen := encI_len hr
  refine ⟨fun k o => (k = 0 ∧ o = e) ∨ (k = 1 ∧ o = ⟨e.b ++ encT s⟩), fun k _ => 1 - k.toNat, .inl ⟨rfl, rfl⟩, ?_⟩
  rintro _ _ (⟨rfl, rfl⟩ | ⟨rfl, rfl⟩) _
  · refine ⟨fun _ => ⟨⟨Int.le_refl _, by simp⟩, fun _ => ?_⟩, fun hn => absurd (by simp) hn⟩
    rw [lget_zero]
    refine EncInt_p (by simp; omega) (fun _ => ⟨?_, by decide, .inr ⟨rfl, ?_⟩, by dsimp only; omega⟩)
    · simp [encIs]; omega
    · unfold encT; simp [encIs]
  · exact ⟨fun hl => absurd hl (by simp), fun _ => h⟩
theorem Clone_p {s : List Int} {Q : List Int → Prop} (hs : s.length ≤ 1000000000000) (h : Q s) : slices_Clone_byte_byte_p s Q := by
  unfold slices_Clone_byte_byte_p; exact fun _ => ⟨by omega, h⟩
theorem Clip_p {s : List Int} {Q : List Int → Prop} (h : Q s) : slices_Clip_byte_byte_p s Q := by
  unfold slices_Clip_byte_byte_p; exact fun _ => ⟨⟨by omega, by omega⟩, h⟩
theorem EncBytes_p {e : S_codec_Enc} {Q : S_codec_Enc → List Int → Prop} (hb : e.b.length ≤ 1000000000000) (h : Q e e.b) : codec_Enc_Bytes_p e Q := by
  unfold codec_Enc_Bytes_p; exact fun _ => Clone_p hb (fun _ => Clip_p fun _ => h)
theorem Of_p {b : List Int} {Q : S_codec_Dec → Prop} (hb : b.length ≤ 1000000000000) (h : Q ⟨b, 0, .nil⟩) : codec_Of_p b Q := by
  unfold codec_Of_p; exact fun _ => Clone_p hb (fun _ => h)
theorem rInt_p {n : Int} {Q : List Int → Prop} (h : Q (encI n)) : rectoref3_Int_p n Q := by
  unfold rectoref3_Int_p; intro hr
  have hz := zz_lt hr
  have hten := vb_ten hz
  rw [inR_i64] at hr
  refine ⟨fun u => u = ((zz n : Nat) : Int), ?_, fun hneg => ?_, fun hpos => ?_⟩
  · rintro _ rfl _
    refine ⟨fun v o => ∃ u : Nat, v = u ∧ u < 18446744073709551616 ∧ o ++ vb u = encI n ∧ o.length + (vb u).length ≤ 10, fun v _ => v.toNat, ⟨zz n, rfl, hz, rfl, by simpa using hten⟩, ?_⟩
    rintro _ o ⟨u, rfl, hu, he, hl⟩ _ _
    refine ⟨fun hge => ?_, fun hnl => ?_⟩
    · have hn : ¬ u < 128 := by omega
      rw [vb_ge hn] at he hl
      rw [ior128' hu, shr7]
      exact ⟨by simp at hl ⊢; omega, ⟨u / 128, rfl, by omega, by simpa using he, by simp at hl ⊢; omega⟩, by dsimp only; omega⟩
    · have hn : u < 128 := by omega
      rw [vb_lt hn] at he hl
      rw [iwrap8 hn]
      exact ⟨by simp at hl ⊢; omega, by rw [he]; exact h⟩
  · simp only [inR_i64]
    refine ⟨⟨by omega, by omega⟩, ⟨by omega, by omega⟩, ?_⟩
    rintro _ rfl
    show _ = _
    obtain ⟨m, hm⟩ := nat_of (show 0 ≤ 0 - (n + 1) by omega)
    have h1 : iwrap .u64 (0 - (n + 1)) = (m : Int) := by rw [hm]; unfold iwrap; rw [wrap_u64_mod]; omega
    rw [h1, show (1 : Int) = ((1 : Nat) : Int) from rfl, ishl_u64 m 1 (by decide), Nat.pow_one, ior_u64 (Nat.mod_lt _ (by decide)) (by decide)]
    have h2 : m * 2 % 18446744073709551616 = m * 2 := Nat.mod_eq_of_lt (by omega)
    rw [h2, Nat.or_comm]
    have := or_disj (n := 1) (x := 1) (y := m) (by decide)
    rw [Nat.pow_one] at this
    rw [this]
    unfold zz; rw [if_pos hneg]; omega
  · show _ = _
    obtain ⟨m, hm⟩ := nat_of (show 0 ≤ n by omega)
    subst hm
    have h1 : iwrap .u64 (m : Int) = (m : Int) := by unfold iwrap; rw [wrap_u64_mod]; omega
    rw [h1, show (1 : Int) = ((1 : Nat) : Int) from rfl, ishl_u64 m 1 (by decide), Nat.pow_one, Nat.mod_eq_of_lt (by omega)]
    unfold zz; rw [if_neg hpos]; omega
theorem strOfNums_bytesL (s : ByteArray) : strOfNums (bytesL s) = s := by
  unfold strOfNums bytesL
  rw [List.map_map]
  have : (fun n : Int => UInt8.ofNat n.toNat) ∘ (fun b : UInt8 => (b.toNat : Int)) = id := by funext b; simp
  rw [this, List.map_id]
theorem DecUint_p {d : S_codec_Dec} {Q : S_codec_Dec → Int → Int → Prop} {pre post : List Int} {u : Nat} (hu : u < 18446744073709551616) (hb : d.b = pre ++ (vb u ++ post)) (hat : d.at_ = (pre.length : Int)) (hlen : d.b.length ≤ 1000000000000)
    (h : Q ⟨d.b, ((pre.length + (vb u).length : Nat) : Int), d.err⟩ (u : Int) 0) : codec_Dec_uint_p d Q := by
  unfold codec_Dec_uint_p; simp only [inR_i64]
  refine ⟨fun _ => False, fun _ hf => hf.elim, ?_⟩
  refine ⟨fun v s o => o = d ∧ ∃ k : Nat, s = k ∧ v = ((u % 128 ^ k : Nat) : Int) ∧ d.b.drop (pre.length + k) = vb (u / 128 ^ k) ++ post ∧ (k = 0 ∨ u / 128 ^ k ≠ 0) ∧ k + (vb (u / 128 ^ k)).length = (vb u).length, fun _ s _ => 10 - s.toNat,
    ⟨rfl, 0, rfl, by simp [Nat.mod_one], by rw [hb]; simp, .inl rfl, by simp⟩, ?_⟩
  rintro _ _ o ⟨ho, k, rfl, rfl, hd, hw, hkl⟩ hv _
  obtain rfl := ho.symm
  have hten := vb_ten hu
  have hp2 := vb_pos (u / 128 ^ k)
  have hk10 : k < 10 := by omega
  refine ⟨fun _ => ?_, fun hn => absurd (by omega) hn⟩
  intro _ _
  rw [hat]
  have hlen2 : pre.length + k < d.b.length := by
    have := congrArg List.length hd
    rw [List.length_drop, List.length_append] at this; omega
  have hin : inL d.b ((pre.length : Int) + k) := by unfold inL; omega
  have hget : lget d.b ((pre.length : Int) + k) = lget (vb (u / 128 ^ k) ++ post) 0 := by
    rw [← hd, show ((pre.length : Int) + k) = ((pre.length + k : Nat) : Int) from by omega, lget_nat, show (0 : Int) = ((0 : Nat) : Int) from rfl, lget_nat]
    simp [List.getD]
  generalize hwd : u / 128 ^ k = x at *
  have hxu : x * 128 ^ k + u % 128 ^ k = u := by rw [← hwd, Nat.mul_comm]; exact Nat.div_add_mod u (128 ^ k)
  have hpk : 128 ^ k = 2 ^ (7 * k) := by rw [Nat.pow_mul]
  have hlow : u % 128 ^ k < 2 ^ (7 * k) := by rw [← hpk]; exact Nat.mod_lt _ (Nat.pow_pos (by decide))
  have hc : ∃ c : Nat, lget d.b ((pre.length : Int) + k) = (c : Int) ∧ c < 256 ∧ ((x < 128 ∧ c = x) ∨ (¬ x < 128 ∧ c = x % 128 + 128)) := by
    rw [hget]
    by_cases hx : x < 128
    · rw [vb_lt hx]; exact ⟨x, rfl, by omega, .inl ⟨hx, rfl⟩⟩
    · rw [vb_ge hx]; exact ⟨x % 128 + 128, rfl, by omega, .inr ⟨hx, rfl⟩⟩
  obtain ⟨c, hcg, hc256, hcx⟩ := hc
  rw [hcg]
  have h9 : k = 9 → c ≤ 1 := by
    intro h9
    have : x < 2 := by rw [← hwd, h9, Nat.div_lt_iff_lt_mul (by decide)]; exact Nat.lt_of_lt_of_le hu (by decide)
    rcases hcx with ⟨_, rfl⟩ | ⟨hn, _⟩ <;> omega
  have h0 : 0 < k → c ≠ 0 := by
    intro hk0
    rcases hcx with ⟨_, rfl⟩ | ⟨hn, rfl⟩
    · rcases hw with hw | hw
      · omega
      · exact hw
    · omega
  have hy : ishl .u64 (iand .u8 (c : Int) (127 : Int)) ((7 : Int) * (k : Int)) = ((c % 128 * 2 ^ (7 * k) : Nat) : Int) ∧ u % 128 ^ k + c % 128 * 2 ^ (7 * k) < 18446744073709551616 := by
    have h1 : iand .u8 (c : Int) (127 : Int) = ((c % 128 : Nat) : Int) := by rw [← and127]; exact iand_u8 hc256 (by decide)
    have hle : u % 128 ^ k + c % 128 * 2 ^ (7 * k) ≤ u := by
      rw [← hpk]
      have : c % 128 ≤ x := by rcases hcx with ⟨_, rfl⟩ | ⟨hn, rfl⟩ <;> omega
      have := Nat.mul_le_mul_right (128 ^ k) this
      omega
    refine ⟨?_, by omega⟩
    rw [h1, show (7 : Int) * (k : Int) = ((7 * k : Nat) : Int) from by omega, ishl_u64 _ _ (by omega), Nat.mod_eq_of_lt (by omega)]
  have hor : ior .u64 ((u % 128 ^ k : Nat) : Int) ((c % 128 * 2 ^ (7 * k) : Nat) : Int) = ((u % 128 ^ k + c % 128 * 2 ^ (7 * k) : Nat) : Int) := by
    rw [ior_u64 (by omega) (by omega), or_disj hlow]
  refine ⟨⟨by omega, by omega⟩, fun hbad => absurd hbad (by omega), fun _ => ⟨⟨by omega, by omega⟩, hin, fun _ => ?_⟩⟩
  have hkf : ∀ (K : Bool → Prop), K false → (((k : Int) = (9 : Int)) → ((((c : Int) > (1 : Int)) → (K true)) ∧ ((¬ ((c : Int) > (1 : Int))) → ((((k : Int) > (0 : Int)) → (K (decide ((c : Int) = (0 : Int))))) ∧ ((¬ ((k : Int) > (0 : Int))) → (K false)))))) ∧ ((¬ ((k : Int) = (9 : Int))) → ((((k : Int) > (0 : Int)) → (K (decide ((c : Int) = (0 : Int))))) ∧ ((¬ ((k : Int) > (0 : Int))) → (K false)))) := by
    intro K hK
    have hz : ((k : Int) > 0) → decide ((c : Int) = 0) = false := fun hk => decide_eq_false (by have := h0 (by omega); omega)
    exact ⟨fun h => ⟨fun hg => absurd hg (by have := h9 (by omega); omega), fun _ => ⟨fun hk => by rw [hz hk]; exact hK, fun _ => hK⟩⟩, fun _ => ⟨fun hk => by rw [hz hk]; exact hK, fun _ => hK⟩⟩
  refine ⟨fun b => b = false, ?_, hkf (fun b => b = false) rfl⟩
  rintro _ rfl
  refine ⟨fun hb => (by cases hb), fun _ => ⟨⟨by omega, by omega⟩, by omega, ?_⟩⟩
  rintro _ rfl
  rw [hy.1, hor]
  refine ⟨fun hlt => ⟨⟨by omega, by omega⟩, ⟨by omega, by omega⟩, ?_⟩, fun hge => ⟨⟨by omega, by omega⟩, ⟨rfl, k + 1, rfl, ?_, ?_, ?_, ?_⟩, by dsimp only; omega⟩⟩
  · rcases hcx with ⟨hx, rfl⟩ | ⟨hn, rfl⟩
    · have e1 : u % 128 ^ k + c % 128 * 2 ^ (7 * k) = u := by rw [← hpk, Nat.mod_eq_of_lt hx]; omega
      rw [vb_lt hx] at hkl
      rw [e1, show (pre.length : Int) + ((k : Int) + 1) = ((pre.length + (vb u).length : Nat) : Int) from by rw [← hkl]; simp]
      exact h
    · omega
  · rcases hcx with ⟨hx, rfl⟩ | ⟨hn, rfl⟩
    · omega
    · have : u % 128 ^ (k + 1) = u % 128 ^ k + 128 ^ k * (u / 128 ^ k % 128) := by rw [Nat.pow_succ, Nat.mod_mul]
      rw [this, hwd, ← hpk, show (x % 128 + 128) % 128 = x % 128 from by omega, Nat.mul_comm]
  · rcases hcx with ⟨hx, rfl⟩ | ⟨hn, rfl⟩
    · omega
    · rw [vb_ge hn] at hd
      have : d.b.drop (pre.length + (k + 1)) = (d.b.drop (pre.length + k)).drop 1 := by rw [List.drop_drop]; congr 1
      rw [this, hd, Nat.pow_succ, ← Nat.div_div_eq_div_mul, hwd]; rfl
  · rcases hcx with ⟨hx, rfl⟩ | ⟨hn, rfl⟩
    · omega
    · right; rw [Nat.pow_succ, ← Nat.div_div_eq_div_mul, hwd]; omega
  · rcases hcx with ⟨hx, rfl⟩ | ⟨hn, rfl⟩
    · omega
    · rw [vb_ge hn] at hkl
      rw [Nat.pow_succ, ← Nat.div_div_eq_div_mul, hwd]; simp at hkl; omega
theorem DecInt_p {d : S_codec_Dec} {Q : S_codec_Dec → Int → Prop} {pre post : List Int} {n : Int} (hn : inR .i64 n) (hb : d.b = pre ++ (encI n ++ post)) (hat : d.at_ = (pre.length : Int)) (he : d.err = .nil) (hlen : d.b.length ≤ 1000000000000)
    (h : Q ⟨d.b, ((pre.length + (encI n).length : Nat) : Int), .nil⟩ n) : codec_Dec_Int_p d Q := by
  unfold codec_Dec_Int_p; simp only [inR_i64]; intro _ _
  refine ⟨fun hx => (by rw [he] at hx; cases hx), fun _ => DecUint_p (zz_lt hn) hb hat hlen (fun _ _ => ⟨fun hx => absurd rfl hx, fun _ => ?_⟩)⟩
  have hz := zz_lt hn
  have h1 : iand .u64 ((zz n : Nat) : Int) (1 : Int) = ((zz n % 2 : Nat) : Int) := by rw [← and1]; exact iand_u64 hz (by decide)
  have h4 : iwrap .i64 ((zz n % 2 : Nat) : Int) = ((zz n % 2 : Nat) : Int) := by unfold iwrap; rw [IntKind.wrap_i64]; omega
  refine ⟨by rw [h1, h4]; omega, ?_⟩
  rintro _ rfl
  rw [dec_uz hz, uz_zz, he]
  exact h
theorem DecText_p {d : S_codec_Dec} {Q : S_codec_Dec → ByteArray → Prop} {pre post : List Int} {s : ByteArray} (hb : d.b = pre ++ (encT s ++ post)) (hat : d.at_ = (pre.length : Int)) (he : d.err = .nil) (hlen : d.b.length ≤ 1000000000000)
    (h : Q ⟨d.b, ((pre.length + (encT s).length : Nat) : Int), .nil⟩ s) : codec_Dec_Text_p d Q := by
  unfold codec_Dec_Text_p; simp only [inR_i64]; intro _ _
  have hb2 : d.b = pre ++ (encI (s.size : Int) ++ (bytesL s ++ post)) := by rw [hb]; unfold encT; simp
  have hl : d.b.length = pre.length + ((encI (s.size : Int)).length + (s.size + post.length)) := by rw [hb2]; simp [bytesL_len]
  have hr : inR .i64 (s.size : Int) := inR_i64.2 ⟨by omega, by omega⟩
  refine DecInt_p hr hb2 hat he hlen (fun _ _ _ => ⟨fun hx => (by cases hx), fun _ => ⟨fun hx => absurd hx (by omega), fun _ => ?_⟩⟩)
  refine ⟨by dsimp only; omega, fun hx => absurd hx (by dsimp only; omega), fun _ => ⟨by dsimp only; omega, by dsimp only; omega, by dsimp only; omega, ?_⟩⟩
  have e1 : (d.b.take ((((pre.length + (encI (s.size : Int)).length : Nat) : Int) + (s.size : Int))).toNat).drop (((pre.length + (encI (s.size : Int)).length : Nat) : Int)).toNat = bytesL s := by
    rw [hb2, ← List.append_assoc, Int.toNat_natCast]
    rw [show ((((pre.length + (encI (s.size : Int)).length : Nat) : Int) + (s.size : Int))).toNat = (pre ++ encI (s.size : Int)).length + s.size from by simp; omega, show pre.length + (encI (s.size : Int)).length = (pre ++ encI (s.size : Int)).length from by simp]
    rw [List.take_length_add_append, List.drop_left, ← bytesL_len, List.take_left]
  rw [e1, strOfNums_bytesL]
  rw [show (((pre.length + (encI (s.size : Int)).length : Nat) : Int) + (s.size : Int)) = ((pre.length + (encT s).length : Nat) : Int) from by unfold encT; simp [bytesL_len]; omega]
  exact h
theorem known3_p {Q : Bool → Prop} (h : Q true) : rectolaw3_known_p Q := by
  unfold rectolaw3_known_p
  have v150 : encI 150 = [172, 2] := by show vb 300 = _; rw [vb_ge (by decide), vb_lt (by decide)]; rfl
  have vm1 : encI (-1) = [1] := by show vb 1 = _; rw [vb_lt (by decide)]; rfl
  have v2 : encI 2 = [4] := by show vb 4 = _; rw [vb_lt (by decide)]; rfl
  have hT : encT (ByteArray.mk #[97, 98]) = [4, 97, 98] := by unfold encT; rw [show (((ByteArray.mk #[97, 98]).size : Nat) : Int) = 2 from rfl, v2]; rfl
  have hI : encIs [150, -1] = [172, 2, 1] := by unfold encIs; simp [v150, vm1]
  refine EncInt_p (by decide) ?_
  rw [hI]
  refine EncText_p (by decide) ?_
  rw [hT]
  refine EncBytes_p (by decide) (fun _ => Of_p (by decide) ?_)
  refine DecInt_p (pre := []) (post := [1, 4, 97, 98]) (n := 150) (by decide) (by rw [v150]; rfl) rfl rfl (by decide) (fun _ => ?_)
  rw [v150]
  refine DecInt_p (pre := [172, 2]) (post := [4, 97, 98]) (n := -1) (by decide) (by rw [vm1]; rfl) rfl rfl (by decide) (fun _ => ?_)
  rw [vm1]
  refine DecText_p (pre := [172, 2, 1]) (post := []) (s := ByteArray.mk #[97, 98]) (by rw [hT]; rfl) rfl rfl (by decide) (fun _ => ?_)
  rw [hT]
  refine ⟨fun b => b = true, by rintro _ rfl; exact h, ?_⟩
  refine EncBytes_p (by decide) (fun _ => ⟨fun _ => ⟨fun _ => ⟨fun _ => ⟨fun _ => ?_, fun hn => absurd rfl hn⟩, fun hn => absurd rfl hn⟩, fun hn => absurd rfl hn⟩, fun hn => absurd (by decide) hn⟩)
  unfold codec_Dec_Left_p codec_Dec_Err_p; simp only [inR_i64]
  exact fun _ _ => ⟨fun hx => (by cases hx), fun _ => ⟨by decide, fun _ => ⟨fun _ => fun _ _ => rfl, fun hn => absurd rfl hn⟩⟩⟩
/-- A number that is cut: too short, at its place. -/
theorem DecCut_p {d : S_codec_Dec} {Q : S_codec_Dec → Int → Int → Prop} {pre : List Int} {u c : Nat} (hu : u < 18446744073709551616) (hb : d.b = pre ++ (vb u).take c) (hc : c < (vb u).length) (hat : d.at_ = (pre.length : Int)) (hlen : pre.length ≤ 1000000000000)
    (h : Q d 0 3) : codec_Dec_uint_p d Q := by
  have hten := vb_ten hu
  have hl : d.b.length = pre.length + c := by rw [hb, List.length_append, List.length_take]; omega
  unfold codec_Dec_uint_p; simp only [inR_i64]
  refine ⟨fun _ => False, fun _ hf => hf.elim, ?_⟩
  refine ⟨fun _ s o => o = d ∧ ∃ k : Nat, s = k ∧ k ≤ c ∧ d.b.drop (pre.length + k) = (vb (u / 128 ^ k)).take (c - k) ∧ c - k < (vb (u / 128 ^ k)).length, fun _ s _ => 10 - s.toNat,
    ⟨rfl, 0, rfl, Nat.zero_le _, by rw [hb]; simp, by simpa using hc⟩, ?_⟩
  rintro _ _ o ⟨ho, k, rfl, hkc, hd, hk2⟩ hv _
  obtain rfl := ho.symm
  refine ⟨fun _ => ?_, fun hn => absurd (by omega) hn⟩
  intro _ _
  rw [hat]
  refine ⟨⟨by omega, by omega⟩, fun _ => h, fun hbad => ?_⟩
  have hk : k < c := by omega
  have hx : ¬ u / 128 ^ k < 128 := fun hx => by rw [vb_lt hx] at hk2; simp at hk2; omega
  have hin : inL d.b ((pre.length : Int) + k) := by unfold inL; omega
  have hget : lget d.b ((pre.length : Int) + k) = ((u / 128 ^ k % 128 + 128 : Nat) : Int) := by
    have e : lget d.b ((pre.length : Int) + k) = lget ((vb (u / 128 ^ k)).take (c - k)) 0 := by
      rw [← hd, show ((pre.length : Int) + k) = ((pre.length + k : Nat) : Int) from by omega, lget_nat, show (0 : Int) = ((0 : Nat) : Int) from rfl, lget_nat]
      simp [List.getD]
    obtain ⟨m, hm⟩ : ∃ m, c - k = m + 1 := ⟨c - k - 1, by omega⟩
    rw [e, vb_ge hx, hm]; rfl
  rw [hget]
  refine ⟨⟨by omega, by omega⟩, hin, fun _ => ⟨fun b => b = false, ?_, ?_⟩⟩
  · rintro _ rfl
    refine ⟨fun hb => (by cases hb), fun _ => ⟨⟨by omega, by omega⟩, by omega, ?_⟩⟩
    rintro _ rfl
    refine ⟨fun hlt => absurd hlt (by omega), fun hge => ⟨⟨by omega, by omega⟩, ⟨rfl, k + 1, rfl, hk, ?_, ?_⟩, by dsimp only; omega⟩⟩
    · have e1 : d.b.drop (pre.length + (k + 1)) = (d.b.drop (pre.length + k)).drop 1 := by rw [List.drop_drop]; congr 1
      obtain ⟨m, hm⟩ : ∃ m, c - k = m + 1 := ⟨c - k - 1, by omega⟩
      rw [e1, hd, Nat.pow_succ, ← Nat.div_div_eq_div_mul, vb_ge hx, hm, show c - (k + 1) = m from by omega]; rfl
    · rw [vb_ge hx, List.length_cons] at hk2
      rw [Nat.pow_succ, ← Nat.div_div_eq_div_mul]; omega
  · have hz : decide (((u / 128 ^ k % 128 + 128 : Nat) : Int) = 0) = false := decide_eq_false (by omega)
    exact ⟨fun h9 => absurd h9 (by omega), fun _ => ⟨fun _ => (by show decide _ = false; exact hz), fun _ => rfl⟩⟩
theorem DecIntCut_p {d : S_codec_Dec} {Q : S_codec_Dec → Int → Prop} {pre : List Int} {n : Int} {c : Nat} (hn : inR .i64 n) (hb : d.b = pre ++ (encI n).take c) (hc : c < (encI n).length) (hat : d.at_ = (pre.length : Int)) (he : d.err = .nil) (hlen : pre.length ≤ 1000000000000)
    (h : Q ⟨d.b, (pre.length : Int), .fault (ByteArray.mk #[98, 121, 116, 101]) (pre.length : Int) 3⟩ 0) : codec_Dec_Int_p d Q := by
  unfold codec_Dec_Int_p; simp only [inR_i64]; intro _ _
  refine ⟨fun hx => (by rw [he] at hx; cases hx), fun _ => DecCut_p (zz_lt hn) hb hc hat hlen (fun _ _ => ⟨fun _ => ?_, fun hx => absurd hx (by decide)⟩)⟩
  unfold codec_Dec_fail_p; intro _ _ _ _
  rw [hat]; exact h
end Go.Proofs.YtljbaoehhnljlaaRRRRDoor
