/- The evaluator: what is taken from contracts: the program's 'word', found by the evaluator itself at each remainder. -/
import Derived.Test.YtfgmmabggjjhgaaGreatDoorEvGK
import Derived.Test.YtfgmmabggjjhgaaGreatDoorProg
import Derived.KernelRfl
namespace Go.Proofs.YtfgmmabggjjhgaaGreatDoor.Ev
open Go Go.Proofs

noncomputable def wordRun (r : Nat) : Bool :=
  runK Tryz.prog ⟨[(0, 26, r)], false⟩ 9 5 [⟨13, Tryz.f13, []⟩] [] 13 [.opq .u8 0] .l 0 fun v _ _ => strK v fun s => natsEq true s [119, Nat.add 97 r]
noncomputable def allK (p : Nat → Bool) (n : Nat) : Bool := @Nat.rec (fun _ => Bool) true (fun r ih => ifK (p r) ih false) n
theorem allK_some {p : Nat → Bool} : ∀ {n : Nat}, allK p n = true → ∀ r, r < n → p r = true
  | 0, _, r, hr => by omega
  | n + 1, h, r, hr => by
    obtain ⟨h1, h2⟩ := ifK_and (b := p n) (t := allK p n) h
    rcases Nat.lt_or_ge r n with hlt | hge
    · exact allK_some h2 r hlt
    · rw [show r = n by omega]; exact h1
theorem wordAll_true : allK wordRun 26 = true := by kernel_rfl
theorem word_has : FnHas Tryz.prog 13 := ⟨_, Tryz.func13, by kernel_rfl, by kernel_rfl⟩
theorem word_any {n : Nat} (hn : n ≤ 255) (w : World) : Calls Tryz.prog 13 #[.int .u8 n] w (Ret fun v w' => v = .string (ByteArray.mk #[119, UInt8.ofNat (97 + n % 26)]) ∧ Keeps w w') := by
  let E : Env := ⟨fun _ => 97, fun _ => Nat.le_refl _, fun _ => by omega, fun _ => n, fun _ => hn⟩
  have hF : Facts.Of ⟨[(0, 26, n % 26)], false⟩ E := ⟨fun x hx => by simp at hx; subst hx; rfl, fun h => by cases h⟩
  have hr := allK_some wordAll_true (n % 26) (Nat.mod_lt _ (by omega))
  unfold wordRun at hr
  obtain ⟨r, h', nx', hk, _, _, hC⟩ := runK_some (E := E) hF (by kernel_rfl) (fun d hd => by simp at hd; subst hd; exact ⟨Tryz.func13, by kernel_rfl⟩) (fun p hp => by cases hp) word_has hr (fun i _ => T.get_l i)
  replace hk := strK_some hk
  obtain ⟨s, rfl, hk⟩ := hk
  replace hk := natsEq_some hk
  obtain ⟨rfl, _⟩ := hk
  have hI : Inv E (fun _ => none) (T.l : T Blk).get w := ⟨fun i n t hi => (by rw [T.get_l] at hi; cases hi), fun i j n t m u hi => (by rw [T.get_l] at hi; cases hi)⟩
  refine (hC (fun _ => none) w [.int .u8 n] (fun _ _ _ => rfl) hI (VRs.cons (by simp only [VR]; rfl) VRs.nil)).mono ?_
  rintro e w' ⟨v, rfl, ρ', s1, _, s3⟩
  refine ⟨v, rfl, ?_, Keeps.of_stp s1⟩
  simp only [VR] at s3
  rw [s3]
  have h2 : Nat.add 97 (n % 26) < 256 := by
    have := Nat.mod_lt n (show 0 < 26 by omega)
    show 97 + n % 26 < 256
    omega
  have hb : E.byte (Nat.add 97 (n % 26)) = UInt8.ofNat (97 + n % 26) := by unfold Env.byte; rw [if_pos h2]; rfl
  have h119 : E.byte 119 = 119 := by unfold Env.byte; rfl
  simp only [Env.bytes, List.map_cons, List.map_nil, hb, h119]
theorem word_orc {E : Env} {F : Facts} {wf : Nat → Nat} (hE : ∀ i, E.letter (wf i) = 97 + E.arg i % 26) : FnRel Tryz.prog E F 13 (.orc (gWord wf)) := by
  refine .orc fun xs h nx k hk hfr => ?_
  unfold gWord at hk
  replace hk := l1K_some hk
  rcases hk with ⟨x, rfl, hk⟩ | hk
  rotate_left
  · cases hk
  have fin : ∀ (a : Nat) (m : Nat), k (.str [119, a]) h nx = true → m ≤ 255 → E.byte a = UInt8.ofNat (97 + m % 26) → (∀ ρ v, VR E ρ x v → v = .int .u8 m) → ∃ r h' nx', k r h' nx' = true ∧ Fresh h' nx' ∧ nx ≤ nx' ∧ CallR Tryz.prog E 13 [x] h.get nx r h'.get nx' := by
    intro a m hk hm ha hx
    refine ⟨_, h, nx, hk, hfr, Nat.le_refl _, .inl ⟨word_has, fun ρ w vs _ hI hvs => ?_⟩⟩
    simp only [VRs] at hvs
    obtain ⟨v, r, h1, h2, rfl⟩ := hvs
    subst h2
    have := hx ρ v h1; subst this
    refine (word_any hm w).mono ?_
    rintro e w' ⟨v, rfl, rfl, hkp⟩
    refine ⟨_, rfl, ρ, hkp.stp, hkp.inv hI, ?_⟩
    simp only [VR]
    have h119 : E.byte 119 = 119 := by unfold Env.byte; rfl
    simp [Env.bytes, ha, h119]
  replace hk := numK_some hk
  rcases hk with ⟨q, n, rfl, hk⟩ | ⟨q, i, rfl, hk⟩ | ⟨q, i, rfl, hk⟩
  · replace hk := ifK_and hk
    obtain ⟨hq, hk⟩ := hk
    have := kindEq_of hq; subst this
    cases n with
    | negSucc n => cases hk
    | ofNat n =>
      change forceN (Nat.add 97 (Nat.mod n 26)) (fun a => ifK (Nat.ble n 255) (k (.str [119, a]) h nx) false) = true at hk
      rw [forceN_eq] at hk
      obtain ⟨h255, hk⟩ := ifK_and hk
      refine fin _ n hk (ble_of h255) ?_ (fun ρ v hv => by simp only [VR] at hv; exact hv)
      have h2 : Nat.add 97 (Nat.mod n 26) < 256 := by
        have := Nat.mod_lt n (show 0 < 26 by omega)
        show 97 + n % 26 < 256
        omega
      unfold Env.byte
      rw [if_pos h2]; rfl
  · cases hk
  · replace hk := ifK_and hk
    obtain ⟨hq, hk⟩ := hk
    have := kindEq_of hq; subst this
    rw [forceN_eq] at hk
    refine fin _ (E.arg i) hk (E.arghi i) ?_ (fun ρ v hv => by simpa only [VR] using hv)
    unfold Env.byte
    rw [if_neg (by show ¬ (256 + wf i < 256); omega)]
    rw [show Nat.add 256 (wf i) - 256 = wf i from by show 256 + wf i - 256 = wf i; omega, hE]
end Go.Proofs.YtfgmmabggjjhgaaGreatDoor.Ev
