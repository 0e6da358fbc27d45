/- Plain laws of chapter 12: pieces, done by the document. -/
import Derived.Test.YtkmenljohhngjaaDoorPmA
namespace Go.Proofs.YtkmenljohhngjaaDoor
open Go
def toRE (e : S_diff_Edit) : S_rectoref11_Edit := ⟨e.Op, e.Line⟩
def toRH (h : S_patch_Hunk) : S_rectoref11_Hunk := ⟨h.At, h.Del, h.To, h.Add, h.Lines.map toRE⟩
theorem rOfE_p {l : List S_diff_Edit} {Q : List S_rectoref11_Edit → Prop} (hl : l.length ≤ 1000000) (h : Q (l.map toRE)) : rectolaw11_Of_p l Q := by
  unfold rectolaw11_Of_p; simp only [inR_i64]; intro _
  refine ⟨fun out i => ∃ k : Nat, i = k ∧ k ≤ l.length ∧ out = (l.take k).map toRE, fun _ i => l.length - i.toNat, ⟨0, rfl, Nat.zero_le _, rfl⟩, ?_⟩
  rintro _ _ ⟨k, rfl, hk, rfl⟩ _ _
  refine ⟨fun hlt => ?_, fun hge => ?_⟩
  · have hkl : k < l.length := by omega
    refine ⟨inL_nat.2 hkl, fun _ _ => ⟨inL_nat.2 hkl, fun _ _ => ⟨by simp; omega, ⟨by omega, by omega⟩, ⟨k + 1, rfl, hkl, ?_⟩, by dsimp only; omega⟩⟩⟩
    rw [take_lget hkl, List.map_append]; rfl
  · have : k = l.length := by omega
    subst this; rw [List.take_length]; exact h
theorem rOfH_p {l : List S_patch_Hunk} {Q : List S_rectoref11_Hunk → Prop} (hl : smallH l) (h : Q (l.map toRH)) : rectolaw12_Of_p l Q := by
  have hl1 := hl.1
  unfold rectolaw12_Of_p; simp only [inR_i64]; intro _
  refine ⟨fun out i => ∃ k : Nat, i = k ∧ k ≤ l.length ∧ out = (l.take k).map toRH, fun _ i => l.length - i.toNat, ⟨0, rfl, Nat.zero_le _, rfl⟩, ?_⟩
  rintro _ _ ⟨k, rfl, hk, rfl⟩ _ _
  refine ⟨fun hlt => ?_, fun hge => ?_⟩
  · have hkl : k < l.length := by omega
    obtain ⟨b1, _⟩ := hl.2 k hkl
    have hi := inL_nat.2 hkl
    refine ⟨hi, fun _ _ _ _ _ => ⟨hi, fun _ _ _ _ _ => ⟨hi, fun _ _ _ _ _ => ⟨hi, fun _ _ _ _ _ => ⟨hi, fun _ _ _ _ _ => rOfE_p (by omega) (fun _ => ⟨by simp; omega, ?_⟩)⟩⟩⟩⟩⟩
    rintro _ rfl
    refine ⟨⟨by omega, by omega⟩, ⟨k + 1, rfl, hkl, ?_⟩, by dsimp only; omega⟩
    rw [take_lget hkl, List.map_append]; rfl
  · have : k = l.length := by omega
    subst this; rw [List.take_length]; exact h
theorem rhunk_p {a : List ByteArray} {x : S_patch_Hunk} {e s : Int} {Q : Int → Prop} (ha : a.length ≤ 1000000) (hl : x.Lines.length ≤ 1000000) (he : 0 ≤ e) (h1 : -1099511627776 ≤ x.At ∧ x.At ≤ 1099511627776) (h2 : -1099511627776 ≤ x.To ∧ x.To ≤ 1099511627776) (hq : Q (codeC a x e s)) : rectoref11_hunk_p a (toRH x) e s Q := by
  unfold rectoref11_hunk_p; intro _ r1 r2 r3 r4 _ r5 r6; simp only [inR_i64]
  have hlen : (toRH x).Lines.length = x.Lines.length := List.length_map _
  have hget : ∀ k : Nat, k < x.Lines.length → lget (toRH x).Lines (k : Int) = toRE (lget x.Lines (k : Int)) := fun k hk => lgetM toRE hk
  have hd0 := dels_le x.Lines
  have ha0 := adds_le x.Lines
  rw [hlen]
  refine ⟨fun d ad i => ∃ k : Nat, i = k ∧ k ≤ x.Lines.length ∧ okB (x.Lines.take k) = true ∧ d = (dels (x.Lines.take k) : Int) ∧ ad = (adds (x.Lines.take k) : Int), fun _ _ i => x.Lines.length - i.toNat, ⟨0, rfl, Nat.zero_le _, rfl, rfl, rfl⟩, ?_⟩
  rintro _ _ _ ⟨k, rfl, hk, hok, rfl, rfl⟩ _ _ _
  have b1 := dels_le (x.Lines.take k)
  have b2 := adds_le (x.Lines.take k)
  rw [List.length_take] at b1 b2
  refine ⟨fun hlt => ?_, fun hge => ?_⟩
  · have hkl : k < x.Lines.length := by omega
    have hd := dels_next hkl
    have had := adds_next hkl
    have ho := okB_next hkl
    rw [hok, Bool.true_and] at ho
    rw [hget k hkl]
    refine ⟨fun d ad => okB (x.Lines.take (k + 1)) = true ∧ d = (dels (x.Lines.take (k + 1)) : Int) ∧ ad = (adds (x.Lines.take (k + 1)) : Int), ?_, inL_nat.2 (by rw [hlen]; exact hkl), fun _ _ => ?_⟩
    · rintro _ _ ⟨h3, rfl, rfl⟩ _ _
      exact ⟨⟨by omega, by omega⟩, ⟨k + 1, rfl, hkl, h3, rfl, rfl⟩, by dsimp only; omega⟩
    · show (((lget x.Lines (k : Int)).Op = (1 : Int)) → _) ∧ ((¬ (lget x.Lines (k : Int)).Op = (1 : Int)) → (((lget x.Lines (k : Int)).Op = (2 : Int)) → _) ∧ ((¬ (lget x.Lines (k : Int)).Op = (2 : Int)) → (((lget x.Lines (k : Int)).Op = (3 : Int)) → _) ∧ ((¬ (lget x.Lines (k : Int)).Op = (3 : Int)) → _)))
      refine ⟨fun e1 => ⟨⟨by omega, by omega⟩, ⟨by omega, by omega⟩, ?_, ?_, ?_⟩, fun n1 => ⟨fun e2 => ⟨⟨by omega, by omega⟩, ?_, ?_, ?_⟩, fun n2 => ⟨fun e3 => ⟨⟨by omega, by omega⟩, ?_, ?_, ?_⟩, fun n3 => ?_⟩⟩⟩
      · rw [ho]; unfold opOk; simp [e1]
      · rw [if_neg (by omega)] at hd; omega
      · rw [if_neg (by omega)] at had; omega
      · rw [ho]; unfold opOk; simp [e2]
      · rw [if_neg (by omega)] at hd; omega
      · rw [if_pos e2] at had; omega
      · rw [ho]; unfold opOk; simp [e3]
      · rw [if_pos e3] at hd; omega
      · rw [if_neg (by omega)] at had; omega
      · have hbad : okB x.Lines = false := okB_bad hkl (by unfold opOk; simp [n1, n2, n3])
        have hf : formC x e s = 2 := by unfold formC; exact if_pos hbad
        unfold codeC at hq; rw [hf, if_neg (by decide)] at hq; exact hq
  have : k = x.Lines.length := by omega
  subst this
  rw [List.take_length] at hok ⊢
  have hnok : ¬ okB x.Lines = false := by rw [hok]; decide
  show ((x.At < e → True) ∧ (¬ x.At < e → ((x.Del = _ → ((x.Add = _ → (-9223372036854775808 ≤ x.To - x.At ∧ _) ∧ _) ∧ _)) ∧ _))) ∧ (((x.At < e ∨ (¬ (x.Del = (dels x.Lines : Int))) ∨ (¬ (x.Add = (adds x.Lines : Int))) ∨ (¬ (x.To - x.At = s)) ∨ x.To < 0) → _) ∧ ((¬ (x.At < e ∨ (¬ (x.Del = (dels x.Lines : Int))) ∨ (¬ (x.Add = (adds x.Lines : Int))) ∨ (¬ (x.To - x.At = s)) ∨ x.To < 0)) → _))
  refine ⟨⟨fun _ => trivial, fun _ => ⟨fun _ => ⟨fun _ => ⟨⟨by omega, by show x.To - x.At ≤ 9223372036854775807; omega⟩, ⟨fun _ => trivial, fun _ => trivial⟩⟩, fun _ => trivial⟩, fun _ => trivial⟩⟩, fun hc => ?_, fun hc => ?_⟩
  · have hf : formC x e s = 1 := by unfold formC; rw [if_neg hnok]; exact if_pos (by omega)
    unfold codeC at hq; rw [hf, if_neg (by decide)] at hq; exact hq
  have hf : formC x e s = 0 := by unfold formC; rw [if_neg hnok]; exact if_neg (by omega)
  unfold codeC at hq; rw [if_pos hf] at hq
  show ((x.At > (a.length : Int) → True) ∧ (¬ x.At > (a.length : Int) → ((-9223372036854775808 ≤ (a.length : Int) - x.At ∧ _) ∧ True))) ∧ ((x.At > (a.length : Int) ∨ x.Del > (a.length : Int) - x.At → _) ∧ (¬ (x.At > (a.length : Int) ∨ x.Del > (a.length : Int) - x.At) → _))
  refine ⟨⟨fun _ => trivial, fun _ => ⟨⟨by omega, by show (a.length : Int) - x.At ≤ 9223372036854775807; omega⟩, trivial⟩⟩, fun hc2 => ?_, fun hc2 => ?_⟩
  · unfold fitsC at hq; rw [if_pos hc2] at hq; exact hq
  unfold fitsC at hq; rw [if_neg hc2] at hq
  refine ⟨fun i s => ∃ k : Nat, s = k ∧ k ≤ x.Lines.length ∧ i = x.At + (dels (x.Lines.take k) : Int) ∧ fitsB a x.At x.Lines = fitsB a i (x.Lines.drop k), fun _ s => x.Lines.length - s.toNat, ⟨0, rfl, Nat.zero_le _, by simp [dels, toRH], rfl⟩, ?_⟩
  rintro _ _ ⟨k, rfl, hk, rfl, hf2⟩ _ _
  have hm1 := dels_mono x.Lines (k + 1)
  have hm := dels_mono x.Lines k
  refine ⟨fun hlt => ?_, fun hge => ?_⟩
  · have hkl : k < x.Lines.length := by omega
    have hdn := dels_next hkl
    have hin : inL (toRH x).Lines (k : Int) := inL_nat.2 (by rw [hlen]; exact hkl)
    rw [dropL hkl, fitsB] at hf2
    rw [hget k hkl]
    refine ⟨fun i => i = x.At + (dels (x.Lines.take (k + 1)) : Int) ∧ fitsB a x.At x.Lines = fitsB a i (x.Lines.drop (k + 1)), ?_, hin, fun _ _ => ?_⟩
    · rintro _ ⟨rfl, h4⟩ _
      exact ⟨⟨by omega, by omega⟩, ⟨k + 1, rfl, hkl, rfl, h4⟩, by dsimp only; omega⟩
    show (((lget x.Lines (k : Int)).Op = (3 : Int)) → _) ∧ ((¬ (lget x.Lines (k : Int)).Op = (3 : Int)) → _)
    refine ⟨fun e3 => ?_, fun n3 => ?_⟩
    · rw [if_pos e3] at hf2 hdn; exact ⟨by omega, hf2⟩
    · rw [if_neg n3] at hf2 hdn
      refine ⟨⟨by omega, by omega⟩, fun _ => ⟨hin, fun _ _ => ?_⟩⟩
      show ((¬ (lget a (x.At + (dels (x.Lines.take k) : Int)) = (lget x.Lines (k : Int)).Line)) → _) ∧ ((lget a (x.At + (dels (x.Lines.take k) : Int)) = (lget x.Lines (k : Int)).Line) → _)
      refine ⟨fun hne => ?_, fun heq => ⟨⟨by omega, by omega⟩, by omega, ?_⟩⟩
      · rw [decide_eq_false hne, Bool.false_and] at hf2
        rw [hf2] at hq; exact hq
      · rw [decide_eq_true heq, Bool.true_and] at hf2; exact hf2
  · have : k = x.Lines.length := by omega
    subst this
    rw [List.drop_length] at hf2
    rw [hf2] at hq; exact hq
def wOf : Option (Nat × Int) → S_rectoref3_Wrong
  | none => ⟨[], 0⟩
  | some (k, c) => ⟨[⟨hunkB, (k : Int)⟩], c⟩
theorem rApply_p {a : List ByteArray} {h : List S_patch_Hunk} {Q : List ByteArray → S_rectoref3_Wrong → Prop} (ha : a.length ≤ 1000000) (hh : smallH h) (hq : Q (apl a h 0 [] 0).1 (wOf (apl a h 0 [] 0).2)) : rectoref11_Apply_p a (h.map toRH) Q := by
  unfold rectoref11_Apply_p; simp only [inR_i64]; intro _ _
  have hlen : (h.map toRH).length = h.length := List.length_map _
  rw [hlen]
  refine ⟨fun out e s => ∃ k : Nat, s = k ∧ k ≤ h.length ∧ apl a h 0 [] 0 = apl a (h.drop k) k out e ∧ 0 ≤ e ∧ e ≤ (a.length : Int) ∧ (out.length : Int) ≤ e + 1000 * k, fun _ _ s => h.length - s.toNat, ⟨0, rfl, Nat.zero_le _, rfl, Int.le_refl _, by omega, by simp⟩, ?_⟩
  rintro out e _ ⟨k, rfl, hk, hap, he0, hea, hol⟩ _ _ _
  have hh1 := hh.1
  refine ⟨fun hlt => ?_, fun hge => ?_⟩
  · have hkl : k < h.length := by omega
    obtain ⟨b1, b2, b3⟩ := hh.2 k hkl
    rw [dropL hkl, apl] at hap
    have hgt := lgetM toRH hkl
    have hin : inL (h.map toRH) (k : Int) := inL_nat.2 (by rw [hlen]; exact hkl)
    generalize hx : lget h (k : Int) = x at *
    rw [hgt]
    have hdl := dels_le x.Lines
    have hll : (toRH x).Lines.length = x.Lines.length := List.length_map _
    have hget : ∀ j : Nat, j < x.Lines.length → lget (toRH x).Lines (j : Int) = toRE (lget x.Lines (j : Int)) := fun j hj => lgetM toRE hj
    refine ⟨hin, fun _ _ _ _ _ => ⟨⟨by omega, by omega⟩, ?_⟩⟩
    refine rhunk_p ha (by omega) he0 b2 b3 (fun _ => ⟨fun hne => ?_, fun hz => ?_⟩)
    · unfold rectoref3_At_p; intro _ _ _ _ _
      rw [if_neg hne] at hap; rw [hap] at hq; exact hq
    rw [if_pos hz] at hap
    obtain ⟨z1, z2, z3, z4, z5, z6, z7, z8, z9, z10⟩ := code_zero hz
    have hml := midL a x.At e ⟨he0, z6, z8⟩
    refine ⟨hin, fun _ _ _ _ _ => ⟨⟨he0, z6, z8⟩, by show (out.length + ((a.take x.At.toNat).drop e.toNat).length) * 16 ≤ _; omega, fun o s => ∃ j : Nat, s = j ∧ j ≤ x.Lines.length ∧ o = (out ++ (a.take x.At.toNat).drop e.toNat) ++ ((x.Lines.take j).filter fun e => !decide (e.Op = 2)).map S_diff_Edit.Line ∧ o.length ≤ out.length + ((a.take x.At.toNat).drop e.toNat).length + j, fun _ s => x.Lines.length - s.toNat, ⟨0, rfl, Nat.zero_le _, by simp [toRH], by simp [toRH]⟩, ?_⟩⟩
    rintro o _ ⟨j, rfl, hj, ho, hjl⟩ _ _
    refine ⟨hin, fun _ _ _ _ _ => ?_⟩
    rw [hll]
    refine ⟨fun hlt => ?_, fun hge => ?_⟩
    · have hjl2 : j < x.Lines.length := by omega
      have hat := adL_take hjl2
      have hin2 : inL (toRH x).Lines (j : Int) := inL_nat.2 (by rw [hll]; exact hjl2)
      rw [hget j hjl2]
      refine ⟨fun o2 => o2 = (out ++ (a.take x.At.toNat).drop e.toNat) ++ ((x.Lines.take (j + 1)).filter fun e => !decide (e.Op = 2)).map S_diff_Edit.Line ∧ o2.length ≤ out.length + ((a.take x.At.toNat).drop e.toNat).length + (j + 1), ?_, hin, fun _ _ _ _ _ => ⟨hin2, fun _ _ => ?_⟩⟩
      · rintro o2 ⟨h4, h5⟩ _
        exact ⟨⟨by omega, by omega⟩, ⟨j + 1, rfl, hjl2, h4, h5⟩, by dsimp only; omega⟩
      show ((¬ (lget x.Lines (j : Int)).Op = (2 : Int)) → _) ∧ (((lget x.Lines (j : Int)).Op = (2 : Int)) → _)
      refine ⟨fun n2 => ?_, fun e2 => ?_⟩
      · rw [if_neg n2] at hat
        have : ([(lget x.Lines (j : Int)).Line]).length = 1 := rfl
        refine ⟨hin, fun _ _ _ _ _ => ⟨hin2, fun _ _ => ⟨by show (o.length + 1) * 16 ≤ _; omega, ?_, ?_⟩⟩⟩
        · rw [hat, ← List.append_assoc, ← ho]; rfl
        · rw [List.length_append]; show o.length + 1 ≤ _; omega
      · rw [if_pos e2, List.append_nil] at hat
        exact ⟨by rw [hat]; exact ho, by omega⟩
    · have : j = x.Lines.length := by omega
      subst this
      rw [List.take_length] at ho
      refine ⟨hin, fun _ _ _ _ _ => ⟨hin, fun _ _ _ _ _ => ⟨⟨by show _ ≤ x.At + x.Del; omega, by show x.At + x.Del ≤ _; omega⟩, ⟨by omega, by omega⟩, ⟨k + 1, rfl, hkl, ?_, by show 0 ≤ x.At + x.Del; omega, by show x.At + x.Del ≤ _; omega, by show _ ≤ x.At + x.Del + _; omega⟩, by dsimp only; omega⟩⟩⟩
      rw [hap, ho]; rfl
  · have : k = h.length := by omega
    subst this
    rw [List.drop_length, apl] at hap
    have hdl : (a.drop e.toNat).length ≤ a.length := by rw [List.length_drop]; omega
    refine ⟨⟨he0, hea⟩, by omega, ?_⟩
    rw [hap] at hq; exact hq
theorem rEqual_p {a b : List ByteArray} {Q : Bool → Prop} (h : Q (decide (a = b))) : rectoref11_Equal_p a b Q := by
  unfold rectoref11_Equal_p; simp only [inR_i64]; intro _ _
  refine ⟨fun hn => ?_, fun hl => ?_⟩
  · rw [decide_eq_false (by rintro rfl; exact hn rfl)] at h; exact h
  refine ⟨fun i => ∃ k : Nat, i = k ∧ k ≤ a.length ∧ a.take k = b.take k, fun i => a.length - i.toNat, ⟨0, rfl, Nat.zero_le _, rfl⟩, ?_⟩
  rintro _ ⟨k, rfl, hk, hab⟩ _
  refine ⟨fun hlt => ?_, fun hge => ?_⟩
  · have hka : k < a.length := by omega
    have hkb : k < b.length := by omega
    refine ⟨inL_nat.2 hka, fun _ => ⟨inL_nat.2 hkb, fun _ => ⟨fun hne => ?_, fun heq => ⟨⟨by omega, by omega⟩, ⟨k + 1, rfl, hka, by rw [take_lget hka, take_lget hkb, hab, heq]⟩, by dsimp only; omega⟩⟩⟩⟩
    rw [decide_eq_false (by rintro rfl; exact hne rfl)] at h; exact h
  · rw [List.take_of_length_le (by omega), List.take_of_length_le (by omega)] at hab
    rw [decide_eq_true hab] at h; exact h
end Go.Proofs.YtkmenljohhngjaaDoor
