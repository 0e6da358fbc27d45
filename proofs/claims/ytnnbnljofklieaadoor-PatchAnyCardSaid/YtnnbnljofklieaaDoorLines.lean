/- Plain laws of texts cut at their lines. No program stands here. -/
import Derived.Test.YtnnbnljofklieaaDoorPure
import Derived.Test.YtnnbnljofklieaaDoorLib
namespace Go.Proofs.YtnnbnljofklieaaDoor
open Go
abbrev LL (s : ByteArray) : List UInt8 := s.data.toList
def mkB (l : List UInt8) : ByteArray := ByteArray.mk l.toArray
theorem LL_mkB (l : List UInt8) : LL (mkB l) = l := by simp [LL, mkB]
theorem mkB_LL (s : ByteArray) : mkB (LL s) = s := by simp [LL, mkB]
theorem LL_inj {s t : ByteArray} : s = t ↔ LL s = LL t := ⟨fun h => by rw [h], fun h => by rw [← mkB_LL s, h, mkB_LL]⟩
theorem LL_len (s : ByteArray) : (LL s).length = s.size := rfl
theorem mkB_size (l : List UInt8) : (mkB l).size = l.length := by simp [mkB, ByteArray.size]
theorem LL_sub (s : ByteArray) (a b : Int) : LL (bsub s a b) = ((LL s).take b.toNat).drop a.toNat := by
  unfold bsub LL
  simp [ByteArray.data_extract, List.drop_take]
theorem toNat_size (s : ByteArray) : ((s.size : Nat) : Int).toNat = (LL s).length := by rw [LL_len]; rfl
theorem LL_tail (s : ByteArray) (a : Int) : LL (bsub s a s.size) = (LL s).drop a.toNat := by rw [LL_sub, toNat_size, List.take_length]
theorem bget_LL (s : ByteArray) (i : Int) : bget s i = (((LL s).getD i.toNat 0).toNat : Int) := by
  unfold bget LL; simp [Array.getD_eq_getD_getElem?]
theorem LL_cat (s t : ByteArray) : LL (s ++ t) = LL s ++ LL t := by simp [LL]
/-- the lines of a text -/
def splitL : List UInt8 → List (List UInt8)
  | [] => []
  | c :: r => if c = 10 then [10] :: splitL r else match splitL r with | [] => [[c]] | l :: ls => (c :: l) :: ls
theorem splitL_cut : ∀ (l : List UInt8) (k : Nat), k < l.length → (l[k]? = some 10 ∨ k + 1 = l.length) → (∀ j, j < k → l[j]? ≠ some 10) → splitL l = l.take (k + 1) :: splitL (l.drop (k + 1))
  | [], k, hk, _, _ => by simp at hk
  | c :: r, 0, _, h, _ => by
    by_cases hc : c = 10
    · subst hc; simp [splitL]
    · rcases h with h | h
      · simp at h; exact absurd h hc
      · simp at h; subst h; simp [splitL, hc]
  | c :: r, k + 1, hk, h, hn => by
    have hc : c ≠ 10 := by have := hn 0 (by omega); simpa using this
    have := splitL_cut r k (by simpa using hk) (by simpa using h) (fun j hj => by have := hn (j + 1) (by omega); simpa using this)
    simp [splitL, hc, this]
theorem splitL_in : ∀ (l : List UInt8), ∀ x ∈ splitL l, splitL x = [x]
  | [], x, h => by simp [splitL] at h
  | c :: r, x, h => by
    have ih := splitL_in r
    by_cases hc : c = 10
    · subst hc; simp [splitL] at h
      rcases h with rfl | h
      · simp [splitL]
      · exact ih x h
    · simp only [splitL, if_neg hc] at h
      cases hr : splitL r with
      | nil => rw [hr] at h; simp at h; subst h; simp [splitL, hc]
      | cons y ys =>
        rw [hr] at h ih; simp at h
        rcases h with rfl | h
        · simp [splitL, hc, ih y (by simp)]
        · exact ih x (by simp [h])
theorem splitL_ends : ∀ (l : List UInt8), ∀ x ∈ (splitL l).dropLast, x.getLast? = some 10
  | [], x, h => by simp [splitL] at h
  | c :: r, x, h => by
    have ih := splitL_ends r
    by_cases hc : c = 10
    · subst hc; simp only [splitL, if_pos] at h
      cases hr : splitL r with
      | nil => rw [hr] at h; simp at h
      | cons y ys =>
        rw [hr] at h ih; simp only [List.dropLast_cons_cons, List.mem_cons] at h
        rcases h with rfl | h
        · rfl
        · exact ih x h
    · simp only [splitL, if_neg hc] at h
      cases hr : splitL r with
      | nil => rw [hr] at h; simp at h
      | cons y ys =>
        rw [hr] at h ih
        cases ys with
        | nil => simp at h
        | cons z zs =>
          simp only [List.dropLast_cons_cons, List.mem_cons] at h ih
          rcases h with rfl | h
          · have := ih y (.inl rfl)
            cases y with
            | nil => simp at this
            | cons q qs => simpa [List.getLast?_cons] using this
          · exact ih x (.inr h)
theorem splitL_flat : ∀ (l : List UInt8), (splitL l).flatten = l
  | [] => rfl
  | c :: r => by
    have ih := splitL_flat r
    by_cases hc : c = 10
    · subst hc; simp [splitL, ih]
    · cases hr : splitL r with
      | nil => rw [hr] at ih; simp at ih; subst ih; simp [splitL, hc]
      | cons y ys => rw [hr] at ih; simp [splitL, hc, hr]; simpa using ih
theorem splitL_len : ∀ (l : List UInt8), (splitL l).length ≤ l.length
  | [] => Nat.le_refl _
  | c :: r => by
    have ih := splitL_len r
    by_cases hc : c = 10
    · subst hc; simp [splitL]; exact ih
    · cases hr : splitL r with
      | nil => simp [splitL, hc, hr]
      | cons y ys => rw [hr] at ih; simp [splitL, hc, hr] at ih ⊢; omega
def Sp (s : ByteArray) : List ByteArray := (splitL (LL s)).map mkB
theorem Sp_len (s : ByteArray) : (Sp s).length ≤ s.size := by unfold Sp; rw [List.length_map]; exact splitL_len _
theorem Sp_nil : Sp (ByteArray.mk #[]) = [] := rfl
theorem Sp_cut (s : ByteArray) (k : Nat) (hk : k < s.size) (h : (LL s)[k]? = some 10 ∨ k + 1 = s.size) (hn : ∀ j, j < k → (LL s)[j]? ≠ some 10) :
    Sp s = bsub s 0 ((k : Int) + 1) :: Sp (bsub s ((k : Int) + 1) s.size) := by
  have e1 : bsub s 0 ((k : Int) + 1) = mkB ((LL s).take (k + 1)) := by rw [LL_inj, LL_sub, LL_mkB]; simp
  have e2 : LL (bsub s ((k : Int) + 1) s.size) = (LL s).drop (k + 1) := by
    rw [LL_sub]; rw [show ((s.size : Nat) : Int).toNat = (LL s).length from by rw [LL_len]; rfl, List.take_length]; rfl
  unfold Sp
  rw [e2, splitL_cut (LL s) k hk h hn, List.map_cons, e1]
theorem Sp_in {s x : ByteArray} (h : x ∈ Sp s) : Sp x = [x] := by
  unfold Sp at h ⊢
  obtain ⟨l, hl, rfl⟩ := List.mem_map.1 h
  rw [LL_mkB, splitL_in _ l hl]; rfl
theorem Sp_in_ne {s x : ByteArray} (h : x ∈ Sp s) : x ≠ ByteArray.mk #[] := fun he => by have := Sp_in h; rw [he] at this; simp [Sp_nil] at this
theorem Sp_in_le {s x : ByteArray} (h : x ∈ Sp s) : x.size ≤ s.size := by
  unfold Sp at h
  obtain ⟨l, hl, rfl⟩ := List.mem_map.1 h
  rw [mkB_size]
  have := (List.sublist_flatten_of_mem hl).length_le
  rwa [splitL_flat] at this
def wholeL (l : List UInt8) : Prop := l = [] ∨ l.getLast? = some 10
instance (l : List UInt8) : Decidable (wholeL l) := by unfold wholeL; infer_instance
theorem Sp_whole {s : ByteArray} {k : Nat} (h : k + 1 < (Sp s).length) : wholeL (LL (lget (Sp s) (k : Int))) := by
  rw [lget_lt (by omega)]
  refine .inr (splitL_ends (LL s) _ ?_)
  unfold Sp at h ⊢
  rw [List.length_map] at h
  rw [List.getElem_map, LL_mkB]
  have : (splitL (LL s)).dropLast[k]'(by rw [List.length_dropLast]; omega) = (splitL (LL s))[k] := by rw [List.getElem_dropLast]
  rw [← this]; exact List.getElem_mem _
theorem intersperse_nil_flat {α : Type} : ∀ (L : List (List α)), (L.intersperse []).flatten = L.flatten
  | [] => rfl
  | [x] => rfl
  | x :: y :: L => by have := intersperse_nil_flat (y :: L); simp [List.intersperse] at this ⊢; exact this
theorem joinS_nil (l : List ByteArray) : joinS l (ByteArray.mk #[]) = mkB (l.map LL).flatten := by
  unfold joinS mkB Lib.join
  show ByteArray.mk (([] : List UInt8).intercalate (l.map LL)).toArray = _
  rw [List.intercalate, intersperse_nil_flat]
theorem joinS_Sp (s : ByteArray) : joinS (Sp s) (ByteArray.mk #[]) = s := by
  rw [joinS_nil]; unfold Sp
  rw [List.map_map, show (LL ∘ mkB) = id from funext LL_mkB, List.map_id, splitL_flat, mkB_LL]
theorem last_bget {s : ByteArray} (h : s.size ≠ 0) : bget s ((s.size : Int) - 1) = 10 ↔ (LL s).getLast? = some 10 := by
  have e : ((s.size : Int) - 1).toNat = (LL s).length - 1 := by rw [LL_len]; omega
  have hl : (LL s).length - 1 < (LL s).length := by rw [LL_len]; omega
  rw [bget_LL, e, List.getLast?_eq_getElem?, List.getD, List.getElem?_eq_getElem hl]
  simp only [Option.getD_some, Option.some.injEq]
  constructor
  · intro h; exact UInt8.toNat_inj.1 (by have : ((LL s)[(LL s).length - 1]).toNat = 10 := by exact_mod_cast h
                                         rw [this]; rfl)
  · intro h; rw [h]; rfl
theorem last_bsub {s : ByteArray} (h : s.size ≠ 0) : bsub s ((s.size : Int) - 1) s.size = ByteArray.mk #[10] ↔ (LL s).getLast? = some 10 := by
  have e : ((s.size : Int) - 1).toNat = (LL s).length - 1 := by rw [LL_len]; omega
  have hl : (LL s).length - 1 < (LL s).length := by rw [LL_len]; omega
  have e2 : (LL s).drop ((LL s).length - 1) = [(LL s)[(LL s).length - 1]] := by
    rw [List.drop_eq_getElem_cons hl, show (LL s).length - 1 + 1 = (LL s).length from by omega, List.drop_length]
  rw [LL_inj, LL_sub, e, show ((s.size : Nat) : Int).toNat = (LL s).length from by rw [LL_len]; rfl, List.take_length, e2, List.getLast?_eq_getElem?, List.getElem?_eq_getElem hl]
  simp [LL]
theorem size_zero {s : ByteArray} : s.size = 0 ↔ s = ByteArray.mk #[] := by
  rw [LL_inj, ← LL_len, List.length_eq_zero_iff]
/-- how much two rows share from the front -/
def npre {α : Type} [DecidableEq α] : List α → List α → Nat
  | x :: a, y :: b => if x = y then npre a b + 1 else 0
  | _, _ => 0
theorem npre_at {α : Type} [DecidableEq α] [Inhabited α] : ∀ (a b : List α) (k : Nat), k ≤ npre a b → ((k < a.length ∧ k < b.length ∧ lget a (k : Int) = lget b (k : Int)) ↔ k < npre a b)
  | [], b, k, h => by simp [npre] at h ⊢
  | x :: a, [], k, h => by simp [npre] at h ⊢
  | x :: a, y :: b, 0, h => by
    show (0 < a.length + 1 ∧ 0 < b.length + 1 ∧ x = y) ↔ _
    simp only [npre]
    by_cases hx : x = y
    · simp [hx]
    · simp [hx]
  | x :: a, y :: b, k + 1, h => by
    simp only [npre] at h ⊢
    by_cases hx : x = y
    · rw [if_pos hx] at h ⊢
      have := npre_at a b k (by omega)
      rw [show lget (x :: a) ((k + 1 : Nat) : Int) = lget a (k : Int) from by rw [lget_nat, lget_nat]; rfl, show lget (y :: b) ((k + 1 : Nat) : Int) = lget b (k : Int) from by rw [lget_nat, lget_nat]; rfl]
      simp only [List.length_cons]
      constructor
      · rintro ⟨h1, h2, h3⟩; have := this.1 ⟨by omega, by omega, h3⟩; omega
      · intro h1; obtain ⟨h2, h3, h4⟩ := this.2 (by omega); exact ⟨by omega, by omega, h4⟩
    · rw [if_neg hx] at h; omega
theorem npre_le {α : Type} [DecidableEq α] : ∀ (a b : List α), npre a b ≤ a.length
  | [], b => by simp [npre]
  | x :: a, [] => by simp [npre]
  | x :: a, y :: b => by
    simp only [npre]; split
    · have := npre_le a b; simp; omega
    · simp
theorem lget_rev {α : Type} [Inhabited α] {l : List α} {k : Nat} (h : k < l.length) : lget l ((l.length : Int) - 1 - k) = lget l.reverse (k : Int) := by
  rw [lget_lt (by simpa using h), List.getElem_reverse]
  rw [show (l.length : Int) - 1 - k = ((l.length - 1 - k : Nat) : Int) from by omega, lget_lt (by omega)]
theorem take_eq_step {α : Type} [Inhabited α] {a b : List α} {k : Nat} (hl : a.length = b.length) (hk : k < a.length) (h : a.take k = b.take k) : (lget a (k : Int) = lget b (k : Int)) ↔ a.take (k + 1) = b.take (k + 1) := by
  rw [take_lget hk, take_lget (by omega : k < b.length), h]; simp
end Go.Proofs.YtnnbnljofklieaaDoor
