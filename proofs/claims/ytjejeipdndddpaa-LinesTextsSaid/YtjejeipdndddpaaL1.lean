/- Walks of functions: what each asks and computes, as a plain predicate, and the contract from it. -/
import Derived.Test.YtjejeipdndddpaaChecked
import Derived.Test.YtjejeipdndddpaaFull
import Derived.Test.YtjejeipdndddpaaLib
import Derived.Test.YtjejeipdndddpaaShelf
namespace Go.Proofs.Ytjejeipdndddpaa
open Go

theorem elT45 : ElemT Try.prog 45 9 1 16 := elemT_mk (i := Try.t9) (z := (.string (ByteArray.mk #[]))) (by kernel_rfl) (by kernel_rfl) (by kernel_rfl) (by kernel_rfl) Try.underlying45 Try.sizeOf9 (by decide) (by decide)
/-- strings.Index of one byte. -/
def strings_Index_p (s substr : ByteArray) (Q : Int → Prop) : Prop := ∃ c : UInt8, substr = ByteArray.mk #[c] ∧ (inR .i64 (Lib.indexByte s.data.toList c) → Q (Lib.indexByte s.data.toList c))
theorem strings_Index_w {X : List Nat} {w : World} {s substr : ByteArray} {Q : Int → Prop} (_hX0 : Old X w) (hs : s.size ≤ maxLen) (_ht : substr.size ≤ maxLen) (hp : strings_Index_p s substr Q) :
    Calls Try.prog 35 #[(.string s), (.string substr)] w (Ret fun v w' => ∃ r0 : Int, Q r0 ∧ Evo [] w w' ∧ v = (.int .i64 r0) ∧ inR .i64 r0) := by
  obtain ⟨c, rfl, hq⟩ := hp
  refine (Try.strings_Index_one s c w).mono ?_
  rintro e w' ⟨rfl, rfl⟩
  have hr := indexByte_inR hs (c := c)
  exact ⟨_, rfl, _, hq hr, RB.refl _ _ _, rfl, hr⟩

def slices_Clip_string_string_p (s : (List ByteArray)) (Q : (List ByteArray) → Prop) : Prop :=
  ((s.length ≤ 9223372036854775807) → ((0 ≤ (s.length : Int) ∧ (s.length : Int) ≤ (s.length : Int)) ∧ Q s))
set_option maxRecDepth 20000 in
set_option maxHeartbeats 4000000 in
theorem slices_Clip_string_string_w {X : List Nat} {w : World} {s : (List ByteArray)} {as1 : Option Addr} {cs2 : Nat} {Q : (List ByteArray) → Prop} (hX0 : Old X w) (hs3 : Sl rStr X w as1 cs2 s) (hp : slices_Clip_string_string_p s Q) :
    Calls Try.prog 36 #[(.slice as1 s.length cs2)] w (Ret fun v w' => ∃ (r0 : (List ByteArray)), Q r0 ∧ Evo [] w w' ∧ ∃ (aq01 : Option Addr), v = (.slice aq01 r0.length r0.length) ∧ Sl rStr X w' aq01 r0.length r0) := by
  have hXo := hX0
  have E0 : Evo [] w w := RB.refl _ _ _
  have hS : Sub X X := Sub.refl _
  unfold slices_Clip_string_string_p at hp
  refine enter_ Try.func36 rfl 9 [(0, (.slice as1 s.length cs2))] (by kernel_rfl) (fun Qe hQ => ?_)
  replace hp := hp (Sl.len hs3)
  refine seq_ (fun _ K4 => ?_)
  refine reg_ ?_
  refine sq (o_pv (.slice none 0 0) rfl (by kernel_rfl) ?_)
  refine nil_ ?_
  refine then_normal (K4 _ _ _ _ ?_)
  refine seq_ (fun _ K5 => ?_)
  refine reg_ ?_
  refine sq (o_pv (.slice as1 s.length cs2) rfl (by kernel_rfl) ?_)
  refine sq (o_pv (.slice as1 s.length cs2) rfl (by kernel_rfl) ?_)
  refine sq (o_pv (.int .i64 (s.length : Int)) rfl (by kernel_rfl) ?_)
  refine sq (o_pv (.slice as1 s.length cs2) rfl (by kernel_rfl) ?_)
  refine sq (o_pv (.int .i64 (s.length : Int)) rfl (by kernel_rfl) ?_)
  obtain ⟨h9, hp⟩ := hp
  refine sq (o_slice3F (R := rStr) (k := .i64) (k' := .i64) (X := X) (L := s) (s.length : Int) Try.underlying45 Try.sizeOf9 hs3 (by kernel_rfl) rfl rfl (by kernel_rfl) (by kernel_rfl) h9 ?_)
  intro a6 h8
  rw [take_len] at h8
  rw [take_len]
  refine sq (o_pv (.slice a6 s.length s.length) rfl (by kernel_rfl) ?_)
  refine nil_ ?_
  refine then_normal (K5 _ _ _ _ ?_)
  refine wp_ret ?_
  refine end_ret hQ (.slice a6 s.length s.length) (by kernel_rfl) ?_
  exact ⟨s, hp, E0, a6, rfl, (Sl.less h8 hS)⟩

def lines_Split_p (s : ByteArray) (Q : (List ByteArray) → Prop) : Prop :=
  ((s.size ≤ maxLen) → (∃ (I136 : ByteArray → (List ByteArray) → Prop) (m137 : ByteArray → (List ByteArray) → Nat), (I136 s ([] : List ByteArray)) ∧ ∀ (s66 : ByteArray) (out68 : (List ByteArray)), (I136 s66 out68) → (s66.size ≤ maxLen) → (out68.length ≤ 9223372036854775807) → (((¬ ((s66 : ByteArray) = (ByteArray.mk #[]))) → (strings_Index_p s66 (ByteArray.mk #[10]) (fun (r153 : Int) => ((inR .i64 r153) → (∃ k164 : Int → Prop, (∀ (i162 : Int), k164 i162 → (inR .i64 i162) → ((inR .i64 (i162 + (1 : Int))) ∧ ((0 ≤ (0 : Int) ∧ (0 : Int) ≤ (i162 + (1 : Int)) ∧ (i162 + (1 : Int)) ≤ (s66.size : Int)) ∧ (((out68.length + ([bsub s66 (0 : Int) (i162 + (1 : Int))]).length) * 16 ≤ 140737488355328) ∧ ((inR .i64 (i162 + (1 : Int))) ∧ ((0 ≤ (i162 + (1 : Int)) ∧ (i162 + (1 : Int)) ≤ (s66.size : Int) ∧ (s66.size : Int) ≤ (s66.size : Int)) ∧ ((I136 (bsub s66 (i162 + (1 : Int)) (s66.size : Int)) (out68 ++ ([bsub s66 (0 : Int) (i162 + (1 : Int))]))) ∧ m137 (bsub s66 (i162 + (1 : Int)) (s66.size : Int)) (out68 ++ ([bsub s66 (0 : Int) (i162 + (1 : Int))])) < m137 s66 out68))))))) ∧ (((r153 < (0 : Int)) → ((inR .i64 ((s66.size : Int) - (1 : Int))) ∧ (k164 ((s66.size : Int) - (1 : Int))))) ∧ ((¬ (r153 < (0 : Int))) → (k164 r153)))))))) ∧ (((s66 : ByteArray) = (ByteArray.mk #[])) → (slices_Clip_string_string_p out68 (fun (r215 : (List ByteArray)) => ((r215.length ≤ 9223372036854775807) → Q r215)))))))
set_option maxRecDepth 20000 in
set_option maxHeartbeats 4000000 in
theorem lines_Split_w {X : List Nat} {w : World} {s : ByteArray} {Q : (List ByteArray) → Prop} (hX0 : Old X w) (zs1 : s.size ≤ maxLen) (hp : lines_Split_p s Q) :
    Calls Try.prog 20 #[(.string s)] w (Ret fun v w' => ∃ (r0 : (List ByteArray)), Q r0 ∧ Evo [] w w' ∧ ∃ (aq01 : Option Addr), v = (.slice aq01 r0.length r0.length) ∧ Sl rStr X w' aq01 r0.length r0) := by
  have hXo := hX0
  have E0 : Evo [] w w := RB.refl _ _ _
  have hS : Sub X X := Sub.refl _
  unfold lines_Split_p at hp
  refine enter_ Try.func20 rfl 27 [(0, (.string s))] (by kernel_rfl) (fun Qe hQ => ?_)
  replace hp := hp zs1
  refine seq_ (fun _ K2 => ?_)
  refine reg_ ?_
  refine sq (o_pv (.slice none 0 0) rfl (by kernel_rfl) ?_)
  refine nil_ ?_
  refine then_normal (K2 _ _ _ _ ?_)
  refine seq_ (fun _ K3 => ?_)
  refine reg_ ?_
  refine sq (o_pv (.slice none 0 0) rfl (by kernel_rfl) ?_)
  refine nil_ ?_
  refine then_normal (K3 _ _ _ _ ?_)
  refine seq_ (fun _ K4 => ?_)
  refine wp_block ?_
  obtain ⟨I136, m137, hI138, hp⟩ := hp
  refine loop_ 33554425 (fun kq lq w140 => ∃ (X141 : List Nat) (s66 : ByteArray) (out68 : (List ByteArray)) (a69 : Option Addr) (n70 : Nat) (c71 : Nat), (lq = [(0, (.string s66)), (3, (.slice a69 n70 c71))]) ∧ (kq = m137 s66 out68) ∧ (Evo [] w w140) ∧ (Old X141 w140) ∧ (Sub X X141) ∧ (OS rStr ([]) w.heap.size X141 w140 9 a69 n70 c71 out68) ∧ (s66.size ≤ maxLen) ∧ (I136 s66 out68)) (m137 s ([] : List ByteArray)) [(0, (.string s)), (3, (.slice none 0 0))] (vs_cons (by kernel_rfl) (vs_cons (by kernel_rfl) vs_nil)) ⟨X, s, ([] : List ByteArray), none, 0, 0, rfl, rfl, E0, hXo, hS, (OS.nil _ _ _ _), zs1, hI138⟩ ?_
  rintro _ _ w140 g143 ⟨X141, s66, out68, a69, n70, c71, rfl, rfl, E146, hXo147, hS148, O72, zs67, hI139⟩ Kl144 hA145
  replace hp := hp s66 out68 hI139 zs67 (OS.len O72)
  refine seq_ (fun _ K149 => ?_)
  refine seq_ (fun _ K150 => ?_)
  refine reg_ ?_
  refine sq (o_pv (.string s66) rfl (by kernel_rfl) ?_)
  refine sq (o_pv (.bool (!decide ((s66 : ByteArray) = (ByteArray.mk #[])))) rfl (x_strne (by kernel_rfl) (by kernel_rfl)) ?_)
  refine nil_ ?_
  refine then_normal (K150 _ _ _ _ ?_)
  refine cond_nd ((s66 : ByteArray) = (ByteArray.mk #[])) (by kernel_rfl) (fun h151 => ?_) (fun h151 => ?_)
  ·
    replace hp := hp.1 h151
    refine wp_skip ?_
    refine then_normal (K149 _ _ _ _ ?_)
    refine wp_block ?_
    refine seq_ (fun _ K152 => ?_)
    refine reg_ ?_
    refine sq (o_pv (.string s66) rfl (by kernel_rfl) ?_)
    refine sq (o_call 35 #[(.string s66), (.string (ByteArray.mk #[10]))] rfl (x_call Try.call35 (by kernel_rfl)) (strings_Index_w (X := []) (s := s66) (substr := (ByteArray.mk #[10])) (Old.nil _) zs67 (by decide) hp) ?_)
    rintro _ w154 ⟨r153, hp, e155, rfl, rr157⟩
    have s156 := Step.of0 X141 e155
    replace hp := hp rr157
    refine sq (o_pv (.int .i64 r153) rfl (by kernel_rfl) ?_)
    refine nil_ ?_
    refine then_normal (K152 _ _ _ _ ?_)
    refine seq_ (fun _ K158 => ?_)
    refine seq_ (fun _ K159 => ?_)
    refine reg_ ?_
    refine sq (o_pv (.int .i64 r153) rfl (by kernel_rfl) ?_)
    refine sq (o_pv (.bool (decide (r153 < (0 : Int)))) rfl (by kernel_rfl) ?_)
    refine nil_ ?_
    refine then_normal (K159 _ _ _ _ ?_)
    have E171 := (Evo.then0 E146 e155)
    have hXo172 := (Old.step hXo147 s156)
    have hS173 := (Sub.trans hS148 (Step.up s156))
    have O174 := (OS.step0 O72 s156)
    obtain ⟨k164, hk165, hp⟩ := hp
    refine ground_ ?_
    refine join_ 14352 (fun lq w166 => ∃ (X167 : List Nat) (i162 : Int), (lq = [(4, (.int .i64 i162))]) ∧ (Evo [] w w166) ∧ (Old X167 w166) ∧ (Sub X X167) ∧ (OS rStr ([]) w.heap.size X167 w166 9 a69 n70 c71 out68) ∧ (inR .i64 i162) ∧ (k164 i162)) (fun Kj168 hJ169 => ?_) ?_
    ·
      refine cond_d (r153 < (0 : Int)) (by kernel_rfl) (fun h179 => ?_) (fun h179 => ?_)
      ·
        replace hp := hp.1 h179
        refine reg_ ?_
        refine sq (o_pv (.string s66) rfl (by kernel_rfl) ?_)
        refine sq (o_pv (.int .i64 (s66.size : Int)) rfl (by kernel_rfl) ?_)
        obtain ⟨h180, hp⟩ := hp
        refine sq (o_pv (.int .i64 ((s66.size : Int) - (1 : Int))) rfl (x_sub2 (k := .i64) (a := (s66.size : Int)) (b := (1 : Int)) ((s66.size : Int) - (1 : Int)) (by kernel_rfl) (by kernel_rfl) (wrap_inR h180)) ?_)
        refine sq (o_pv (.int .i64 ((s66.size : Int) - (1 : Int))) rfl (by kernel_rfl) ?_)
        refine nil_ ?_
        refine then_normal (hJ169 _ _ _ ⟨[(4, (.int .i64 ((s66.size : Int) - (1 : Int))))], fit_mk (fun _ _ => rfl) (by kernel_rfl) (vs_cons (by kernel_rfl) vs_nil), ?_⟩)
        exact ⟨X141, ((s66.size : Int) - (1 : Int)), rfl, E171, hXo172, hS173, O174, h180, hp⟩
      ·
        replace hp := hp.2 h179
        refine wp_skip ?_
        refine then_normal (hJ169 _ _ _ ⟨[(4, (.int .i64 r153))], fit_mk (fun _ _ => rfl) (by kernel_rfl) (vs_cons (by kernel_rfl) vs_nil), ?_⟩)
        exact ⟨X141, r153, rfl, E171, hXo172, hS173, O174, rr157, hp⟩
    ·
      rintro _ w166 g181 ⟨X167, i162, rfl, E175, hXo176, hS177, O178, ri163, hv170⟩
      replace hp := hk165 i162 hv170 ri163
      refine then_normal (K158 _ _ _ _ ?_)
      refine seq_ (fun _ K182 => ?_)
      refine reg_ ?_
      refine sq (o_pv (.slice a69 n70 c71) rfl (by kernel_rfl) ?_)
      refine sq (o_pv (.string s66) rfl (by kernel_rfl) ?_)
      refine sq (o_pv (.int .i64 i162) rfl (by kernel_rfl) ?_)
      obtain ⟨h183, hp⟩ := hp
      refine sq (o_pv (.int .i64 (i162 + (1 : Int))) rfl (x_add2 (k := .i64) (a := i162) (b := (1 : Int)) (i162 + (1 : Int)) (by kernel_rfl) (by kernel_rfl) (wrap_inR h183)) ?_)
      obtain ⟨h184, hp⟩ := hp
      refine sq (o_pv (.string (bsub s66 (0 : Int) (i162 + (1 : Int)))) rfl (x_sub01 (k := .i64) (by kernel_rfl)  (by kernel_rfl) Try.underlying9 h184) ?_)
      refine sq (o_rowX (R := rStr) [(.string (bsub s66 (0 : Int) (i162 + (1 : Int))))] [bsub s66 (0 : Int) (i162 + (1 : Int))] 9 1 (X := X167) (B := w.heap.size) E175.size rfl (by kernel_rfl) (Flat.cons (cs := [(.string (bsub s66 (0 : Int) (i162 + (1 : Int))))]) (rStr_mk (bsub_le zs67 h184)) Flat.nil) rfl (by decide) ?_)
      intro b185 w186 X187 s188 O189 n190
      have p191 := n190 _ (OS.old O178)
      obtain ⟨h192, hp⟩ := hp
      have O193 := (OS.step0 O178 s188)
      have E194 := (Evo.then0 E175 (Step.evo s188))
      refine sq (o_appX (R := rStr) (X := X187) (B := w.heap.size) (L := out68) (M := [bsub s66 (0 : Int) (i162 + (1 : Int))]) rfl elT45 rfl E194.size O193 (OS.src O189) O189.1 (by kernel_rfl) (by kernel_rfl) h192 ?_)
      intro a195 n196 c197 w198 X199 s200 O201 gr202
      refine sq (o_pv (.slice a195 n196 c197) rfl (by kernel_rfl) ?_)
      refine nil_ ?_
      refine then_normal (K182 _ _ _ _ ?_)
      refine reg_ ?_
      refine sq (o_pv (.string s66) rfl (by kernel_rfl) ?_)
      refine sq (o_pv (.int .i64 i162) rfl (by kernel_rfl) ?_)
      obtain ⟨h203, hp⟩ := hp
      refine sq (o_pv (.int .i64 (i162 + (1 : Int))) rfl (x_add2 (k := .i64) (a := i162) (b := (1 : Int)) (i162 + (1 : Int)) (by kernel_rfl) (by kernel_rfl) (wrap_inR h203)) ?_)
      obtain ⟨h204, hp⟩ := hp
      refine sq (o_pv (.string (bsub s66 (i162 + (1 : Int)) (s66.size : Int))) rfl (x_sub10 (k := .i64) (by kernel_rfl) (by kernel_rfl)  Try.underlying9 h204) ?_)
      refine sq (o_pv (.string (bsub s66 (i162 + (1 : Int)) (s66.size : Int))) rfl (by kernel_rfl) ?_)
      refine nil_ ?_
      refine blk_normal ?_
      have E205 := (Evo.thenW E194 (Step.evo s200) O193.2.2)
      have hXo206 := (Old.step (Old.step hXo176 s188) s200)
      have hS207 := (Sub.trans (Sub.trans hS177 (Step.up s188)) (Step.up s200))
      refine then_normal (hA145 _ _ _ ⟨_, [(0, (.string (bsub s66 (i162 + (1 : Int)) (s66.size : Int)))), (3, (.slice a195 n196 c197))], hp.2, fit_mk (AgB.nest (AgB.look (AgB.mix _ _ _) (by kernel_rfl)) (by kernel_rfl) (by kernel_rfl)) (by kernel_rfl) (vs_cons (by kernel_rfl) (vs_cons (by kernel_rfl) vs_nil)), ?_⟩)
      exact ⟨X199, (bsub s66 (i162 + (1 : Int)) (s66.size : Int)), (out68 ++ ([bsub s66 (0 : Int) (i162 + (1 : Int))])), a195, n196, c197, rfl, rfl, E205, hXo206, hS207, O201, (bsub_le zs67 h204), hp.1⟩
  ·
    replace hp := hp.2 h151
    refine wp_exit ?_
    refine then_exit ?_
    refine then_exit ?_
    refine blk_exit ?_
    refine then_normal (K4 _ _ _ _ ?_)
    refine seq_ (fun _ K208 => ?_)
    refine reg_ ?_
    refine sq (o_pv (.slice a69 n70 c71) rfl (by kernel_rfl) ?_)
    have ax213 := OS.apold O72 hX0
    obtain ⟨X209, u210, r211, hm212⟩ := OS.release O72
    obtain rfl : n70 = out68.length := O72.1
    have hXo214 := (Old.less hXo147 u210)
    refine sq (o_call 36 #[(.slice a69 out68.length c71)] rfl (x_call Try.call36 (by kernel_rfl)) (slices_Clip_string_string_w (X := X209) (s := out68) hXo214 r211 hp) ?_)
    rintro _ w216 ⟨r215, hp, e217, ar219, rfl, hr220⟩
    have s218 := Step.of0 X209 e217
    replace hp := hp (Sl.len hr220)
    refine sq (o_pv (.slice ar219 r215.length r215.length) rfl (by kernel_rfl) ?_)
    refine nil_ ?_
    refine then_normal (K208 _ _ _ _ ?_)
    refine wp_ret ?_
    have hS221 := (Sub.trans (hm212 _ ax213 hS148) (Step.up s218))
    have E222 := (Evo.then0 E146 e217)
    refine end_ret hQ (.slice ar219 r215.length r215.length) (by kernel_rfl) ?_
    exact ⟨r215, hp, E222, ar219, rfl, (Sl.less hr220 hS221)⟩

/-- strings.Join. -/
def strings_Join_p (elems : List ByteArray) (sep : ByteArray) (Q : ByteArray → Prop) : Prop := elems.length ≤ 140737488355328 ∧ (joinS elems sep).size ≤ 140737488355328 ∧ Q (joinS elems sep)
theorem strings_Join_w {X : List Nat} {w : World} {elems : List ByteArray} {sep : ByteArray} {a : Option Addr} {cp : Nat} {Q : ByteArray → Prop} (_hX0 : Old X w) (he : Sl rStr X w a cp elems) (_ht : sep.size ≤ maxLen) (hp : strings_Join_p elems sep Q) :
    Calls Try.prog 39 #[(.slice a elems.length cp), (.string sep)] w (Ret fun v w' => ∃ r0 : ByteArray, Q r0 ∧ Evo [] w w' ∧ v = (.string r0) ∧ r0.size ≤ maxLen) := by
  obtain ⟨h1, h2, hq⟩ := hp
  have hm : (joinS elems sep).size ≤ maxLen := Nat.le_trans h2 (by decide)
  by_cases h0 : elems = []
  · subst h0
    refine (Try.strings_Join_none a cp sep w).mono ?_
    rintro e w' ⟨rfl, rfl⟩
    exact ⟨_, rfl, _, hq, RB.refl _ _ _, rfl, hm⟩
  · obtain ⟨b, o, rfl, hb, hc⟩ := strs_at he h0
    refine (Try.strings_Join b o cp elems sep w hc hb h1 he.1 (by rw [joinS_size] at h2; exact h2)).mono ?_
    rintro e w' ⟨rfl, hB⟩
    exact ⟨_, rfl, _, hq, Evo_of_Below hB, rfl, hm⟩

def lines_Join_p (l : (List ByteArray)) (Q : ByteArray → Prop) : Prop :=
  ((l.length ≤ 9223372036854775807) → (strings_Join_p l (ByteArray.mk #[]) (fun (r6 : ByteArray) => ((r6.size ≤ maxLen) → Q r6))))
set_option maxRecDepth 20000 in
set_option maxHeartbeats 4000000 in
theorem lines_Join_w {X : List Nat} {w : World} {l : (List ByteArray)} {al1 : Option Addr} {cl2 : Nat} {Q : ByteArray → Prop} (hX0 : Old X w) (hl3 : Sl rStr X w al1 cl2 l) (hp : lines_Join_p l Q) :
    Calls Try.prog 30 #[(.slice al1 l.length cl2)] w (Ret fun v w' => ∃ (r0 : ByteArray), Q r0 ∧ Evo [] w w' ∧ v = (.string r0) ∧ r0.size ≤ maxLen) := by
  have hXo := hX0
  have E0 : Evo [] w w := RB.refl _ _ _
  have hS : Sub X X := Sub.refl _
  unfold lines_Join_p at hp
  refine enter_ Try.func30 rfl 5 [(0, (.slice al1 l.length cl2))] (by kernel_rfl) (fun Qe hQ => ?_)
  replace hp := hp (Sl.len hl3)
  refine seq_ (fun _ K4 => ?_)
  refine reg_ ?_
  refine sq (o_pv (.string (ByteArray.mk #[])) rfl (by kernel_rfl) ?_)
  refine nil_ ?_
  refine then_normal (K4 _ _ _ _ ?_)
  refine seq_ (fun _ K5 => ?_)
  refine reg_ ?_
  refine sq (o_pv (.slice al1 l.length cl2) rfl (by kernel_rfl) ?_)
  refine sq (o_call 39 #[(.slice al1 l.length cl2), (.string (ByteArray.mk #[]))] rfl (x_call Try.call39 (by kernel_rfl)) (strings_Join_w (X := []) (elems := l) (sep := (ByteArray.mk #[])) (Old.nil _) (Sl.less hl3 (Sub.nil _)) (by decide) hp) ?_)
  rintro _ w7 ⟨r6, hp, e8, rfl, zr10⟩
  have s9 := Step.of0 X e8
  replace hp := hp zr10
  refine sq (o_pv (.string r6) rfl (by kernel_rfl) ?_)
  refine nil_ ?_
  refine then_normal (K5 _ _ _ _ ?_)
  refine wp_ret ?_
  have E11 := (Evo.then0 E0 e8)
  refine end_ret hQ (.string r6) (by kernel_rfl) ?_
  exact ⟨r6, hp, E11, rfl, zr10⟩

def internal_stringslite_HasSuffix_p (s : ByteArray) (suffix : ByteArray) (Q : Bool → Prop) : Prop :=
  ((s.size ≤ maxLen) → ((suffix.size ≤ maxLen) → (((((s.size : Int) ≥ (suffix.size : Int)) → ((inR .i64 ((s.size : Int) - (suffix.size : Int))) ∧ ((0 ≤ ((s.size : Int) - (suffix.size : Int)) ∧ ((s.size : Int) - (suffix.size : Int)) ≤ (s.size : Int) ∧ (s.size : Int) ≤ (s.size : Int)) ∧ True))) ∧ ((¬ ((s.size : Int) ≥ (suffix.size : Int))) → True)) ∧ Q (decide (((s.size : Int) ≥ (suffix.size : Int)) ∧ ((bsub s ((s.size : Int) - (suffix.size : Int)) (s.size : Int) : ByteArray) = suffix))))))
set_option maxRecDepth 20000 in
set_option maxHeartbeats 4000000 in
theorem internal_stringslite_HasSuffix_w {X : List Nat} {w : World} {s : ByteArray} {suffix : ByteArray} {Q : Bool → Prop} (hX0 : Old X w) (zs1 : s.size ≤ maxLen) (zsuffix2 : suffix.size ≤ maxLen) (hp : internal_stringslite_HasSuffix_p s suffix Q) :
    Calls Try.prog 41 #[(.string s), (.string suffix)] w (Ret fun v w' => ∃ (r0 : Bool), Q r0 ∧ Evo [] w w' ∧ v = (.bool r0)) := by
  have hXo := hX0
  have E0 : Evo [] w w := RB.refl _ _ _
  have hS : Sub X X := Sub.refl _
  unfold internal_stringslite_HasSuffix_p at hp
  refine enter_ Try.func41 rfl 21 [(0, (.string s)), (1, (.string suffix))] (by kernel_rfl) (fun Qe hQ => ?_)
  replace hp := hp zs1
  replace hp := hp zsuffix2
  refine seq_ (fun _ K3 => ?_)
  refine reg_ ?_
  refine sq (o_pv (.bool false) rfl (by kernel_rfl) ?_)
  refine nil_ ?_
  refine then_normal (K3 _ _ _ _ ?_)
  refine seq_ (fun _ K4 => ?_)
  obtain ⟨hp, hq⟩ := hp
  refine ground_ ?_
  refine join_ 2097136 (fun lq w10 => lq = [(4, (.bool (decide (((s.size : Int) ≥ (suffix.size : Int)) ∧ ((bsub s ((s.size : Int) - (suffix.size : Int)) (s.size : Int) : ByteArray) = suffix)))))] ∧ w = w10) (fun Kj8 hJ9 => ?_) ?_
  ·
    refine reg_ ?_
    refine sq (o_pv (.string s) rfl (by kernel_rfl) ?_)
    refine sq (o_pv (.int .i64 (s.size : Int)) rfl (by kernel_rfl) ?_)
    refine sq (o_pv (.string suffix) rfl (by kernel_rfl) ?_)
    refine sq (o_pv (.int .i64 (suffix.size : Int)) rfl (by kernel_rfl) ?_)
    by_cases h12 : (s.size : Int) ≥ (suffix.size : Int)
    ·
      replace hp := hp.1 h12
      refine sq (o_pv (.bool true) rfl (x_dt (p := (s.size : Int) ≥ (suffix.size : Int)) (by kernel_rfl) h12) ?_)
      refine sq (o_pv (.bool true) rfl (by kernel_rfl) ?_)
      refine sq (o_pv (.string s) (by kernel_rfl) (by kernel_rfl) ?_)
      refine sq (o_pv (.string s) (by kernel_rfl) (by kernel_rfl) ?_)
      refine sq (o_pv (.int .i64 (s.size : Int)) (by kernel_rfl) (by kernel_rfl) ?_)
      refine sq (o_pv (.string suffix) (by kernel_rfl) (by kernel_rfl) ?_)
      refine sq (o_pv (.int .i64 (suffix.size : Int)) (by kernel_rfl) (by kernel_rfl) ?_)
      obtain ⟨h13, hp⟩ := hp
      refine sq (o_pv (.int .i64 ((s.size : Int) - (suffix.size : Int))) (by kernel_rfl) (x_sub2 (k := .i64) (a := (s.size : Int)) (b := (suffix.size : Int)) ((s.size : Int) - (suffix.size : Int)) (by kernel_rfl) (by kernel_rfl) (wrap_inR h13)) ?_)
      obtain ⟨h14, hp⟩ := hp
      refine sq (o_pv (.string (bsub s ((s.size : Int) - (suffix.size : Int)) (s.size : Int))) (by kernel_rfl) (x_sub10 (k := .i64) (by kernel_rfl) (by kernel_rfl)  Try.underlying9 h14) ?_)
      refine sq (o_pv (.string suffix) (by kernel_rfl) (by kernel_rfl) ?_)
      refine sq (o_pv (.bool (decide ((bsub s ((s.size : Int) - (suffix.size : Int)) (s.size : Int) : ByteArray) = suffix))) (by kernel_rfl) (x_streq (by kernel_rfl) (by kernel_rfl)) ?_)
      refine sq (o_pv (.bool (decide ((bsub s ((s.size : Int) - (suffix.size : Int)) (s.size : Int) : ByteArray) = suffix))) rfl (by kernel_rfl) ?_)
      refine sq (o_pv (.bool (decide ((bsub s ((s.size : Int) - (suffix.size : Int)) (s.size : Int) : ByteArray) = suffix))) rfl (by kernel_rfl) ?_)
      refine nil_ ?_
      refine then_normal (hJ9 _ _ _ ⟨[(4, (.bool (decide (((s.size : Int) ≥ (suffix.size : Int)) ∧ ((bsub s ((s.size : Int) - (suffix.size : Int)) (s.size : Int) : ByteArray) = suffix)))))], fit_mk (fun _ _ => rfl) (by kernel_rfl) (vs_cons (Eq.trans (b := (.bool (decide ((bsub s ((s.size : Int) - (suffix.size : Int)) (s.size : Int) : ByteArray) = suffix)))) (by kernel_rfl) (dec_d ((and_iff_right h12).trans Iff.rfl)).symm) vs_nil), rfl, rfl⟩)
    ·
      replace hp := hp.2 h12
      refine sq (o_pv (.bool false) rfl (x_df (p := (s.size : Int) ≥ (suffix.size : Int)) (by kernel_rfl) h12) ?_)
      refine sq (o_pv (.bool false) rfl (by kernel_rfl) ?_)
      refine sq (o_not (by kernel_rfl) ?_)
      refine sq (o_not (by kernel_rfl) ?_)
      refine sq (o_not (by kernel_rfl) ?_)
      refine sq (o_not (by kernel_rfl) ?_)
      refine sq (o_not (by kernel_rfl) ?_)
      refine sq (o_not (by kernel_rfl) ?_)
      refine sq (o_not (by kernel_rfl) ?_)
      refine sq (o_not (by kernel_rfl) ?_)
      refine sq (o_not (by kernel_rfl) ?_)
      refine sq (o_pv (.bool false) rfl (by kernel_rfl) ?_)
      refine sq (o_pv (.bool false) rfl (by kernel_rfl) ?_)
      refine nil_ ?_
      refine then_normal (hJ9 _ _ _ ⟨[(4, (.bool (decide (((s.size : Int) ≥ (suffix.size : Int)) ∧ ((bsub s ((s.size : Int) - (suffix.size : Int)) (s.size : Int) : ByteArray) = suffix)))))], fit_mk (fun _ _ => rfl) (by kernel_rfl) (vs_cons (Eq.trans (b := (.bool false)) (by kernel_rfl) (dec_f (iff_false_intro (fun h => h12 h.1))).symm) vs_nil), rfl, rfl⟩)
  ·
    rintro _ w10 g11 ⟨rfl, hw⟩
    subst hw
    have hp := hq
    refine then_normal (K4 _ _ _ _ ?_)
    refine wp_ret ?_
    refine end_ret hQ (.bool (decide (((s.size : Int) ≥ (suffix.size : Int)) ∧ ((bsub s ((s.size : Int) - (suffix.size : Int)) (s.size : Int) : ByteArray) = suffix)))) (by kernel_rfl) ?_
    exact ⟨(decide (((s.size : Int) ≥ (suffix.size : Int)) ∧ ((bsub s ((s.size : Int) - (suffix.size : Int)) (s.size : Int) : ByteArray) = suffix))), hp, E0, rfl⟩

def strings_HasSuffix_p (s : ByteArray) (suffix : ByteArray) (Q : Bool → Prop) : Prop :=
  ((s.size ≤ maxLen) → ((suffix.size ≤ maxLen) → (internal_stringslite_HasSuffix_p s suffix (fun (r5 : Bool) => Q r5))))
set_option maxRecDepth 20000 in
set_option maxHeartbeats 4000000 in
theorem strings_HasSuffix_w {X : List Nat} {w : World} {s : ByteArray} {suffix : ByteArray} {Q : Bool → Prop} (hX0 : Old X w) (zs1 : s.size ≤ maxLen) (zsuffix2 : suffix.size ≤ maxLen) (hp : strings_HasSuffix_p s suffix Q) :
    Calls Try.prog 34 #[(.string s), (.string suffix)] w (Ret fun v w' => ∃ (r0 : Bool), Q r0 ∧ Evo [] w w' ∧ v = (.bool r0)) := by
  have hXo := hX0
  have E0 : Evo [] w w := RB.refl _ _ _
  have hS : Sub X X := Sub.refl _
  unfold strings_HasSuffix_p at hp
  refine enter_ Try.func34 rfl 8 [(0, (.string s)), (1, (.string suffix))] (by kernel_rfl) (fun Qe hQ => ?_)
  replace hp := hp zs1
  replace hp := hp zsuffix2
  refine seq_ (fun _ K3 => ?_)
  refine reg_ ?_
  refine sq (o_pv (.bool false) rfl (by kernel_rfl) ?_)
  refine nil_ ?_
  refine then_normal (K3 _ _ _ _ ?_)
  refine seq_ (fun _ K4 => ?_)
  refine reg_ ?_
  refine sq (o_pv (.string s) rfl (by kernel_rfl) ?_)
  refine sq (o_pv (.string suffix) rfl (by kernel_rfl) ?_)
  refine sq (o_call 41 #[(.string s), (.string suffix)] rfl (x_call Try.call41 (by kernel_rfl)) (internal_stringslite_HasSuffix_w (X := []) (s := s) (suffix := suffix) (Old.nil _) zs1 zsuffix2 hp) ?_)
  rintro _ w6 ⟨r5, hp, e7, rfl⟩
  have s8 := Step.of0 X e7
  refine sq (o_pv (.bool r5) rfl (by kernel_rfl) ?_)
  refine nil_ ?_
  refine then_normal (K4 _ _ _ _ ?_)
  refine wp_ret ?_
  have E9 := (Evo.then0 E0 e7)
  refine end_ret hQ (.bool r5) (by kernel_rfl) ?_
  exact ⟨r5, hp, E9, rfl⟩

def lines_Whole_p (s : ByteArray) (Q : Bool → Prop) : Prop :=
  ((s.size ≤ maxLen) → (∃ k10 : Bool → Prop, (∀ (s9 : Bool), k10 s9 → Q s9) ∧ ((((s : ByteArray) = (ByteArray.mk #[])) → (k10 true)) ∧ ((¬ ((s : ByteArray) = (ByteArray.mk #[]))) → (strings_HasSuffix_p s (ByteArray.mk #[10]) (fun (r21 : Bool) => (k10 r21)))))))
set_option maxRecDepth 20000 in
set_option maxHeartbeats 4000000 in
theorem lines_Whole_w {X : List Nat} {w : World} {s : ByteArray} {Q : Bool → Prop} (hX0 : Old X w) (zs1 : s.size ≤ maxLen) (hp : lines_Whole_p s Q) :
    Calls Try.prog 18 #[(.string s)] w (Ret fun v w' => ∃ (r0 : Bool), Q r0 ∧ Evo [] w w' ∧ v = (.bool r0)) := by
  have hXo := hX0
  have E0 : Evo [] w w := RB.refl _ _ _
  have hS : Sub X X := Sub.refl _
  unfold lines_Whole_p at hp
  refine enter_ Try.func18 rfl 9 [(0, (.string s))] (by kernel_rfl) (fun Qe hQ => ?_)
  replace hp := hp zs1
  refine seq_ (fun _ K2 => ?_)
  refine reg_ ?_
  refine sq (o_pv (.bool false) rfl (by kernel_rfl) ?_)
  refine nil_ ?_
  refine then_normal (K2 _ _ _ _ ?_)
  refine seq_ (fun _ K3 => ?_)
  obtain ⟨k10, hk11, hp⟩ := hp
  refine ground_ ?_
  refine join_ 508 (fun lq w12 => ∃ (X13 : List Nat) (s9 : Bool), (lq = [(2, (.bool s9))]) ∧ (Evo [] w w12) ∧ (Old X13 w12) ∧ (Sub X X13) ∧ (k10 s9)) (fun Kj14 hJ15 => ?_) ?_
  ·
    refine reg_ ?_
    refine sq (o_pv (.string s) rfl (by kernel_rfl) ?_)
    by_cases h20 : (s : ByteArray) = (ByteArray.mk #[])
    ·
      replace hp := hp.1 h20
      refine sq (o_pv (.bool true) rfl (x_dt (p := (s : ByteArray) = (ByteArray.mk #[])) (x_streq (by kernel_rfl) (by kernel_rfl)) h20) ?_)
      refine sq (o_pv (.bool true) rfl (by kernel_rfl) ?_)
      refine sq (o_not (by kernel_rfl) ?_)
      refine sq (o_not (by kernel_rfl) ?_)
      refine sq (o_pv (.bool true) rfl (by kernel_rfl) ?_)
      refine sq (o_pv (.bool true) rfl (by kernel_rfl) ?_)
      refine nil_ ?_
      refine then_normal (hJ15 _ _ _ ⟨[(2, (.bool true))], fit_mk (fun _ _ => rfl) (by kernel_rfl) (vs_cons (by kernel_rfl) vs_nil), ?_⟩)
      exact ⟨X, true, rfl, E0, hXo, hS, hp⟩
    ·
      replace hp := hp.2 h20
      refine sq (o_pv (.bool false) rfl (x_df (p := (s : ByteArray) = (ByteArray.mk #[])) (x_streq (by kernel_rfl) (by kernel_rfl)) h20) ?_)
      refine sq (o_pv (.bool false) rfl (by kernel_rfl) ?_)
      refine sq (o_pv (.string s) (by kernel_rfl) (by kernel_rfl) ?_)
      refine sq (o_call 34 #[(.string s), (.string (ByteArray.mk #[10]))] (by kernel_rfl) (x_call Try.call34 (by kernel_rfl)) (strings_HasSuffix_w (X := []) (s := s) (suffix := (ByteArray.mk #[10])) (Old.nil _) zs1 (by decide) hp) ?_)
      rintro _ w22 ⟨r21, hp, e23, rfl⟩
      have s24 := Step.of0 X e23
      refine sq (o_pv (.bool r21) rfl (by kernel_rfl) ?_)
      refine sq (o_pv (.bool r21) rfl (by kernel_rfl) ?_)
      refine nil_ ?_
      have E25 := (Evo.then0 E0 e23)
      have hXo26 := (Old.step hXo s24)
      have hS27 := (Sub.trans hS (Step.up s24))
      refine then_normal (hJ15 _ _ _ ⟨[(2, (.bool r21))], fit_mk (fun _ _ => rfl) (by kernel_rfl) (vs_cons (by kernel_rfl) vs_nil), ?_⟩)
      exact ⟨X, r21, rfl, E25, hXo26, hS27, hp⟩
  ·
    rintro _ w12 g28 ⟨X13, s9, rfl, E17, hXo18, hS19, hv16⟩
    replace hp := hk11 s9 hv16
    refine then_normal (K3 _ _ _ _ ?_)
    refine wp_ret ?_
    refine end_ret hQ (.bool s9) (by kernel_rfl) ?_
    exact ⟨s9, hp, E17, rfl⟩

def lines_Prefix_p (a : (List ByteArray)) (b : (List ByteArray)) (Q : Int → Prop) : Prop :=
  ((a.length ≤ 9223372036854775807) → ((b.length ≤ 9223372036854775807) → (∃ (I98 : Int → Prop) (m99 : Int → Nat), (I98 (0 : Int)) ∧ ∀ (n_10 : Int), (I98 n_10) → (inR .i64 n_10) → (∃ k149 : Bool → Prop, (∀ (s148 : Bool), k149 s148 → (((s148 = true) → ((inR .i64 (n_10 + (1 : Int))) ∧ ((I98 (n_10 + (1 : Int))) ∧ m99 (n_10 + (1 : Int)) < m99 n_10))) ∧ ((s148 = false) → Q n_10))) ∧ (((n_10 < (a.length : Int)) → (((n_10 < (b.length : Int)) → ((inL a n_10) ∧ (((lget a n_10).size ≤ maxLen) → ((inL b n_10) ∧ (((lget b n_10).size ≤ maxLen) → (k149 (decide ((lget a n_10 : ByteArray) = lget b n_10)))))))) ∧ ((¬ (n_10 < (b.length : Int))) → (k149 false)))) ∧ ((¬ (n_10 < (a.length : Int))) → (k149 false)))))))
set_option maxRecDepth 20000 in
set_option maxHeartbeats 4000000 in
theorem lines_Prefix_w {X : List Nat} {w : World} {a : (List ByteArray)} {b : (List ByteArray)} {aa1 : Option Addr} {ca2 : Nat} {ab4 : Option Addr} {cb5 : Nat} {Q : Int → Prop} (hX0 : Old X w) (ha3 : Sl rStr X w aa1 ca2 a) (hb6 : Sl rStr X w ab4 cb5 b) (hp : lines_Prefix_p a b Q) :
    Calls Try.prog 31 #[(.slice aa1 a.length ca2), (.slice ab4 b.length cb5)] w (Ret fun v w' => ∃ (r0 : Int), Q r0 ∧ Evo [] w w' ∧ v = (.int .i64 r0) ∧ inR .i64 r0) := by
  have hXo := hX0
  have E0 : Evo [] w w := RB.refl _ _ _
  have hS : Sub X X := Sub.refl _
  unfold lines_Prefix_p at hp
  refine enter_ Try.func31 rfl 30 [(0, (.slice aa1 a.length ca2)), (1, (.slice ab4 b.length cb5))] (by kernel_rfl) (fun Qe hQ => ?_)
  replace hp := hp (Sl.len ha3)
  replace hp := hp (Sl.len hb6)
  refine seq_ (fun _ K7 => ?_)
  refine reg_ ?_
  refine sq (o_pv (.int .i64 (0 : Int)) rfl (by kernel_rfl) ?_)
  refine nil_ ?_
  refine then_normal (K7 _ _ _ _ ?_)
  refine seq_ (fun _ K8 => ?_)
  refine reg_ ?_
  refine sq (o_pv (.int .i64 (0 : Int)) rfl (by kernel_rfl) ?_)
  refine nil_ ?_
  refine then_normal (K8 _ _ _ _ ?_)
  refine seq_ (fun _ K9 => ?_)
  refine wp_block ?_
  obtain ⟨I98, m99, hI100, hp⟩ := hp
  refine loop_ 536870880 (fun kq lq w102 => ∃ (X103 : List Nat) (n_10 : Int), (lq = [(5, (.int .i64 n_10))]) ∧ (kq = m99 n_10) ∧ (Evo [] w w102) ∧ (Old X103 w102) ∧ (Sub X X103) ∧ (Sl rStr X103 w102 aa1 ca2 a) ∧ (Sl rStr X103 w102 ab4 cb5 b) ∧ (inR .i64 n_10) ∧ (I98 n_10)) (m99 (0 : Int)) [(5, (.int .i64 (0 : Int)))] (vs_cons (by kernel_rfl) vs_nil) ⟨X, (0 : Int), rfl, rfl, E0, hXo, hS, ha3, hb6, (by decide), hI100⟩ ?_
  rintro _ _ w102 g105 ⟨X103, n_10, rfl, rfl, E108, hXo109, hS110, ha111, hb112, rn_11, hI101⟩ Kl106 hA107
  replace hp := hp n_10 hI101 rn_11
  refine seq_ (fun _ K113 => ?_)
  refine seq_ (fun _ K114 => ?_)
  obtain ⟨k149, hk150, hp⟩ := hp
  refine ground_ ?_
  refine join_ 134217664 (fun lq w151 => ∃ (X152 : List Nat) (s148 : Bool), (lq = [(26, (.bool s148))]) ∧ (Evo [] w w151) ∧ (Old X152 w151) ∧ (Sub X X152) ∧ (Sl rStr X152 w151 aa1 ca2 a) ∧ (Sl rStr X152 w151 ab4 cb5 b) ∧ (k149 s148)) (fun Kj153 hJ154 => ?_) ?_
  ·
    refine reg_drawn (RB w102.heap.size []) 21 (by kernel_rfl) (fun w161 hd162 => ?_)
    have e163 := Evo.of_drew hd162
    have z164 : w161.heap.size = w102.heap.size := by rw [hd162]
    clear hd162
    have s166 := Step.of0 X103 e163
    have er165 := RB.refl w102.heap.size [] w161
    have E167 := (Evo.then0 E108 (Step.evo s166))
    have hXo168 := (Old.step hXo109 s166)
    have hS169 := (Sub.trans hS110 (Step.up s166))
    have ha170 := (Sl.step ha111 s166)
    have hb171 := (Sl.step hb112 s166)
    refine r_take 0 (.int .i64 n_10) (RB.pre _ _) rfl (by kernel_rfl) (fun _ _ _ h => hQ.panic _ _ _ _ _ h) (.inl ⟨rfl, fun wq hq => (by kernel_rfl)⟩) ?_
    refine r_take 1 (.slice aa1 a.length ca2) (RB.pre _ _) rfl (by kernel_rfl) (fun _ _ _ h => hQ.panic _ _ _ _ _ h) (.inl ⟨rfl, fun wq hq => (by kernel_rfl)⟩) ?_
    refine r_take 2 (.int .i64 (a.length : Int)) (RB.pre _ _) rfl (by kernel_rfl) (fun _ _ _ h => hQ.panic _ _ _ _ _ h) (.inl ⟨rfl, fun wq hq => (by kernel_rfl)⟩) ?_
    by_cases h172 : n_10 < (a.length : Int)
    ·
      replace hp := hp.1 h172
      refine r_take 3 (.bool true) (RB.pre _ _) rfl (by kernel_rfl) (fun _ _ _ h => hQ.panic _ _ _ _ _ h) (.inl ⟨rfl, fun wq hq => (x_dt (p := n_10 < (a.length : Int)) (by kernel_rfl) h172)⟩) ?_
      refine r_take 4 (.bool true) (RB.pre _ _) rfl (by kernel_rfl) (fun _ _ _ h => hQ.panic _ _ _ _ _ h) (.inl ⟨rfl, fun wq hq => (by kernel_rfl)⟩) ?_
      refine r_take 5 (.int .i64 n_10) (RB.pre _ _) rfl (by kernel_rfl) (fun _ _ _ h => hQ.panic _ _ _ _ _ h) (.inl ⟨(by kernel_rfl), fun wq hq => (by kernel_rfl)⟩) ?_
      refine r_take 6 (.slice ab4 b.length cb5) (RB.pre _ _) rfl (by kernel_rfl) (fun _ _ _ h => hQ.panic _ _ _ _ _ h) (.inl ⟨(by kernel_rfl), fun wq hq => (by kernel_rfl)⟩) ?_
      refine r_take 7 (.int .i64 (b.length : Int)) (RB.pre _ _) rfl (by kernel_rfl) (fun _ _ _ h => hQ.panic _ _ _ _ _ h) (.inl ⟨(by kernel_rfl), fun wq hq => (by kernel_rfl)⟩) ?_
      by_cases h173 : n_10 < (b.length : Int)
      ·
        replace hp := hp.1 h173
        refine r_take 8 (.bool true) (RB.pre _ _) rfl (by kernel_rfl) (fun _ _ _ h => hQ.panic _ _ _ _ _ h) (.inl ⟨(by kernel_rfl), fun wq hq => (x_dt (p := n_10 < (b.length : Int)) (by kernel_rfl) h173)⟩) ?_
        refine r_take 9 (.bool true) (RB.pre _ _) rfl (by kernel_rfl) (fun _ _ _ h => hQ.panic _ _ _ _ _ h) (.inl ⟨rfl, fun wq hq => (by kernel_rfl)⟩) ?_
        refine r_take 10 (.bool true) (RB.pre _ _) rfl (by kernel_rfl) (fun _ _ _ h => hQ.panic _ _ _ _ _ h) (.inl ⟨rfl, fun wq hq => (by kernel_rfl)⟩) ?_
        refine r_take 11 (.slice aa1 a.length ca2) (RB.pre _ _) rfl (by kernel_rfl) (fun _ _ _ h => hQ.panic _ _ _ _ _ h) (.inl ⟨(by kernel_rfl), fun wq hq => (by kernel_rfl)⟩) ?_
        refine r_take 12 (.int .i64 n_10) (RB.pre _ _) rfl (by kernel_rfl) (fun _ _ _ h => hQ.panic _ _ _ _ _ h) (.inl ⟨(by kernel_rfl), fun wq hq => (by kernel_rfl)⟩) ?_
        obtain ⟨h174, hp⟩ := hp
        obtain ⟨b175, o176, cs177, ha178, nx179, lt180, ok181, hc182⟩ := Sl.atI ha170 n_10 h174
        obtain ⟨rfl, ze183⟩ := ok181
        replace hp := hp ze183
        refine r_take 13 (.pointer (some ⟨b175, o176 + n_10.toNat * 1, none⟩)) (RB.pre _ _) rfl (by kernel_rfl) (fun _ _ _ h => hQ.panic _ _ _ _ _ h) (.inl ⟨(by kernel_rfl), fun wq hq => (x_ixA (m := a.length) (c := ca2) (k := .i64) (i := n_10) Try.underlying45 Try.sizeOf9 (by rw [← ha178]; kernel_rfl) (by kernel_rfl) h174)⟩) ?_
        refine r_take 14 (.string (lget a n_10)) (RB.pre _ _) rfl (by kernel_rfl) (fun _ _ _ h => hQ.panic _ _ _ _ _ h) (.inl ⟨(by kernel_rfl), fun wq hq => (x_load1 (by kernel_rfl) Try.isAgg9 ((CellsAt.rb hc182 (RB.trans er165 hq) (Nat.lt_of_lt_of_eq lt180 z164) (fun h => by cases h)) 0 _ rfl))⟩) ?_
        refine r_take 15 (.slice ab4 b.length cb5) (RB.pre _ _) rfl (by kernel_rfl) (fun _ _ _ h => hQ.panic _ _ _ _ _ h) (.inl ⟨(by kernel_rfl), fun wq hq => (by kernel_rfl)⟩) ?_
        refine r_take 16 (.int .i64 n_10) (RB.pre _ _) rfl (by kernel_rfl) (fun _ _ _ h => hQ.panic _ _ _ _ _ h) (.inl ⟨(by kernel_rfl), fun wq hq => (by kernel_rfl)⟩) ?_
        obtain ⟨h184, hp⟩ := hp
        obtain ⟨b185, o186, cs187, ha188, nx189, lt190, ok191, hc192⟩ := Sl.atI hb171 n_10 h184
        obtain ⟨rfl, ze193⟩ := ok191
        replace hp := hp ze193
        refine r_take 17 (.pointer (some ⟨b185, o186 + n_10.toNat * 1, none⟩)) (RB.pre _ _) rfl (by kernel_rfl) (fun _ _ _ h => hQ.panic _ _ _ _ _ h) (.inl ⟨(by kernel_rfl), fun wq hq => (x_ixA (m := b.length) (c := cb5) (k := .i64) (i := n_10) Try.underlying45 Try.sizeOf9 (by rw [← ha188]; kernel_rfl) (by kernel_rfl) h184)⟩) ?_
        refine r_take 18 (.string (lget b n_10)) (RB.pre _ _) rfl (by kernel_rfl) (fun _ _ _ h => hQ.panic _ _ _ _ _ h) (.inl ⟨(by kernel_rfl), fun wq hq => (x_load1 (by kernel_rfl) Try.isAgg9 ((CellsAt.rb hc192 (RB.trans er165 hq) (Nat.lt_of_lt_of_eq lt190 z164) (fun h => by cases h)) 0 _ rfl))⟩) ?_
        refine r_take 19 (.bool (decide ((lget a n_10 : ByteArray) = lget b n_10))) (RB.pre _ _) rfl (by kernel_rfl) (fun _ _ _ h => hQ.panic _ _ _ _ _ h) (.inl ⟨(by kernel_rfl), fun wq hq => (x_streq (by kernel_rfl) (by kernel_rfl))⟩) ?_
        refine r_take 20 (.bool (decide ((lget a n_10 : ByteArray) = lget b n_10))) (RB.pre _ _) rfl (by kernel_rfl) (fun _ _ _ h => hQ.panic _ _ _ _ _ h) (.inl ⟨rfl, fun wq hq => (by kernel_rfl)⟩) ?_
        refine r_done (by kernel_rfl) ?_
        refine then_normal (hJ154 _ _ _ ⟨[(26, (.bool (decide ((lget a n_10 : ByteArray) = lget b n_10))))], fit_mk (fun _ _ => rfl) (by kernel_rfl) (vs_cons (by kernel_rfl) vs_nil), ?_⟩)
        exact ⟨X103, (decide ((lget a n_10 : ByteArray) = lget b n_10)), rfl, E167, hXo168, hS169, ha170, hb171, hp⟩
      ·
        replace hp := hp.2 h173
        refine r_take 8 (.bool false) (RB.pre _ _) rfl (by kernel_rfl) (fun _ _ _ h => hQ.panic _ _ _ _ _ h) (.inl ⟨(by kernel_rfl), fun wq hq => (x_df (p := n_10 < (b.length : Int)) (by kernel_rfl) h173)⟩) ?_
        refine r_take 9 (.bool false) (RB.pre _ _) rfl (by kernel_rfl) (fun _ _ _ h => hQ.panic _ _ _ _ _ h) (.inl ⟨rfl, fun wq hq => (by kernel_rfl)⟩) ?_
        refine r_take 10 (.bool false) (RB.pre _ _) rfl (by kernel_rfl) (fun _ _ _ h => hQ.panic _ _ _ _ _ h) (.inl ⟨rfl, fun wq hq => (by kernel_rfl)⟩) ?_
        refine r_take 11 undef (RB.pre _ _) rfl (by kernel_rfl) (fun _ _ _ h => hQ.panic _ _ _ _ _ h) (.inr ⟨by kernel_rfl, rfl⟩) ?_
        refine r_take 12 undef (RB.pre _ _) rfl (by kernel_rfl) (fun _ _ _ h => hQ.panic _ _ _ _ _ h) (.inr ⟨by kernel_rfl, rfl⟩) ?_
        refine r_take 13 undef (RB.pre _ _) rfl (by kernel_rfl) (fun _ _ _ h => hQ.panic _ _ _ _ _ h) (.inr ⟨by kernel_rfl, rfl⟩) ?_
        refine r_take 14 undef (RB.pre _ _) rfl (by kernel_rfl) (fun _ _ _ h => hQ.panic _ _ _ _ _ h) (.inr ⟨by kernel_rfl, rfl⟩) ?_
        refine r_take 15 undef (RB.pre _ _) rfl (by kernel_rfl) (fun _ _ _ h => hQ.panic _ _ _ _ _ h) (.inr ⟨by kernel_rfl, rfl⟩) ?_
        refine r_take 16 undef (RB.pre _ _) rfl (by kernel_rfl) (fun _ _ _ h => hQ.panic _ _ _ _ _ h) (.inr ⟨by kernel_rfl, rfl⟩) ?_
        refine r_take 17 undef (RB.pre _ _) rfl (by kernel_rfl) (fun _ _ _ h => hQ.panic _ _ _ _ _ h) (.inr ⟨by kernel_rfl, rfl⟩) ?_
        refine r_take 18 undef (RB.pre _ _) rfl (by kernel_rfl) (fun _ _ _ h => hQ.panic _ _ _ _ _ h) (.inr ⟨by kernel_rfl, rfl⟩) ?_
        refine r_take 19 undef (RB.pre _ _) rfl (by kernel_rfl) (fun _ _ _ h => hQ.panic _ _ _ _ _ h) (.inr ⟨by kernel_rfl, rfl⟩) ?_
        refine r_take 20 (.bool false) (RB.pre _ _) rfl (by kernel_rfl) (fun _ _ _ h => hQ.panic _ _ _ _ _ h) (.inl ⟨rfl, fun wq hq => (by kernel_rfl)⟩) ?_
        refine r_done (by kernel_rfl) ?_
        refine then_normal (hJ154 _ _ _ ⟨[(26, (.bool false))], fit_mk (fun _ _ => rfl) (by kernel_rfl) (vs_cons (by kernel_rfl) vs_nil), ?_⟩)
        exact ⟨X103, false, rfl, E167, hXo168, hS169, ha170, hb171, hp⟩
    ·
      replace hp := hp.2 h172
      refine r_take 3 (.bool false) (RB.pre _ _) rfl (by kernel_rfl) (fun _ _ _ h => hQ.panic _ _ _ _ _ h) (.inl ⟨rfl, fun wq hq => (x_df (p := n_10 < (a.length : Int)) (by kernel_rfl) h172)⟩) ?_
      refine r_take 4 (.bool false) (RB.pre _ _) rfl (by kernel_rfl) (fun _ _ _ h => hQ.panic _ _ _ _ _ h) (.inl ⟨rfl, fun wq hq => (by kernel_rfl)⟩) ?_
      refine r_take 5 undef (RB.pre _ _) rfl (by kernel_rfl) (fun _ _ _ h => hQ.panic _ _ _ _ _ h) (.inr ⟨by kernel_rfl, rfl⟩) ?_
      refine r_take 6 undef (RB.pre _ _) rfl (by kernel_rfl) (fun _ _ _ h => hQ.panic _ _ _ _ _ h) (.inr ⟨by kernel_rfl, rfl⟩) ?_
      refine r_take 7 undef (RB.pre _ _) rfl (by kernel_rfl) (fun _ _ _ h => hQ.panic _ _ _ _ _ h) (.inr ⟨by kernel_rfl, rfl⟩) ?_
      refine r_take 8 undef (RB.pre _ _) rfl (by kernel_rfl) (fun _ _ _ h => hQ.panic _ _ _ _ _ h) (.inr ⟨by kernel_rfl, rfl⟩) ?_
      refine r_take 9 (.bool false) (RB.pre _ _) rfl (by kernel_rfl) (fun _ _ _ h => hQ.panic _ _ _ _ _ h) (.inl ⟨rfl, fun wq hq => (by kernel_rfl)⟩) ?_
      refine r_take 10 (.bool false) (RB.pre _ _) rfl (by kernel_rfl) (fun _ _ _ h => hQ.panic _ _ _ _ _ h) (.inl ⟨rfl, fun wq hq => (by kernel_rfl)⟩) ?_
      refine r_take 11 undef (RB.pre _ _) rfl (by kernel_rfl) (fun _ _ _ h => hQ.panic _ _ _ _ _ h) (.inr ⟨by kernel_rfl, rfl⟩) ?_
      refine r_take 12 undef (RB.pre _ _) rfl (by kernel_rfl) (fun _ _ _ h => hQ.panic _ _ _ _ _ h) (.inr ⟨by kernel_rfl, rfl⟩) ?_
      refine r_take 13 undef (RB.pre _ _) rfl (by kernel_rfl) (fun _ _ _ h => hQ.panic _ _ _ _ _ h) (.inr ⟨by kernel_rfl, rfl⟩) ?_
      refine r_take 14 undef (RB.pre _ _) rfl (by kernel_rfl) (fun _ _ _ h => hQ.panic _ _ _ _ _ h) (.inr ⟨by kernel_rfl, rfl⟩) ?_
      refine r_take 15 undef (RB.pre _ _) rfl (by kernel_rfl) (fun _ _ _ h => hQ.panic _ _ _ _ _ h) (.inr ⟨by kernel_rfl, rfl⟩) ?_
      refine r_take 16 undef (RB.pre _ _) rfl (by kernel_rfl) (fun _ _ _ h => hQ.panic _ _ _ _ _ h) (.inr ⟨by kernel_rfl, rfl⟩) ?_
      refine r_take 17 undef (RB.pre _ _) rfl (by kernel_rfl) (fun _ _ _ h => hQ.panic _ _ _ _ _ h) (.inr ⟨by kernel_rfl, rfl⟩) ?_
      refine r_take 18 undef (RB.pre _ _) rfl (by kernel_rfl) (fun _ _ _ h => hQ.panic _ _ _ _ _ h) (.inr ⟨by kernel_rfl, rfl⟩) ?_
      refine r_take 19 undef (RB.pre _ _) rfl (by kernel_rfl) (fun _ _ _ h => hQ.panic _ _ _ _ _ h) (.inr ⟨by kernel_rfl, rfl⟩) ?_
      refine r_take 20 (.bool false) (RB.pre _ _) rfl (by kernel_rfl) (fun _ _ _ h => hQ.panic _ _ _ _ _ h) (.inl ⟨rfl, fun wq hq => (by kernel_rfl)⟩) ?_
      refine r_done (by kernel_rfl) ?_
      refine then_normal (hJ154 _ _ _ ⟨[(26, (.bool false))], fit_mk (fun _ _ => rfl) (by kernel_rfl) (vs_cons (by kernel_rfl) vs_nil), ?_⟩)
      exact ⟨X103, false, rfl, E167, hXo168, hS169, ha170, hb171, hp⟩
  ·
    rintro _ w151 g194 ⟨X152, s148, rfl, E156, hXo157, hS158, ha159, hb160, hv155⟩
    replace hp := hk150 s148 hv155
    refine then_normal (K114 _ _ _ _ ?_)
    refine cond_b s148 (by kernel_rfl) (fun h195 => ?_) (fun h195 => ?_)
    ·
      replace hp := hp.1 h195
      refine wp_skip ?_
      refine then_normal (K113 _ _ _ _ ?_)
      refine wp_block ?_
      refine reg_ ?_
      refine sq (o_pv (.int .i64 n_10) rfl (by kernel_rfl) ?_)
      obtain ⟨h196, hp⟩ := hp
      refine sq (o_pv (.int .i64 (n_10 + (1 : Int))) rfl (x_add2 (k := .i64) (a := n_10) (b := (1 : Int)) (n_10 + (1 : Int)) (by kernel_rfl) (by kernel_rfl) (wrap_inR h196)) ?_)
      refine sq (o_pv (.int .i64 (n_10 + (1 : Int))) rfl (by kernel_rfl) ?_)
      refine nil_ ?_
      refine blk_normal ?_
      refine then_normal (hA107 _ _ _ ⟨_, [(5, (.int .i64 (n_10 + (1 : Int))))], hp.2, fit_mk (AgB.nest (AgB.look (AgB.mix _ _ _) (by kernel_rfl)) (by kernel_rfl) (by kernel_rfl)) (by kernel_rfl) (vs_cons (by kernel_rfl) vs_nil), ?_⟩)
      exact ⟨X152, (n_10 + (1 : Int)), rfl, rfl, E156, hXo157, hS158, ha159, hb160, h196, hp.1⟩
    ·
      replace hp := hp.2 h195
      refine wp_exit ?_
      refine then_exit ?_
      refine then_exit ?_
      refine blk_exit ?_
      refine then_normal (K9 _ _ _ _ ?_)
      refine seq_ (fun _ K197 => ?_)
      refine reg_ ?_
      refine sq (o_pv (.int .i64 n_10) rfl (by kernel_rfl) ?_)
      refine sq (o_pv (.int .i64 n_10) rfl (by kernel_rfl) ?_)
      refine nil_ ?_
      refine then_normal (K197 _ _ _ _ ?_)
      refine wp_ret ?_
      refine end_ret hQ (.int .i64 n_10) (by kernel_rfl) ?_
      exact ⟨n_10, hp, E156, rfl, rn_11⟩

def lines_Suffix_p (a : (List ByteArray)) (b : (List ByteArray)) (Q : Int → Prop) : Prop :=
  ((a.length ≤ 9223372036854775807) → ((b.length ≤ 9223372036854775807) → (∃ (I106 : Int → Prop) (m107 : Int → Nat), (I106 (0 : Int)) ∧ ∀ (n_10 : Int), (I106 n_10) → (inR .i64 n_10) → (∃ k161 : Bool → Prop, (∀ (s160 : Bool), k161 s160 → (((s160 = true) → ((inR .i64 (n_10 + (1 : Int))) ∧ ((I106 (n_10 + (1 : Int))) ∧ m107 (n_10 + (1 : Int)) < m107 n_10))) ∧ ((s160 = false) → Q n_10))) ∧ (((n_10 < (a.length : Int)) → (((n_10 < (b.length : Int)) → ((inR .i64 ((a.length : Int) - (1 : Int))) ∧ ((inR .i64 (((a.length : Int) - (1 : Int)) - n_10)) ∧ ((inL a (((a.length : Int) - (1 : Int)) - n_10)) ∧ (((lget a (((a.length : Int) - (1 : Int)) - n_10)).size ≤ maxLen) → ((inR .i64 ((b.length : Int) - (1 : Int))) ∧ ((inR .i64 (((b.length : Int) - (1 : Int)) - n_10)) ∧ ((inL b (((b.length : Int) - (1 : Int)) - n_10)) ∧ (((lget b (((b.length : Int) - (1 : Int)) - n_10)).size ≤ maxLen) → (k161 (decide ((lget a (((a.length : Int) - (1 : Int)) - n_10) : ByteArray) = lget b (((b.length : Int) - (1 : Int)) - n_10))))))))))))) ∧ ((¬ (n_10 < (b.length : Int))) → (k161 false)))) ∧ ((¬ (n_10 < (a.length : Int))) → (k161 false)))))))
set_option maxRecDepth 20000 in
set_option maxHeartbeats 4000000 in
theorem lines_Suffix_w {X : List Nat} {w : World} {a : (List ByteArray)} {b : (List ByteArray)} {aa1 : Option Addr} {ca2 : Nat} {ab4 : Option Addr} {cb5 : Nat} {Q : Int → Prop} (hX0 : Old X w) (ha3 : Sl rStr X w aa1 ca2 a) (hb6 : Sl rStr X w ab4 cb5 b) (hp : lines_Suffix_p a b Q) :
    Calls Try.prog 32 #[(.slice aa1 a.length ca2), (.slice ab4 b.length cb5)] w (Ret fun v w' => ∃ (r0 : Int), Q r0 ∧ Evo [] w w' ∧ v = (.int .i64 r0) ∧ inR .i64 r0) := by
  have hXo := hX0
  have E0 : Evo [] w w := RB.refl _ _ _
  have hS : Sub X X := Sub.refl _
  unfold lines_Suffix_p at hp
  refine enter_ Try.func32 rfl 38 [(0, (.slice aa1 a.length ca2)), (1, (.slice ab4 b.length cb5))] (by kernel_rfl) (fun Qe hQ => ?_)
  replace hp := hp (Sl.len ha3)
  replace hp := hp (Sl.len hb6)
  refine seq_ (fun _ K7 => ?_)
  refine reg_ ?_
  refine sq (o_pv (.int .i64 (0 : Int)) rfl (by kernel_rfl) ?_)
  refine nil_ ?_
  refine then_normal (K7 _ _ _ _ ?_)
  refine seq_ (fun _ K8 => ?_)
  refine reg_ ?_
  refine sq (o_pv (.int .i64 (0 : Int)) rfl (by kernel_rfl) ?_)
  refine nil_ ?_
  refine then_normal (K8 _ _ _ _ ?_)
  refine seq_ (fun _ K9 => ?_)
  refine wp_block ?_
  obtain ⟨I106, m107, hI108, hp⟩ := hp
  refine loop_ 137438953440 (fun kq lq w110 => ∃ (X111 : List Nat) (n_10 : Int), (lq = [(5, (.int .i64 n_10))]) ∧ (kq = m107 n_10) ∧ (Evo [] w w110) ∧ (Old X111 w110) ∧ (Sub X X111) ∧ (Sl rStr X111 w110 aa1 ca2 a) ∧ (Sl rStr X111 w110 ab4 cb5 b) ∧ (inR .i64 n_10) ∧ (I106 n_10)) (m107 (0 : Int)) [(5, (.int .i64 (0 : Int)))] (vs_cons (by kernel_rfl) vs_nil) ⟨X, (0 : Int), rfl, rfl, E0, hXo, hS, ha3, hb6, (by decide), hI108⟩ ?_
  rintro _ _ w110 g113 ⟨X111, n_10, rfl, rfl, E116, hXo117, hS118, ha119, hb120, rn_11, hI109⟩ Kl114 hA115
  replace hp := hp n_10 hI109 rn_11
  refine seq_ (fun _ K121 => ?_)
  refine seq_ (fun _ K122 => ?_)
  obtain ⟨k161, hk162, hp⟩ := hp
  refine ground_ ?_
  refine join_ 34359738304 (fun lq w163 => ∃ (X164 : List Nat) (s160 : Bool), (lq = [(34, (.bool s160))]) ∧ (Evo [] w w163) ∧ (Old X164 w163) ∧ (Sub X X164) ∧ (Sl rStr X164 w163 aa1 ca2 a) ∧ (Sl rStr X164 w163 ab4 cb5 b) ∧ (k161 s160)) (fun Kj165 hJ166 => ?_) ?_
  ·
    refine reg_drawn (RB w110.heap.size []) 29 (by kernel_rfl) (fun w173 hd174 => ?_)
    have e175 := Evo.of_drew hd174
    have z176 : w173.heap.size = w110.heap.size := by rw [hd174]
    clear hd174
    have s178 := Step.of0 X111 e175
    have er177 := RB.refl w110.heap.size [] w173
    have E179 := (Evo.then0 E116 (Step.evo s178))
    have hXo180 := (Old.step hXo117 s178)
    have hS181 := (Sub.trans hS118 (Step.up s178))
    have ha182 := (Sl.step ha119 s178)
    have hb183 := (Sl.step hb120 s178)
    refine r_take 0 (.int .i64 n_10) (RB.pre _ _) rfl (by kernel_rfl) (fun _ _ _ h => hQ.panic _ _ _ _ _ h) (.inl ⟨rfl, fun wq hq => (by kernel_rfl)⟩) ?_
    refine r_take 1 (.slice aa1 a.length ca2) (RB.pre _ _) rfl (by kernel_rfl) (fun _ _ _ h => hQ.panic _ _ _ _ _ h) (.inl ⟨rfl, fun wq hq => (by kernel_rfl)⟩) ?_
    refine r_take 2 (.int .i64 (a.length : Int)) (RB.pre _ _) rfl (by kernel_rfl) (fun _ _ _ h => hQ.panic _ _ _ _ _ h) (.inl ⟨rfl, fun wq hq => (by kernel_rfl)⟩) ?_
    by_cases h184 : n_10 < (a.length : Int)
    ·
      replace hp := hp.1 h184
      refine r_take 3 (.bool true) (RB.pre _ _) rfl (by kernel_rfl) (fun _ _ _ h => hQ.panic _ _ _ _ _ h) (.inl ⟨rfl, fun wq hq => (x_dt (p := n_10 < (a.length : Int)) (by kernel_rfl) h184)⟩) ?_
      refine r_take 4 (.bool true) (RB.pre _ _) rfl (by kernel_rfl) (fun _ _ _ h => hQ.panic _ _ _ _ _ h) (.inl ⟨rfl, fun wq hq => (by kernel_rfl)⟩) ?_
      refine r_take 5 (.int .i64 n_10) (RB.pre _ _) rfl (by kernel_rfl) (fun _ _ _ h => hQ.panic _ _ _ _ _ h) (.inl ⟨(by kernel_rfl), fun wq hq => (by kernel_rfl)⟩) ?_
      refine r_take 6 (.slice ab4 b.length cb5) (RB.pre _ _) rfl (by kernel_rfl) (fun _ _ _ h => hQ.panic _ _ _ _ _ h) (.inl ⟨(by kernel_rfl), fun wq hq => (by kernel_rfl)⟩) ?_
      refine r_take 7 (.int .i64 (b.length : Int)) (RB.pre _ _) rfl (by kernel_rfl) (fun _ _ _ h => hQ.panic _ _ _ _ _ h) (.inl ⟨(by kernel_rfl), fun wq hq => (by kernel_rfl)⟩) ?_
      by_cases h185 : n_10 < (b.length : Int)
      ·
        replace hp := hp.1 h185
        refine r_take 8 (.bool true) (RB.pre _ _) rfl (by kernel_rfl) (fun _ _ _ h => hQ.panic _ _ _ _ _ h) (.inl ⟨(by kernel_rfl), fun wq hq => (x_dt (p := n_10 < (b.length : Int)) (by kernel_rfl) h185)⟩) ?_
        refine r_take 9 (.bool true) (RB.pre _ _) rfl (by kernel_rfl) (fun _ _ _ h => hQ.panic _ _ _ _ _ h) (.inl ⟨rfl, fun wq hq => (by kernel_rfl)⟩) ?_
        refine r_take 10 (.bool true) (RB.pre _ _) rfl (by kernel_rfl) (fun _ _ _ h => hQ.panic _ _ _ _ _ h) (.inl ⟨rfl, fun wq hq => (by kernel_rfl)⟩) ?_
        refine r_take 11 (.slice aa1 a.length ca2) (RB.pre _ _) rfl (by kernel_rfl) (fun _ _ _ h => hQ.panic _ _ _ _ _ h) (.inl ⟨(by kernel_rfl), fun wq hq => (by kernel_rfl)⟩) ?_
        refine r_take 12 (.slice aa1 a.length ca2) (RB.pre _ _) rfl (by kernel_rfl) (fun _ _ _ h => hQ.panic _ _ _ _ _ h) (.inl ⟨(by kernel_rfl), fun wq hq => (by kernel_rfl)⟩) ?_
        refine r_take 13 (.int .i64 (a.length : Int)) (RB.pre _ _) rfl (by kernel_rfl) (fun _ _ _ h => hQ.panic _ _ _ _ _ h) (.inl ⟨(by kernel_rfl), fun wq hq => (by kernel_rfl)⟩) ?_
        obtain ⟨h186, hp⟩ := hp
        refine r_take 14 (.int .i64 ((a.length : Int) - (1 : Int))) (RB.pre _ _) rfl (by kernel_rfl) (fun _ _ _ h => hQ.panic _ _ _ _ _ h) (.inl ⟨(by kernel_rfl), fun wq hq => (x_sub2 (k := .i64) (a := (a.length : Int)) (b := (1 : Int)) ((a.length : Int) - (1 : Int)) (by kernel_rfl) (by kernel_rfl) (wrap_inR h186))⟩) ?_
        refine r_take 15 (.int .i64 n_10) (RB.pre _ _) rfl (by kernel_rfl) (fun _ _ _ h => hQ.panic _ _ _ _ _ h) (.inl ⟨(by kernel_rfl), fun wq hq => (by kernel_rfl)⟩) ?_
        obtain ⟨h187, hp⟩ := hp
        refine r_take 16 (.int .i64 (((a.length : Int) - (1 : Int)) - n_10)) (RB.pre _ _) rfl (by kernel_rfl) (fun _ _ _ h => hQ.panic _ _ _ _ _ h) (.inl ⟨(by kernel_rfl), fun wq hq => (x_sub2 (k := .i64) (a := (a.length : Int) - (1 : Int)) (b := n_10) (((a.length : Int) - (1 : Int)) - n_10) (by kernel_rfl) (by kernel_rfl) (wrap_inR h187))⟩) ?_
        obtain ⟨h188, hp⟩ := hp
        obtain ⟨b189, o190, cs191, ha192, nx193, lt194, ok195, hc196⟩ := Sl.atI ha182 (((a.length : Int) - (1 : Int)) - n_10) h188
        obtain ⟨rfl, ze197⟩ := ok195
        replace hp := hp ze197
        refine r_take 17 (.pointer (some ⟨b189, o190 + (((a.length : Int) - (1 : Int)) - n_10).toNat * 1, none⟩)) (RB.pre _ _) rfl (by kernel_rfl) (fun _ _ _ h => hQ.panic _ _ _ _ _ h) (.inl ⟨(by kernel_rfl), fun wq hq => (x_ixA (m := a.length) (c := ca2) (k := .i64) (i := ((a.length : Int) - (1 : Int)) - n_10) Try.underlying45 Try.sizeOf9 (by rw [← ha192]; kernel_rfl) (by kernel_rfl) h188)⟩) ?_
        refine r_take 18 (.string (lget a (((a.length : Int) - (1 : Int)) - n_10))) (RB.pre _ _) rfl (by kernel_rfl) (fun _ _ _ h => hQ.panic _ _ _ _ _ h) (.inl ⟨(by kernel_rfl), fun wq hq => (x_load1 (by kernel_rfl) Try.isAgg9 ((CellsAt.rb hc196 (RB.trans er177 hq) (Nat.lt_of_lt_of_eq lt194 z176) (fun h => by cases h)) 0 _ rfl))⟩) ?_
        refine r_take 19 (.slice ab4 b.length cb5) (RB.pre _ _) rfl (by kernel_rfl) (fun _ _ _ h => hQ.panic _ _ _ _ _ h) (.inl ⟨(by kernel_rfl), fun wq hq => (by kernel_rfl)⟩) ?_
        refine r_take 20 (.slice ab4 b.length cb5) (RB.pre _ _) rfl (by kernel_rfl) (fun _ _ _ h => hQ.panic _ _ _ _ _ h) (.inl ⟨(by kernel_rfl), fun wq hq => (by kernel_rfl)⟩) ?_
        refine r_take 21 (.int .i64 (b.length : Int)) (RB.pre _ _) rfl (by kernel_rfl) (fun _ _ _ h => hQ.panic _ _ _ _ _ h) (.inl ⟨(by kernel_rfl), fun wq hq => (by kernel_rfl)⟩) ?_
        obtain ⟨h198, hp⟩ := hp
        refine r_take 22 (.int .i64 ((b.length : Int) - (1 : Int))) (RB.pre _ _) rfl (by kernel_rfl) (fun _ _ _ h => hQ.panic _ _ _ _ _ h) (.inl ⟨(by kernel_rfl), fun wq hq => (x_sub2 (k := .i64) (a := (b.length : Int)) (b := (1 : Int)) ((b.length : Int) - (1 : Int)) (by kernel_rfl) (by kernel_rfl) (wrap_inR h198))⟩) ?_
        refine r_take 23 (.int .i64 n_10) (RB.pre _ _) rfl (by kernel_rfl) (fun _ _ _ h => hQ.panic _ _ _ _ _ h) (.inl ⟨(by kernel_rfl), fun wq hq => (by kernel_rfl)⟩) ?_
        obtain ⟨h199, hp⟩ := hp
        refine r_take 24 (.int .i64 (((b.length : Int) - (1 : Int)) - n_10)) (RB.pre _ _) rfl (by kernel_rfl) (fun _ _ _ h => hQ.panic _ _ _ _ _ h) (.inl ⟨(by kernel_rfl), fun wq hq => (x_sub2 (k := .i64) (a := (b.length : Int) - (1 : Int)) (b := n_10) (((b.length : Int) - (1 : Int)) - n_10) (by kernel_rfl) (by kernel_rfl) (wrap_inR h199))⟩) ?_
        obtain ⟨h200, hp⟩ := hp
        obtain ⟨b201, o202, cs203, ha204, nx205, lt206, ok207, hc208⟩ := Sl.atI hb183 (((b.length : Int) - (1 : Int)) - n_10) h200
        obtain ⟨rfl, ze209⟩ := ok207
        replace hp := hp ze209
        refine r_take 25 (.pointer (some ⟨b201, o202 + (((b.length : Int) - (1 : Int)) - n_10).toNat * 1, none⟩)) (RB.pre _ _) rfl (by kernel_rfl) (fun _ _ _ h => hQ.panic _ _ _ _ _ h) (.inl ⟨(by kernel_rfl), fun wq hq => (x_ixA (m := b.length) (c := cb5) (k := .i64) (i := ((b.length : Int) - (1 : Int)) - n_10) Try.underlying45 Try.sizeOf9 (by rw [← ha204]; kernel_rfl) (by kernel_rfl) h200)⟩) ?_
        refine r_take 26 (.string (lget b (((b.length : Int) - (1 : Int)) - n_10))) (RB.pre _ _) rfl (by kernel_rfl) (fun _ _ _ h => hQ.panic _ _ _ _ _ h) (.inl ⟨(by kernel_rfl), fun wq hq => (x_load1 (by kernel_rfl) Try.isAgg9 ((CellsAt.rb hc208 (RB.trans er177 hq) (Nat.lt_of_lt_of_eq lt206 z176) (fun h => by cases h)) 0 _ rfl))⟩) ?_
        refine r_take 27 (.bool (decide ((lget a (((a.length : Int) - (1 : Int)) - n_10) : ByteArray) = lget b (((b.length : Int) - (1 : Int)) - n_10)))) (RB.pre _ _) rfl (by kernel_rfl) (fun _ _ _ h => hQ.panic _ _ _ _ _ h) (.inl ⟨(by kernel_rfl), fun wq hq => (x_streq (by kernel_rfl) (by kernel_rfl))⟩) ?_
        refine r_take 28 (.bool (decide ((lget a (((a.length : Int) - (1 : Int)) - n_10) : ByteArray) = lget b (((b.length : Int) - (1 : Int)) - n_10)))) (RB.pre _ _) rfl (by kernel_rfl) (fun _ _ _ h => hQ.panic _ _ _ _ _ h) (.inl ⟨rfl, fun wq hq => (by kernel_rfl)⟩) ?_
        refine r_done (by kernel_rfl) ?_
        refine then_normal (hJ166 _ _ _ ⟨[(34, (.bool (decide ((lget a (((a.length : Int) - (1 : Int)) - n_10) : ByteArray) = lget b (((b.length : Int) - (1 : Int)) - n_10)))))], fit_mk (fun _ _ => rfl) (by kernel_rfl) (vs_cons (by kernel_rfl) vs_nil), ?_⟩)
        exact ⟨X111, (decide ((lget a (((a.length : Int) - (1 : Int)) - n_10) : ByteArray) = lget b (((b.length : Int) - (1 : Int)) - n_10))), rfl, E179, hXo180, hS181, ha182, hb183, hp⟩
      ·
        replace hp := hp.2 h185
        refine r_take 8 (.bool false) (RB.pre _ _) rfl (by kernel_rfl) (fun _ _ _ h => hQ.panic _ _ _ _ _ h) (.inl ⟨(by kernel_rfl), fun wq hq => (x_df (p := n_10 < (b.length : Int)) (by kernel_rfl) h185)⟩) ?_
        refine r_take 9 (.bool false) (RB.pre _ _) rfl (by kernel_rfl) (fun _ _ _ h => hQ.panic _ _ _ _ _ h) (.inl ⟨rfl, fun wq hq => (by kernel_rfl)⟩) ?_
        refine r_take 10 (.bool false) (RB.pre _ _) rfl (by kernel_rfl) (fun _ _ _ h => hQ.panic _ _ _ _ _ h) (.inl ⟨rfl, fun wq hq => (by kernel_rfl)⟩) ?_
        refine r_take 11 undef (RB.pre _ _) rfl (by kernel_rfl) (fun _ _ _ h => hQ.panic _ _ _ _ _ h) (.inr ⟨by kernel_rfl, rfl⟩) ?_
        refine r_take 12 undef (RB.pre _ _) rfl (by kernel_rfl) (fun _ _ _ h => hQ.panic _ _ _ _ _ h) (.inr ⟨by kernel_rfl, rfl⟩) ?_
        refine r_take 13 undef (RB.pre _ _) rfl (by kernel_rfl) (fun _ _ _ h => hQ.panic _ _ _ _ _ h) (.inr ⟨by kernel_rfl, rfl⟩) ?_
        refine r_take 14 undef (RB.pre _ _) rfl (by kernel_rfl) (fun _ _ _ h => hQ.panic _ _ _ _ _ h) (.inr ⟨by kernel_rfl, rfl⟩) ?_
        refine r_take 15 undef (RB.pre _ _) rfl (by kernel_rfl) (fun _ _ _ h => hQ.panic _ _ _ _ _ h) (.inr ⟨by kernel_rfl, rfl⟩) ?_
        refine r_take 16 undef (RB.pre _ _) rfl (by kernel_rfl) (fun _ _ _ h => hQ.panic _ _ _ _ _ h) (.inr ⟨by kernel_rfl, rfl⟩) ?_
        refine r_take 17 undef (RB.pre _ _) rfl (by kernel_rfl) (fun _ _ _ h => hQ.panic _ _ _ _ _ h) (.inr ⟨by kernel_rfl, rfl⟩) ?_
        refine r_take 18 undef (RB.pre _ _) rfl (by kernel_rfl) (fun _ _ _ h => hQ.panic _ _ _ _ _ h) (.inr ⟨by kernel_rfl, rfl⟩) ?_
        refine r_take 19 undef (RB.pre _ _) rfl (by kernel_rfl) (fun _ _ _ h => hQ.panic _ _ _ _ _ h) (.inr ⟨by kernel_rfl, rfl⟩) ?_
        refine r_take 20 undef (RB.pre _ _) rfl (by kernel_rfl) (fun _ _ _ h => hQ.panic _ _ _ _ _ h) (.inr ⟨by kernel_rfl, rfl⟩) ?_
        refine r_take 21 undef (RB.pre _ _) rfl (by kernel_rfl) (fun _ _ _ h => hQ.panic _ _ _ _ _ h) (.inr ⟨by kernel_rfl, rfl⟩) ?_
        refine r_take 22 undef (RB.pre _ _) rfl (by kernel_rfl) (fun _ _ _ h => hQ.panic _ _ _ _ _ h) (.inr ⟨by kernel_rfl, rfl⟩) ?_
        refine r_take 23 undef (RB.pre _ _) rfl (by kernel_rfl) (fun _ _ _ h => hQ.panic _ _ _ _ _ h) (.inr ⟨by kernel_rfl, rfl⟩) ?_
        refine r_take 24 undef (RB.pre _ _) rfl (by kernel_rfl) (fun _ _ _ h => hQ.panic _ _ _ _ _ h) (.inr ⟨by kernel_rfl, rfl⟩) ?_
        refine r_take 25 undef (RB.pre _ _) rfl (by kernel_rfl) (fun _ _ _ h => hQ.panic _ _ _ _ _ h) (.inr ⟨by kernel_rfl, rfl⟩) ?_
        refine r_take 26 undef (RB.pre _ _) rfl (by kernel_rfl) (fun _ _ _ h => hQ.panic _ _ _ _ _ h) (.inr ⟨by kernel_rfl, rfl⟩) ?_
        refine r_take 27 undef (RB.pre _ _) rfl (by kernel_rfl) (fun _ _ _ h => hQ.panic _ _ _ _ _ h) (.inr ⟨by kernel_rfl, rfl⟩) ?_
        refine r_take 28 (.bool false) (RB.pre _ _) rfl (by kernel_rfl) (fun _ _ _ h => hQ.panic _ _ _ _ _ h) (.inl ⟨rfl, fun wq hq => (by kernel_rfl)⟩) ?_
        refine r_done (by kernel_rfl) ?_
        refine then_normal (hJ166 _ _ _ ⟨[(34, (.bool false))], fit_mk (fun _ _ => rfl) (by kernel_rfl) (vs_cons (by kernel_rfl) vs_nil), ?_⟩)
        exact ⟨X111, false, rfl, E179, hXo180, hS181, ha182, hb183, hp⟩
    ·
      replace hp := hp.2 h184
      refine r_take 3 (.bool false) (RB.pre _ _) rfl (by kernel_rfl) (fun _ _ _ h => hQ.panic _ _ _ _ _ h) (.inl ⟨rfl, fun wq hq => (x_df (p := n_10 < (a.length : Int)) (by kernel_rfl) h184)⟩) ?_
      refine r_take 4 (.bool false) (RB.pre _ _) rfl (by kernel_rfl) (fun _ _ _ h => hQ.panic _ _ _ _ _ h) (.inl ⟨rfl, fun wq hq => (by kernel_rfl)⟩) ?_
      refine r_take 5 undef (RB.pre _ _) rfl (by kernel_rfl) (fun _ _ _ h => hQ.panic _ _ _ _ _ h) (.inr ⟨by kernel_rfl, rfl⟩) ?_
      refine r_take 6 undef (RB.pre _ _) rfl (by kernel_rfl) (fun _ _ _ h => hQ.panic _ _ _ _ _ h) (.inr ⟨by kernel_rfl, rfl⟩) ?_
      refine r_take 7 undef (RB.pre _ _) rfl (by kernel_rfl) (fun _ _ _ h => hQ.panic _ _ _ _ _ h) (.inr ⟨by kernel_rfl, rfl⟩) ?_
      refine r_take 8 undef (RB.pre _ _) rfl (by kernel_rfl) (fun _ _ _ h => hQ.panic _ _ _ _ _ h) (.inr ⟨by kernel_rfl, rfl⟩) ?_
      refine r_take 9 (.bool false) (RB.pre _ _) rfl (by kernel_rfl) (fun _ _ _ h => hQ.panic _ _ _ _ _ h) (.inl ⟨rfl, fun wq hq => (by kernel_rfl)⟩) ?_
      refine r_take 10 (.bool false) (RB.pre _ _) rfl (by kernel_rfl) (fun _ _ _ h => hQ.panic _ _ _ _ _ h) (.inl ⟨rfl, fun wq hq => (by kernel_rfl)⟩) ?_
      refine r_take 11 undef (RB.pre _ _) rfl (by kernel_rfl) (fun _ _ _ h => hQ.panic _ _ _ _ _ h) (.inr ⟨by kernel_rfl, rfl⟩) ?_
      refine r_take 12 undef (RB.pre _ _) rfl (by kernel_rfl) (fun _ _ _ h => hQ.panic _ _ _ _ _ h) (.inr ⟨by kernel_rfl, rfl⟩) ?_
      refine r_take 13 undef (RB.pre _ _) rfl (by kernel_rfl) (fun _ _ _ h => hQ.panic _ _ _ _ _ h) (.inr ⟨by kernel_rfl, rfl⟩) ?_
      refine r_take 14 undef (RB.pre _ _) rfl (by kernel_rfl) (fun _ _ _ h => hQ.panic _ _ _ _ _ h) (.inr ⟨by kernel_rfl, rfl⟩) ?_
      refine r_take 15 undef (RB.pre _ _) rfl (by kernel_rfl) (fun _ _ _ h => hQ.panic _ _ _ _ _ h) (.inr ⟨by kernel_rfl, rfl⟩) ?_
      refine r_take 16 undef (RB.pre _ _) rfl (by kernel_rfl) (fun _ _ _ h => hQ.panic _ _ _ _ _ h) (.inr ⟨by kernel_rfl, rfl⟩) ?_
      refine r_take 17 undef (RB.pre _ _) rfl (by kernel_rfl) (fun _ _ _ h => hQ.panic _ _ _ _ _ h) (.inr ⟨by kernel_rfl, rfl⟩) ?_
      refine r_take 18 undef (RB.pre _ _) rfl (by kernel_rfl) (fun _ _ _ h => hQ.panic _ _ _ _ _ h) (.inr ⟨by kernel_rfl, rfl⟩) ?_
      refine r_take 19 undef (RB.pre _ _) rfl (by kernel_rfl) (fun _ _ _ h => hQ.panic _ _ _ _ _ h) (.inr ⟨by kernel_rfl, rfl⟩) ?_
      refine r_take 20 undef (RB.pre _ _) rfl (by kernel_rfl) (fun _ _ _ h => hQ.panic _ _ _ _ _ h) (.inr ⟨by kernel_rfl, rfl⟩) ?_
      refine r_take 21 undef (RB.pre _ _) rfl (by kernel_rfl) (fun _ _ _ h => hQ.panic _ _ _ _ _ h) (.inr ⟨by kernel_rfl, rfl⟩) ?_
      refine r_take 22 undef (RB.pre _ _) rfl (by kernel_rfl) (fun _ _ _ h => hQ.panic _ _ _ _ _ h) (.inr ⟨by kernel_rfl, rfl⟩) ?_
      refine r_take 23 undef (RB.pre _ _) rfl (by kernel_rfl) (fun _ _ _ h => hQ.panic _ _ _ _ _ h) (.inr ⟨by kernel_rfl, rfl⟩) ?_
      refine r_take 24 undef (RB.pre _ _) rfl (by kernel_rfl) (fun _ _ _ h => hQ.panic _ _ _ _ _ h) (.inr ⟨by kernel_rfl, rfl⟩) ?_
      refine r_take 25 undef (RB.pre _ _) rfl (by kernel_rfl) (fun _ _ _ h => hQ.panic _ _ _ _ _ h) (.inr ⟨by kernel_rfl, rfl⟩) ?_
      refine r_take 26 undef (RB.pre _ _) rfl (by kernel_rfl) (fun _ _ _ h => hQ.panic _ _ _ _ _ h) (.inr ⟨by kernel_rfl, rfl⟩) ?_
      refine r_take 27 undef (RB.pre _ _) rfl (by kernel_rfl) (fun _ _ _ h => hQ.panic _ _ _ _ _ h) (.inr ⟨by kernel_rfl, rfl⟩) ?_
      refine r_take 28 (.bool false) (RB.pre _ _) rfl (by kernel_rfl) (fun _ _ _ h => hQ.panic _ _ _ _ _ h) (.inl ⟨rfl, fun wq hq => (by kernel_rfl)⟩) ?_
      refine r_done (by kernel_rfl) ?_
      refine then_normal (hJ166 _ _ _ ⟨[(34, (.bool false))], fit_mk (fun _ _ => rfl) (by kernel_rfl) (vs_cons (by kernel_rfl) vs_nil), ?_⟩)
      exact ⟨X111, false, rfl, E179, hXo180, hS181, ha182, hb183, hp⟩
  ·
    rintro _ w163 g210 ⟨X164, s160, rfl, E168, hXo169, hS170, ha171, hb172, hv167⟩
    replace hp := hk162 s160 hv167
    refine then_normal (K122 _ _ _ _ ?_)
    refine cond_b s160 (by kernel_rfl) (fun h211 => ?_) (fun h211 => ?_)
    ·
      replace hp := hp.1 h211
      refine wp_skip ?_
      refine then_normal (K121 _ _ _ _ ?_)
      refine wp_block ?_
      refine reg_ ?_
      refine sq (o_pv (.int .i64 n_10) rfl (by kernel_rfl) ?_)
      obtain ⟨h212, hp⟩ := hp
      refine sq (o_pv (.int .i64 (n_10 + (1 : Int))) rfl (x_add2 (k := .i64) (a := n_10) (b := (1 : Int)) (n_10 + (1 : Int)) (by kernel_rfl) (by kernel_rfl) (wrap_inR h212)) ?_)
      refine sq (o_pv (.int .i64 (n_10 + (1 : Int))) rfl (by kernel_rfl) ?_)
      refine nil_ ?_
      refine blk_normal ?_
      refine then_normal (hA115 _ _ _ ⟨_, [(5, (.int .i64 (n_10 + (1 : Int))))], hp.2, fit_mk (AgB.nest (AgB.look (AgB.mix _ _ _) (by kernel_rfl)) (by kernel_rfl) (by kernel_rfl)) (by kernel_rfl) (vs_cons (by kernel_rfl) vs_nil), ?_⟩)
      exact ⟨X164, (n_10 + (1 : Int)), rfl, rfl, E168, hXo169, hS170, ha171, hb172, h212, hp.1⟩
    ·
      replace hp := hp.2 h211
      refine wp_exit ?_
      refine then_exit ?_
      refine then_exit ?_
      refine blk_exit ?_
      refine then_normal (K9 _ _ _ _ ?_)
      refine seq_ (fun _ K213 => ?_)
      refine reg_ ?_
      refine sq (o_pv (.int .i64 n_10) rfl (by kernel_rfl) ?_)
      refine sq (o_pv (.int .i64 n_10) rfl (by kernel_rfl) ?_)
      refine nil_ ?_
      refine then_normal (K213 _ _ _ _ ?_)
      refine wp_ret ?_
      refine end_ret hQ (.int .i64 n_10) (by kernel_rfl) ?_
      exact ⟨n_10, hp, E168, rfl, rn_11⟩

def slices_Equal_string_string_p (s1 : (List ByteArray)) (s2 : (List ByteArray)) (Q : Bool → Prop) : Prop :=
  ((s1.length ≤ 9223372036854775807) → ((s2.length ≤ 9223372036854775807) → (((¬ ((s1.length : Int) = (s2.length : Int))) → Q false) ∧ (((s1.length : Int) = (s2.length : Int)) → (∃ (I58 : Int → Prop) (m59 : Int → Nat), (I58 (0 : Int)) ∧ ∀ (s14 : Int), (I58 s14) → (inR .i64 s14) → (((s14 < (s1.length : Int)) → ((inL s1 s14) ∧ (((lget s1 s14).size ≤ maxLen) → ((inL s2 s14) ∧ (((lget s2 s14).size ≤ maxLen) → (((¬ ((lget s1 s14 : ByteArray) = lget s2 s14)) → Q false) ∧ (((lget s1 s14 : ByteArray) = lget s2 s14) → ((inR .i64 (s14 + (1 : Int))) ∧ ((I58 (s14 + (1 : Int))) ∧ m59 (s14 + (1 : Int)) < m59 s14))))))))) ∧ ((¬ (s14 < (s1.length : Int))) → Q true)))))))
set_option maxRecDepth 20000 in
set_option maxHeartbeats 4000000 in
theorem slices_Equal_string_string_w {X : List Nat} {w : World} {s1 : (List ByteArray)} {s2 : (List ByteArray)} {as1_1 : Option Addr} {cs1_2 : Nat} {as2_4 : Option Addr} {cs2_5 : Nat} {Q : Bool → Prop} (hX0 : Old X w) (hs1_3 : Sl rStr X w as1_1 cs1_2 s1) (hs2_6 : Sl rStr X w as2_4 cs2_5 s2) (hp : slices_Equal_string_string_p s1 s2 Q) :
    Calls Try.prog 40 #[(.slice as1_1 s1.length cs1_2), (.slice as2_4 s2.length cs2_5)] w (Ret fun v w' => ∃ (r0 : Bool), Q r0 ∧ Evo [] w w' ∧ v = (.bool r0)) := by
  have hXo := hX0
  have E0 : Evo [] w w := RB.refl _ _ _
  have hS : Sub X X := Sub.refl _
  unfold slices_Equal_string_string_p at hp
  refine enter_ Try.func40 rfl 26 [(0, (.slice as1_1 s1.length cs1_2)), (1, (.slice as2_4 s2.length cs2_5))] (by kernel_rfl) (fun Qe hQ => ?_)
  replace hp := hp (Sl.len hs1_3)
  replace hp := hp (Sl.len hs2_6)
  refine seq_ (fun _ K7 => ?_)
  refine reg_ ?_
  refine sq (o_pv (.bool false) rfl (by kernel_rfl) ?_)
  refine nil_ ?_
  refine then_normal (K7 _ _ _ _ ?_)
  refine seq_ (fun _ K8 => ?_)
  refine seq_ (fun _ K9 => ?_)
  refine reg_ ?_
  refine sq (o_pv (.slice as1_1 s1.length cs1_2) rfl (by kernel_rfl) ?_)
  refine sq (o_pv (.int .i64 (s1.length : Int)) rfl (by kernel_rfl) ?_)
  refine sq (o_pv (.slice as2_4 s2.length cs2_5) rfl (by kernel_rfl) ?_)
  refine sq (o_pv (.int .i64 (s2.length : Int)) rfl (by kernel_rfl) ?_)
  refine sq (o_pv (.bool (!decide ((s1.length : Int) = (s2.length : Int)))) rfl (by kernel_rfl) ?_)
  refine nil_ ?_
  refine then_normal (K9 _ _ _ _ ?_)
  refine cond_nd ((s1.length : Int) = (s2.length : Int)) (by kernel_rfl) (fun h10 => ?_) (fun h10 => ?_)
  ·
    replace hp := hp.1 h10
    refine seq_ (fun _ K11 => ?_)
    refine reg_ ?_
    refine sq (o_pv (.bool false) rfl (by kernel_rfl) ?_)
    refine nil_ ?_
    refine then_normal (K11 _ _ _ _ ?_)
    refine wp_ret ?_
    refine then_ret ?_
    refine end_ret hQ (.bool false) (by kernel_rfl) ?_
    exact ⟨false, hp, E0, rfl⟩
  ·
    replace hp := hp.2 h10
    refine wp_skip ?_
    refine then_normal (K8 _ _ _ _ ?_)
    refine seq_ (fun _ K12 => ?_)
    refine seq_ (fun _ K13 => ?_)
    refine reg_ ?_
    refine sq (o_pv (.slice as1_1 s1.length cs1_2) rfl (by kernel_rfl) ?_)
    refine sq (o_pv (.int .i64 (s1.length : Int)) rfl (by kernel_rfl) ?_)
    refine sq (o_pv (.int .i64 (0 : Int)) rfl (by kernel_rfl) ?_)
    refine nil_ ?_
    refine then_normal (K13 _ _ _ _ ?_)
    refine wp_block ?_
    obtain ⟨I58, m59, hI60, hp⟩ := hp
    refine loop_ 67100720 (fun kq lq w62 => ∃ (X63 : List Nat) (s14 : Int), (lq = [(13, (.int .i64 s14))]) ∧ (kq = m59 s14) ∧ (Evo [] w w62) ∧ (Old X63 w62) ∧ (Sub X X63) ∧ (Sl rStr X63 w62 as1_1 cs1_2 s1) ∧ (Sl rStr X63 w62 as2_4 cs2_5 s2) ∧ (inR .i64 s14) ∧ (I58 s14)) (m59 (0 : Int)) [(13, (.int .i64 (0 : Int)))] (vs_cons (by kernel_rfl) vs_nil) ⟨X, (0 : Int), rfl, rfl, E0, hXo, hS, hs1_3, hs2_6, (by decide), hI60⟩ ?_
    rintro _ _ w62 g65 ⟨X63, s14, rfl, rfl, E68, hXo69, hS70, hs1_71, hs2_72, rs15, hI61⟩ Kl66 hA67
    replace hp := hp s14 hI61 rs15
    refine seq_ (fun _ K73 => ?_)
    refine reg_ ?_
    refine sq (o_pv (.bool (decide (s14 < (s1.length : Int)))) rfl (by kernel_rfl) ?_)
    refine nil_ ?_
    refine then_normal (K73 _ _ _ _ ?_)
    refine seq_ (fun _ K74 => ?_)
    refine cond_d (s14 < (s1.length : Int)) (by kernel_rfl) (fun h75 => ?_) (fun h75 => ?_)
    ·
      replace hp := hp.1 h75
      refine wp_skip ?_
      refine then_normal (K74 _ _ _ _ ?_)
      refine seq_ (fun _ K76 => ?_)
      refine wp_block ?_
      refine seq_ (fun _ K77 => ?_)
      refine reg_ ?_
      refine sq (o_pv (.int .i64 s14) rfl (by kernel_rfl) ?_)
      refine sq (o_pv (.int .i64 s14) rfl (by kernel_rfl) ?_)
      refine nil_ ?_
      refine then_normal (K77 _ _ _ _ ?_)
      refine seq_ (fun _ K78 => ?_)
      refine reg_drawn (RB w62.heap.size []) 9 (by kernel_rfl) (fun w79 hd80 => ?_)
      have e81 := Evo.of_drew hd80
      have z82 : w79.heap.size = w62.heap.size := by rw [hd80]
      clear hd80
      have s84 := Step.of0 X63 e81
      have er83 := RB.refl w62.heap.size [] w79
      have E85 := (Evo.then0 E68 (Step.evo s84))
      have hXo86 := (Old.step hXo69 s84)
      have hS87 := (Sub.trans hS70 (Step.up s84))
      have hs1_88 := (Sl.step hs1_71 s84)
      have hs2_89 := (Sl.step hs2_72 s84)
      refine r_take 0 (.slice as1_1 s1.length cs1_2) (RB.pre _ _) rfl (by kernel_rfl) (fun _ _ _ h => hQ.panic _ _ _ _ _ h) (.inl ⟨rfl, fun wq hq => (by kernel_rfl)⟩) ?_
      refine r_take 1 (.int .i64 s14) (RB.pre _ _) rfl (by kernel_rfl) (fun _ _ _ h => hQ.panic _ _ _ _ _ h) (.inl ⟨rfl, fun wq hq => (by kernel_rfl)⟩) ?_
      obtain ⟨h90, hp⟩ := hp
      obtain ⟨b91, o92, cs93, ha94, nx95, lt96, ok97, hc98⟩ := Sl.atI hs1_88 s14 h90
      obtain ⟨rfl, ze99⟩ := ok97
      replace hp := hp ze99
      refine r_take 2 (.pointer (some ⟨b91, o92 + s14.toNat * 1, none⟩)) (RB.pre _ _) rfl (by kernel_rfl) (fun _ _ _ h => hQ.panic _ _ _ _ _ h) (.inl ⟨rfl, fun wq hq => (x_ixA (m := s1.length) (c := cs1_2) (k := .i64) (i := s14) Try.underlying45 Try.sizeOf9 (by rw [← ha94]; kernel_rfl) (by kernel_rfl) h90)⟩) ?_
      refine r_take 3 (.string (lget s1 s14)) (RB.pre _ _) rfl (by kernel_rfl) (fun _ _ _ h => hQ.panic _ _ _ _ _ h) (.inl ⟨rfl, fun wq hq => (x_load1 (by kernel_rfl) Try.isAgg9 ((CellsAt.rb hc98 (RB.trans er83 hq) (Nat.lt_of_lt_of_eq lt96 z82) (fun h => by cases h)) 0 _ rfl))⟩) ?_
      refine r_take 4 (.slice as2_4 s2.length cs2_5) (RB.pre _ _) rfl (by kernel_rfl) (fun _ _ _ h => hQ.panic _ _ _ _ _ h) (.inl ⟨rfl, fun wq hq => (by kernel_rfl)⟩) ?_
      refine r_take 5 (.int .i64 s14) (RB.pre _ _) rfl (by kernel_rfl) (fun _ _ _ h => hQ.panic _ _ _ _ _ h) (.inl ⟨rfl, fun wq hq => (by kernel_rfl)⟩) ?_
      obtain ⟨h100, hp⟩ := hp
      obtain ⟨b101, o102, cs103, ha104, nx105, lt106, ok107, hc108⟩ := Sl.atI hs2_89 s14 h100
      obtain ⟨rfl, ze109⟩ := ok107
      replace hp := hp ze109
      refine r_take 6 (.pointer (some ⟨b101, o102 + s14.toNat * 1, none⟩)) (RB.pre _ _) rfl (by kernel_rfl) (fun _ _ _ h => hQ.panic _ _ _ _ _ h) (.inl ⟨rfl, fun wq hq => (x_ixA (m := s2.length) (c := cs2_5) (k := .i64) (i := s14) Try.underlying45 Try.sizeOf9 (by rw [← ha104]; kernel_rfl) (by kernel_rfl) h100)⟩) ?_
      refine r_take 7 (.string (lget s2 s14)) (RB.pre _ _) rfl (by kernel_rfl) (fun _ _ _ h => hQ.panic _ _ _ _ _ h) (.inl ⟨rfl, fun wq hq => (x_load1 (by kernel_rfl) Try.isAgg9 ((CellsAt.rb hc108 (RB.trans er83 hq) (Nat.lt_of_lt_of_eq lt106 z82) (fun h => by cases h)) 0 _ rfl))⟩) ?_
      refine r_take 8 (.bool (!decide ((lget s1 s14 : ByteArray) = lget s2 s14))) (RB.pre _ _) rfl (by kernel_rfl) (fun _ _ _ h => hQ.panic _ _ _ _ _ h) (.inl ⟨rfl, fun wq hq => (x_strne (by kernel_rfl) (by kernel_rfl))⟩) ?_
      refine r_done (by kernel_rfl) ?_
      refine then_normal (K78 _ _ _ _ ?_)
      refine cond_nd ((lget s1 s14 : ByteArray) = lget s2 s14) (by kernel_rfl) (fun h110 => ?_) (fun h110 => ?_)
      ·
        replace hp := hp.1 h110
        refine seq_ (fun _ K111 => ?_)
        refine reg_ ?_
        refine sq (o_pv (.bool false) rfl (by kernel_rfl) ?_)
        refine nil_ ?_
        refine then_normal (K111 _ _ _ _ ?_)
        refine wp_ret ?_
        refine blk_ret ?_
        refine then_ret ?_
        refine then_ret ?_
        refine blk_ret ?_
        refine then_ret ?_
        refine end_ret hQ (.bool false) (by kernel_rfl) ?_
        exact ⟨false, hp, E85, rfl⟩
      ·
        replace hp := hp.2 h110
        refine wp_skip ?_
        refine blk_normal ?_
        refine then_normal (K76 _ _ _ _ ?_)
        refine reg_ ?_
        obtain ⟨h112, hp⟩ := hp
        refine sq (o_pv (.int .i64 (s14 + (1 : Int))) rfl (x_add2 (k := .i64) (a := s14) (b := (1 : Int)) (s14 + (1 : Int)) (by kernel_rfl) (by kernel_rfl) (wrap_inR h112)) ?_)
        refine sq (o_pv (.int .i64 (s14 + (1 : Int))) rfl (by kernel_rfl) ?_)
        refine nil_ ?_
        refine then_normal (hA67 _ _ _ ⟨_, [(13, (.int .i64 (s14 + (1 : Int))))], hp.2, fit_mk (AgB.mix _ _ _) (by kernel_rfl) (vs_cons (by kernel_rfl) vs_nil), ?_⟩)
        exact ⟨X63, (s14 + (1 : Int)), rfl, rfl, E85, hXo86, hS87, hs1_88, hs2_89, h112, hp.1⟩
    ·
      replace hp := hp.2 h75
      refine wp_exit ?_
      refine then_exit ?_
      refine then_exit ?_
      refine blk_exit ?_
      refine then_normal (K12 _ _ _ _ ?_)
      refine seq_ (fun _ K113 => ?_)
      refine reg_ ?_
      refine sq (o_pv (.bool true) rfl (by kernel_rfl) ?_)
      refine nil_ ?_
      refine then_normal (K113 _ _ _ _ ?_)
      refine wp_ret ?_
      refine end_ret hQ (.bool true) (by kernel_rfl) ?_
      exact ⟨true, hp, E68, rfl⟩

def lines_Equal_p (a : (List ByteArray)) (b : (List ByteArray)) (Q : Bool → Prop) : Prop :=
  ((a.length ≤ 9223372036854775807) → ((b.length ≤ 9223372036854775807) → (slices_Equal_string_string_p a b (fun (r9 : Bool) => Q r9))))
set_option maxRecDepth 20000 in
set_option maxHeartbeats 4000000 in
theorem lines_Equal_w {X : List Nat} {w : World} {a : (List ByteArray)} {b : (List ByteArray)} {aa1 : Option Addr} {ca2 : Nat} {ab4 : Option Addr} {cb5 : Nat} {Q : Bool → Prop} (hX0 : Old X w) (ha3 : Sl rStr X w aa1 ca2 a) (hb6 : Sl rStr X w ab4 cb5 b) (hp : lines_Equal_p a b Q) :
    Calls Try.prog 33 #[(.slice aa1 a.length ca2), (.slice ab4 b.length cb5)] w (Ret fun v w' => ∃ (r0 : Bool), Q r0 ∧ Evo [] w w' ∧ v = (.bool r0)) := by
  have hXo := hX0
  have E0 : Evo [] w w := RB.refl _ _ _
  have hS : Sub X X := Sub.refl _
  unfold lines_Equal_p at hp
  refine enter_ Try.func33 rfl 8 [(0, (.slice aa1 a.length ca2)), (1, (.slice ab4 b.length cb5))] (by kernel_rfl) (fun Qe hQ => ?_)
  replace hp := hp (Sl.len ha3)
  replace hp := hp (Sl.len hb6)
  refine seq_ (fun _ K7 => ?_)
  refine reg_ ?_
  refine sq (o_pv (.bool false) rfl (by kernel_rfl) ?_)
  refine nil_ ?_
  refine then_normal (K7 _ _ _ _ ?_)
  refine seq_ (fun _ K8 => ?_)
  refine reg_ ?_
  refine sq (o_pv (.slice aa1 a.length ca2) rfl (by kernel_rfl) ?_)
  refine sq (o_pv (.slice ab4 b.length cb5) rfl (by kernel_rfl) ?_)
  refine sq (o_call 40 #[(.slice aa1 a.length ca2), (.slice ab4 b.length cb5)] rfl (x_call Try.call40 (by kernel_rfl)) (slices_Equal_string_string_w (X := []) (s1 := a) (s2 := b) (Old.nil _) (Sl.less ha3 (Sub.nil _)) (Sl.less hb6 (Sub.nil _)) hp) ?_)
  rintro _ w10 ⟨r9, hp, e11, rfl⟩
  have s12 := Step.of0 X e11
  refine sq (o_pv (.bool r9) rfl (by kernel_rfl) ?_)
  refine nil_ ?_
  refine then_normal (K8 _ _ _ _ ?_)
  refine wp_ret ?_
  have E13 := (Evo.then0 E0 e11)
  refine end_ret hQ (.bool r9) (by kernel_rfl) ?_
  exact ⟨r9, hp, E13, rfl⟩

def rectolaw10_known_p (Q : Bool → Prop) : Prop :=
  (lines_Split_p (ByteArray.mk #[97, 10, 10, 98]) (fun (r3 : (List ByteArray)) => ((r3.length ≤ 9223372036854775807) → (∃ k78 : Bool → Prop, (∀ (s77 : Bool), k78 s77 → Q s77) ∧ ((((r3.length : Int) = (3 : Int)) → ((inL r3 (1 : Int)) ∧ (((lget r3 (1 : Int)).size ≤ maxLen) → ((((lget r3 (1 : Int) : ByteArray) = (ByteArray.mk #[10])) → ((inL r3 (2 : Int)) ∧ (((lget r3 (2 : Int)).size ≤ maxLen) → ((((lget r3 (2 : Int) : ByteArray) = (ByteArray.mk #[98])) → (lines_Join_p r3 (fun (r114 : ByteArray) => ((r114.size ≤ maxLen) → ((((r114 : ByteArray) = (ByteArray.mk #[97, 10, 10, 98])) → (lines_Whole_p (ByteArray.mk #[98]) (fun (r120 : Bool) => (((r120 = true) → (k78 false)) ∧ ((r120 = false) → (lines_Whole_p (ByteArray.mk #[98, 10]) (fun (r124 : Bool) => (((r124 = true) → (((0 : Int) ≤ (1 : Int) ∧ (1 : Int) ≤ (r3.length : Int)) ∧ (lines_Prefix_p r3 (r3.take (1 : Int).toNat) (fun (r136 : Int) => ((inR .i64 r136) → (((r136 = (1 : Int)) → (lines_Suffix_p r3 ([(ByteArray.mk #[120]), (ByteArray.mk #[98])]) (fun (r150 : Int) => ((inR .i64 r150) → (((r150 = (1 : Int)) → (lines_Equal_p r3 r3 (fun (r157 : Bool) => (k78 r157)))) ∧ ((¬ (r150 = (1 : Int))) → (k78 false))))))) ∧ ((¬ (r136 = (1 : Int))) → (k78 false)))))))) ∧ ((r124 = false) → (k78 false)))))))))) ∧ ((¬ ((r114 : ByteArray) = (ByteArray.mk #[97, 10, 10, 98]))) → (k78 false))))))) ∧ ((¬ ((lget r3 (2 : Int) : ByteArray) = (ByteArray.mk #[98]))) → (k78 false)))))) ∧ ((¬ ((lget r3 (1 : Int) : ByteArray) = (ByteArray.mk #[10]))) → (k78 false)))))) ∧ ((¬ ((r3.length : Int) = (3 : Int))) → (k78 false)))))))
set_option maxRecDepth 20000 in
set_option maxHeartbeats 4000000 in
theorem rectolaw10_known_w {X : List Nat} {w : World} {Q : Bool → Prop} (hX0 : Old X w) (hp : rectolaw10_known_p Q) :
    Calls Try.prog 17 #[] w (Ret fun v w' => ∃ (r0 : Bool), Q r0 ∧ Evo [] w w' ∧ v = (.bool r0)) := by
  have hXo := hX0
  have E0 : Evo [] w w := RB.refl _ _ _
  have hS : Sub X X := Sub.refl _
  unfold rectolaw10_known_p at hp
  refine enter_ Try.func17 rfl 48 [] (by kernel_rfl) (fun Qe hQ => ?_)
  refine seq_ (fun _ K1 => ?_)
  refine reg_ ?_
  refine sq (o_pv (.bool false) rfl (by kernel_rfl) ?_)
  refine nil_ ?_
  refine then_normal (K1 _ _ _ _ ?_)
  refine seq_ (fun _ K2 => ?_)
  refine reg_ ?_
  refine sq (o_call 20 #[(.string (ByteArray.mk #[97, 10, 10, 98]))] rfl (x_call Try.call20 (by kernel_rfl)) (lines_Split_w (X := X) (s := (ByteArray.mk #[97, 10, 10, 98])) hXo (by decide) hp) ?_)
  rintro _ w4 ⟨r3, hp, e5, ar7, rfl, hr8⟩
  have s6 := Step.of0 X e5
  replace hp := hp (Sl.len hr8)
  refine sq (o_pv (.slice ar7 r3.length r3.length) rfl (by kernel_rfl) ?_)
  refine nil_ ?_
  refine then_normal (K2 _ _ _ _ ?_)
  refine seq_ (fun _ K9 => ?_)
  have hXo85 := (Old.step hXo s6)
  have E86 := (Evo.then0 E0 e5)
  have hS87 := (Sub.trans hS (Step.up s6))
  obtain ⟨k78, hk79, hp⟩ := hp
  refine ground_ ?_
  refine join_ 281474976710649 (fun lq w80 => ∃ (X81 : List Nat) (s77 : Bool), (lq = [(0, (.bool s77))]) ∧ (Evo [] w w80) ∧ (Old X81 w80) ∧ (Sub X X81) ∧ (k78 s77)) (fun Kj82 hJ83 => ?_) ?_
  ·
    refine reg_ ?_
    refine sq (o_pv (.slice ar7 r3.length r3.length) rfl (by kernel_rfl) ?_)
    refine sq (o_pv (.int .i64 (r3.length : Int)) rfl (by kernel_rfl) ?_)
    by_cases h91 : (r3.length : Int) = (3 : Int)
    ·
      replace hp := hp.1 h91
      refine sq (o_pv (.bool true) rfl (x_dt (p := (r3.length : Int) = (3 : Int)) (by kernel_rfl) h91) ?_)
      refine sq (o_pv (.bool true) rfl (by kernel_rfl) ?_)
      refine sq (o_pv (.slice ar7 r3.length r3.length) (by kernel_rfl) (by kernel_rfl) ?_)
      obtain ⟨h92, hp⟩ := hp
      obtain ⟨b93, o94, cs95, ha96, nx97, lt98, ok99, hc100⟩ := Sl.atI hr8 (1 : Int) h92
      obtain ⟨rfl, ze101⟩ := ok99
      replace hp := hp ze101
      refine sq (o_pv (.pointer (some ⟨b93, o94 + (1 : Int).toNat * 1, none⟩)) (by kernel_rfl) (x_ixA (m := r3.length) (c := r3.length) (k := .i64) (i := (1 : Int)) Try.underlying45 Try.sizeOf9 (by rw [← ha96]; kernel_rfl) (by kernel_rfl) h92) ?_)
      refine sq (o_pv (.string (lget r3 (1 : Int))) (by kernel_rfl) (x_load1 (by kernel_rfl) Try.isAgg9 (hc100 0 _ rfl)) ?_)
      by_cases h102 : (lget r3 (1 : Int) : ByteArray) = (ByteArray.mk #[10])
      ·
        replace hp := hp.1 h102
        refine sq (o_pv (.bool true) (by kernel_rfl) (x_dt (p := (lget r3 (1 : Int) : ByteArray) = (ByteArray.mk #[10])) (x_streq (by kernel_rfl) (by kernel_rfl)) h102) ?_)
        refine sq (o_pv (.bool true) rfl (by kernel_rfl) ?_)
        refine sq (o_pv (.bool true) rfl (by kernel_rfl) ?_)
        refine sq (o_pv (.slice ar7 r3.length r3.length) (by kernel_rfl) (by kernel_rfl) ?_)
        obtain ⟨h103, hp⟩ := hp
        obtain ⟨b104, o105, cs106, ha107, nx108, lt109, ok110, hc111⟩ := Sl.atI hr8 (2 : Int) h103
        obtain ⟨rfl, ze112⟩ := ok110
        replace hp := hp ze112
        refine sq (o_pv (.pointer (some ⟨b104, o105 + (2 : Int).toNat * 1, none⟩)) (by kernel_rfl) (x_ixA (m := r3.length) (c := r3.length) (k := .i64) (i := (2 : Int)) Try.underlying45 Try.sizeOf9 (by rw [← ha107]; kernel_rfl) (by kernel_rfl) h103) ?_)
        refine sq (o_pv (.string (lget r3 (2 : Int))) (by kernel_rfl) (x_load1 (by kernel_rfl) Try.isAgg9 (hc111 0 _ rfl)) ?_)
        by_cases h113 : (lget r3 (2 : Int) : ByteArray) = (ByteArray.mk #[98])
        ·
          replace hp := hp.1 h113
          refine sq (o_pv (.bool true) (by kernel_rfl) (x_dt (p := (lget r3 (2 : Int) : ByteArray) = (ByteArray.mk #[98])) (x_streq (by kernel_rfl) (by kernel_rfl)) h113) ?_)
          refine sq (o_pv (.bool true) rfl (by kernel_rfl) ?_)
          refine sq (o_pv (.bool true) rfl (by kernel_rfl) ?_)
          refine sq (o_pv (.slice ar7 r3.length r3.length) (by kernel_rfl) (by kernel_rfl) ?_)
          refine sq (o_call 30 #[(.slice ar7 r3.length r3.length)] (by kernel_rfl) (x_call Try.call30 (by kernel_rfl)) (lines_Join_w (X := []) (l := r3) (Old.nil _) (Sl.less hr8 (Sub.nil _)) hp) ?_)
          rintro _ w115 ⟨r114, hp, e116, rfl, zr118⟩
          have s117 := Step.of0 X e116
          replace hp := hp zr118
          by_cases h119 : (r114 : ByteArray) = (ByteArray.mk #[97, 10, 10, 98])
          ·
            replace hp := hp.1 h119
            refine sq (o_pv (.bool true) (by kernel_rfl) (x_dt (p := (r114 : ByteArray) = (ByteArray.mk #[97, 10, 10, 98])) (x_streq (by kernel_rfl) (by kernel_rfl)) h119) ?_)
            refine sq (o_pv (.bool true) rfl (by kernel_rfl) ?_)
            refine sq (o_pv (.bool true) rfl (by kernel_rfl) ?_)
            refine sq (o_call 18 #[(.string (ByteArray.mk #[98]))] (by kernel_rfl) (x_call Try.call18 (by kernel_rfl)) (lines_Whole_w (X := []) (s := (ByteArray.mk #[98])) (Old.nil _) (by decide) hp) ?_)
            rintro _ w121 ⟨r120, hp, e122, rfl⟩
            have s123 := Step.of0 X e122
            cases r120
            ·
              replace hp := hp.2 rfl
              refine sq (o_pv (.bool true) (by kernel_rfl) (by kernel_rfl) ?_)
              refine sq (o_pv (.bool true) rfl (by kernel_rfl) ?_)
              refine sq (o_pv (.bool true) rfl (by kernel_rfl) ?_)
              refine sq (o_call 18 #[(.string (ByteArray.mk #[98, 10]))] (by kernel_rfl) (x_call Try.call18 (by kernel_rfl)) (lines_Whole_w (X := []) (s := (ByteArray.mk #[98, 10])) (Old.nil _) (by decide) hp) ?_)
              rintro _ w125 ⟨r124, hp, e126, rfl⟩
              have s127 := Step.of0 X e126
              cases r124
              ·
                replace hp := hp.2 rfl
                refine sq (o_pv (.bool false) rfl (by kernel_rfl) ?_)
                refine sq (o_pv (.bool false) rfl (by kernel_rfl) ?_)
                refine sq (o_not (by kernel_rfl) ?_)
                refine sq (o_not (by kernel_rfl) ?_)
                refine sq (o_not (by kernel_rfl) ?_)
                refine sq (o_not (by kernel_rfl) ?_)
                refine sq (o_not (by kernel_rfl) ?_)
                refine sq (o_pv (.bool false) rfl (by kernel_rfl) ?_)
                refine sq (o_pv (.bool false) rfl (by kernel_rfl) ?_)
                refine sq (o_not (by kernel_rfl) ?_)
                refine sq (o_not (by kernel_rfl) ?_)
                refine sq (o_not (by kernel_rfl) ?_)
                refine sq (o_not (by kernel_rfl) ?_)
                refine sq (o_pv (.bool false) rfl (by kernel_rfl) ?_)
                refine sq (o_pv (.bool false) rfl (by kernel_rfl) ?_)
                refine sq (o_not (by kernel_rfl) ?_)
                refine sq (o_not (by kernel_rfl) ?_)
                refine sq (o_not (by kernel_rfl) ?_)
                refine sq (o_pv (.bool false) rfl (by kernel_rfl) ?_)
                refine sq (o_pv (.bool false) rfl (by kernel_rfl) ?_)
                refine nil_ ?_
                have E128 := (Evo.then0 (Evo.then0 (Evo.then0 E86 e116) e122) e126)
                have hXo129 := (Old.step (Old.step (Old.step hXo85 s117) s123) s127)
                have hS130 := (Sub.trans (Sub.trans (Sub.trans hS87 (Step.up s117)) (Step.up s123)) (Step.up s127))
                refine then_normal (hJ83 _ _ _ ⟨[(0, (.bool false))], fit_mk (fun _ _ => rfl) (by kernel_rfl) (vs_cons (by kernel_rfl) vs_nil), ?_⟩)
                exact ⟨X, false, rfl, E128, hXo129, hS130, hp⟩
              ·
                replace hp := hp.1 rfl
                refine sq (o_pv (.bool true) rfl (by kernel_rfl) ?_)
                refine sq (o_pv (.bool true) rfl (by kernel_rfl) ?_)
                refine sq (o_pv (.slice ar7 r3.length r3.length) (by kernel_rfl) (by kernel_rfl) ?_)
                refine sq (o_pv (.slice ar7 r3.length r3.length) (by kernel_rfl) (by kernel_rfl) ?_)
                have hr131 := (Sl.step (Sl.step (Sl.step hr8 s117) s123) s127)
                obtain ⟨h135, hp⟩ := hp
                refine sq (o_slice (R := rStr) (X := X) (L := r3) 0 ((1 : Int).toNat) (r3.take (1 : Int).toNat) (by kernel_rfl) Try.underlying45 Try.sizeOf9 hr131 (by kernel_rfl) rfl (.inl ⟨rfl, rfl⟩) (.inr ⟨.i64, by kernel_rfl⟩) (by omega) (by omega) (by rw [List.drop_zero]) ?_)
                intro a132 c133 h134
                refine sq (o_call 31 #[(.slice ar7 r3.length r3.length), (.slice a132 (r3.take (1 : Int).toNat).length c133)] (by kernel_rfl) (x_call Try.call31 (by rw []; kernel_rfl)) (lines_Prefix_w (X := []) (a := r3) (b := r3.take (1 : Int).toNat) (Old.nil _) (Sl.less hr131 (Sub.nil _)) (Sl.less h134 (Sub.nil _)) hp) ?_)
                rintro _ w137 ⟨r136, hp, e138, rfl, rr140⟩
                have s139 := Step.of0 X e138
                replace hp := hp rr140
                by_cases h141 : r136 = (1 : Int)
                ·
                  replace hp := hp.1 h141
                  refine sq (o_pv (.bool true) (by kernel_rfl) (x_dt (p := r136 = (1 : Int)) (by kernel_rfl) h141) ?_)
                  refine sq (o_pv (.bool true) rfl (by kernel_rfl) ?_)
                  refine sq (o_pv (.bool true) rfl (by kernel_rfl) ?_)
                  refine sq (o_pv (.slice ar7 r3.length r3.length) (by kernel_rfl) (by kernel_rfl) ?_)
                  have E148 := (Evo.then0 (Evo.then0 (Evo.then0 (Evo.then0 E86 e116) e122) e126) e138)
                  refine sq (o_rowX (R := rStr) [(.string (ByteArray.mk #[120])), (.string (ByteArray.mk #[98]))] [(ByteArray.mk #[120]), (ByteArray.mk #[98])] 9 2 (X := X) (B := w.heap.size) E148.size (by kernel_rfl) (by kernel_rfl) (Flat.cons (cs := [(.string (ByteArray.mk #[120]))]) (rStr_mk (by decide)) (Flat.cons (cs := [(.string (ByteArray.mk #[98]))]) (rStr_mk (by decide)) Flat.nil)) rfl (by decide) ?_)
                  intro b142 w143 X144 s145 O146 n147
                  have hr149 := (Sl.step (Sl.step hr131 s139) s145)
                  refine sq (o_call 32 #[(.slice ar7 r3.length r3.length), (.slice (some ⟨b142, 0, none⟩) ([(ByteArray.mk #[120]), (ByteArray.mk #[98])]).length 2)] (by kernel_rfl) (x_call Try.call32 (by rw [← show 2 = ([(ByteArray.mk #[120]), (ByteArray.mk #[98])]).length from O146.1]; kernel_rfl)) (lines_Suffix_w (X := []) (a := r3) (b := [(ByteArray.mk #[120]), (ByteArray.mk #[98])]) (Old.nil _) (Sl.less hr149 (Sub.nil _)) (OS.rd O146) hp) ?_)
                  rintro _ w151 ⟨r150, hp, e152, rfl, rr154⟩
                  have s153 := Step.of0 X144 e152
                  replace hp := hp rr154
                  by_cases h155 : r150 = (1 : Int)
                  ·
                    replace hp := hp.1 h155
                    refine sq (o_pv (.bool true) (by kernel_rfl) (x_dt (p := r150 = (1 : Int)) (by kernel_rfl) h155) ?_)
                    refine sq (o_pv (.bool true) rfl (by kernel_rfl) ?_)
                    refine sq (o_pv (.bool true) rfl (by kernel_rfl) ?_)
                    refine sq (o_pv (.slice ar7 r3.length r3.length) (by kernel_rfl) (by kernel_rfl) ?_)
                    refine sq (o_pv (.slice ar7 r3.length r3.length) (by kernel_rfl) (by kernel_rfl) ?_)
                    have hr156 := (Sl.step hr149 s153)
                    refine sq (o_call 33 #[(.slice ar7 r3.length r3.length), (.slice ar7 r3.length r3.length)] (by kernel_rfl) (x_call Try.call33 (by kernel_rfl)) (lines_Equal_w (X := []) (a := r3) (b := r3) (Old.nil _) (Sl.less hr156 (Sub.nil _)) (Sl.less hr156 (Sub.nil _)) hp) ?_)
                    rintro _ w158 ⟨r157, hp, e159, rfl⟩
                    have s160 := Step.of0 X144 e159
                    refine sq (o_pv (.bool r157) rfl (by kernel_rfl) ?_)
                    refine sq (o_pv (.bool r157) rfl (by kernel_rfl) ?_)
                    refine nil_ ?_
                    have E161 := (Evo.then0 (Evo.then0 (Evo.then0 E148 (Step.evo s145)) e152) e159)
                    have hXo162 := (Old.step (Old.step (Old.step (Old.step (Old.step (Old.step (Old.step hXo85 s117) s123) s127) s139) s145) s153) s160)
                    have hS163 := (Sub.trans (Sub.trans (Sub.trans (Sub.trans (Sub.trans (Sub.trans (Sub.trans hS87 (Step.up s117)) (Step.up s123)) (Step.up s127)) (Step.up s139)) (Step.up s145)) (Step.up s153)) (Step.up s160))
                    refine then_normal (hJ83 _ _ _ ⟨[(0, (.bool r157))], fit_mk (fun _ _ => rfl) (by kernel_rfl) (vs_cons (by kernel_rfl) vs_nil), ?_⟩)
                    exact ⟨X144, r157, rfl, E161, hXo162, hS163, hp⟩
                  ·
                    replace hp := hp.2 h155
                    refine sq (o_pv (.bool false) (by kernel_rfl) (x_df (p := r150 = (1 : Int)) (by kernel_rfl) h155) ?_)
                    refine sq (o_pv (.bool false) rfl (by kernel_rfl) ?_)
                    refine sq (o_pv (.bool false) rfl (by kernel_rfl) ?_)
                    refine sq (o_not (by kernel_rfl) ?_)
                    refine sq (o_not (by kernel_rfl) ?_)
                    refine sq (o_not (by kernel_rfl) ?_)
                    refine sq (o_pv (.bool false) rfl (by kernel_rfl) ?_)
                    refine sq (o_pv (.bool false) rfl (by kernel_rfl) ?_)
                    refine nil_ ?_
                    have E164 := (Evo.then0 (Evo.then0 E148 (Step.evo s145)) e152)
                    have hXo165 := (Old.step (Old.step (Old.step (Old.step (Old.step (Old.step hXo85 s117) s123) s127) s139) s145) s153)
                    have hS166 := (Sub.trans (Sub.trans (Sub.trans (Sub.trans (Sub.trans (Sub.trans hS87 (Step.up s117)) (Step.up s123)) (Step.up s127)) (Step.up s139)) (Step.up s145)) (Step.up s153))
                    refine then_normal (hJ83 _ _ _ ⟨[(0, (.bool false))], fit_mk (fun _ _ => rfl) (by kernel_rfl) (vs_cons (by kernel_rfl) vs_nil), ?_⟩)
                    exact ⟨X144, false, rfl, E164, hXo165, hS166, hp⟩
                ·
                  replace hp := hp.2 h141
                  refine sq (o_pv (.bool false) (by kernel_rfl) (x_df (p := r136 = (1 : Int)) (by kernel_rfl) h141) ?_)
                  refine sq (o_pv (.bool false) rfl (by kernel_rfl) ?_)
                  refine sq (o_pv (.bool false) rfl (by kernel_rfl) ?_)
                  refine sq (o_not (by kernel_rfl) ?_)
                  refine sq (o_not (by kernel_rfl) ?_)
                  refine sq (o_not (by kernel_rfl) ?_)
                  refine sq (o_not (by kernel_rfl) ?_)
                  refine sq (o_pv (.bool false) rfl (by kernel_rfl) ?_)
                  refine sq (o_pv (.bool false) rfl (by kernel_rfl) ?_)
                  refine sq (o_not (by kernel_rfl) ?_)
                  refine sq (o_not (by kernel_rfl) ?_)
                  refine sq (o_not (by kernel_rfl) ?_)
                  refine sq (o_pv (.bool false) rfl (by kernel_rfl) ?_)
                  refine sq (o_pv (.bool false) rfl (by kernel_rfl) ?_)
                  refine nil_ ?_
                  have E167 := (Evo.then0 (Evo.then0 (Evo.then0 (Evo.then0 E86 e116) e122) e126) e138)
                  have hXo168 := (Old.step (Old.step (Old.step (Old.step hXo85 s117) s123) s127) s139)
                  have hS169 := (Sub.trans (Sub.trans (Sub.trans (Sub.trans hS87 (Step.up s117)) (Step.up s123)) (Step.up s127)) (Step.up s139))
                  refine then_normal (hJ83 _ _ _ ⟨[(0, (.bool false))], fit_mk (fun _ _ => rfl) (by kernel_rfl) (vs_cons (by kernel_rfl) vs_nil), ?_⟩)
                  exact ⟨X, false, rfl, E167, hXo168, hS169, hp⟩
            ·
              replace hp := hp.1 rfl
              refine sq (o_pv (.bool false) (by kernel_rfl) (by kernel_rfl) ?_)
              refine sq (o_pv (.bool false) rfl (by kernel_rfl) ?_)
              refine sq (o_pv (.bool false) rfl (by kernel_rfl) ?_)
              refine sq (o_not (by kernel_rfl) ?_)
              refine sq (o_pv (.bool false) rfl (by kernel_rfl) ?_)
              refine sq (o_pv (.bool false) rfl (by kernel_rfl) ?_)
              refine sq (o_not (by kernel_rfl) ?_)
              refine sq (o_not (by kernel_rfl) ?_)
              refine sq (o_not (by kernel_rfl) ?_)
              refine sq (o_not (by kernel_rfl) ?_)
              refine sq (o_not (by kernel_rfl) ?_)
              refine sq (o_pv (.bool false) rfl (by kernel_rfl) ?_)
              refine sq (o_pv (.bool false) rfl (by kernel_rfl) ?_)
              refine sq (o_not (by kernel_rfl) ?_)
              refine sq (o_not (by kernel_rfl) ?_)
              refine sq (o_not (by kernel_rfl) ?_)
              refine sq (o_not (by kernel_rfl) ?_)
              refine sq (o_pv (.bool false) rfl (by kernel_rfl) ?_)
              refine sq (o_pv (.bool false) rfl (by kernel_rfl) ?_)
              refine sq (o_not (by kernel_rfl) ?_)
              refine sq (o_not (by kernel_rfl) ?_)
              refine sq (o_not (by kernel_rfl) ?_)
              refine sq (o_pv (.bool false) rfl (by kernel_rfl) ?_)
              refine sq (o_pv (.bool false) rfl (by kernel_rfl) ?_)
              refine nil_ ?_
              have E170 := (Evo.then0 (Evo.then0 E86 e116) e122)
              have hXo171 := (Old.step (Old.step hXo85 s117) s123)
              have hS172 := (Sub.trans (Sub.trans hS87 (Step.up s117)) (Step.up s123))
              refine then_normal (hJ83 _ _ _ ⟨[(0, (.bool false))], fit_mk (fun _ _ => rfl) (by kernel_rfl) (vs_cons (by kernel_rfl) vs_nil), ?_⟩)
              exact ⟨X, false, rfl, E170, hXo171, hS172, hp⟩
          ·
            replace hp := hp.2 h119
            refine sq (o_pv (.bool false) (by kernel_rfl) (x_df (p := (r114 : ByteArray) = (ByteArray.mk #[97, 10, 10, 98])) (x_streq (by kernel_rfl) (by kernel_rfl)) h119) ?_)
            refine sq (o_pv (.bool false) rfl (by kernel_rfl) ?_)
            refine sq (o_pv (.bool false) rfl (by kernel_rfl) ?_)
            refine sq (o_not (by kernel_rfl) ?_)
            refine sq (o_not (by kernel_rfl) ?_)
            refine sq (o_pv (.bool false) rfl (by kernel_rfl) ?_)
            refine sq (o_pv (.bool false) rfl (by kernel_rfl) ?_)
            refine sq (o_not (by kernel_rfl) ?_)
            refine sq (o_pv (.bool false) rfl (by kernel_rfl) ?_)
            refine sq (o_pv (.bool false) rfl (by kernel_rfl) ?_)
            refine sq (o_not (by kernel_rfl) ?_)
            refine sq (o_not (by kernel_rfl) ?_)
            refine sq (o_not (by kernel_rfl) ?_)
            refine sq (o_not (by kernel_rfl) ?_)
            refine sq (o_not (by kernel_rfl) ?_)
            refine sq (o_pv (.bool false) rfl (by kernel_rfl) ?_)
            refine sq (o_pv (.bool false) rfl (by kernel_rfl) ?_)
            refine sq (o_not (by kernel_rfl) ?_)
            refine sq (o_not (by kernel_rfl) ?_)
            refine sq (o_not (by kernel_rfl) ?_)
            refine sq (o_not (by kernel_rfl) ?_)
            refine sq (o_pv (.bool false) rfl (by kernel_rfl) ?_)
            refine sq (o_pv (.bool false) rfl (by kernel_rfl) ?_)
            refine sq (o_not (by kernel_rfl) ?_)
            refine sq (o_not (by kernel_rfl) ?_)
            refine sq (o_not (by kernel_rfl) ?_)
            refine sq (o_pv (.bool false) rfl (by kernel_rfl) ?_)
            refine sq (o_pv (.bool false) rfl (by kernel_rfl) ?_)
            refine nil_ ?_
            have E173 := (Evo.then0 E86 e116)
            have hXo174 := (Old.step hXo85 s117)
            have hS175 := (Sub.trans hS87 (Step.up s117))
            refine then_normal (hJ83 _ _ _ ⟨[(0, (.bool false))], fit_mk (fun _ _ => rfl) (by kernel_rfl) (vs_cons (by kernel_rfl) vs_nil), ?_⟩)
            exact ⟨X, false, rfl, E173, hXo174, hS175, hp⟩
        ·
          replace hp := hp.2 h113
          refine sq (o_pv (.bool false) (by kernel_rfl) (x_df (p := (lget r3 (2 : Int) : ByteArray) = (ByteArray.mk #[98])) (x_streq (by kernel_rfl) (by kernel_rfl)) h113) ?_)
          refine sq (o_pv (.bool false) rfl (by kernel_rfl) ?_)
          refine sq (o_pv (.bool false) rfl (by kernel_rfl) ?_)
          refine sq (o_not (by kernel_rfl) ?_)
          refine sq (o_not (by kernel_rfl) ?_)
          refine sq (o_not (by kernel_rfl) ?_)
          refine sq (o_pv (.bool false) rfl (by kernel_rfl) ?_)
          refine sq (o_pv (.bool false) rfl (by kernel_rfl) ?_)
          refine sq (o_not (by kernel_rfl) ?_)
          refine sq (o_not (by kernel_rfl) ?_)
          refine sq (o_pv (.bool false) rfl (by kernel_rfl) ?_)
          refine sq (o_pv (.bool false) rfl (by kernel_rfl) ?_)
          refine sq (o_not (by kernel_rfl) ?_)
          refine sq (o_pv (.bool false) rfl (by kernel_rfl) ?_)
          refine sq (o_pv (.bool false) rfl (by kernel_rfl) ?_)
          refine sq (o_not (by kernel_rfl) ?_)
          refine sq (o_not (by kernel_rfl) ?_)
          refine sq (o_not (by kernel_rfl) ?_)
          refine sq (o_not (by kernel_rfl) ?_)
          refine sq (o_not (by kernel_rfl) ?_)
          refine sq (o_pv (.bool false) rfl (by kernel_rfl) ?_)
          refine sq (o_pv (.bool false) rfl (by kernel_rfl) ?_)
          refine sq (o_not (by kernel_rfl) ?_)
          refine sq (o_not (by kernel_rfl) ?_)
          refine sq (o_not (by kernel_rfl) ?_)
          refine sq (o_not (by kernel_rfl) ?_)
          refine sq (o_pv (.bool false) rfl (by kernel_rfl) ?_)
          refine sq (o_pv (.bool false) rfl (by kernel_rfl) ?_)
          refine sq (o_not (by kernel_rfl) ?_)
          refine sq (o_not (by kernel_rfl) ?_)
          refine sq (o_not (by kernel_rfl) ?_)
          refine sq (o_pv (.bool false) rfl (by kernel_rfl) ?_)
          refine sq (o_pv (.bool false) rfl (by kernel_rfl) ?_)
          refine nil_ ?_
          refine then_normal (hJ83 _ _ _ ⟨[(0, (.bool false))], fit_mk (fun _ _ => rfl) (by kernel_rfl) (vs_cons (by kernel_rfl) vs_nil), ?_⟩)
          exact ⟨X, false, rfl, E86, hXo85, hS87, hp⟩
      ·
        replace hp := hp.2 h102
        refine sq (o_pv (.bool false) (by kernel_rfl) (x_df (p := (lget r3 (1 : Int) : ByteArray) = (ByteArray.mk #[10])) (x_streq (by kernel_rfl) (by kernel_rfl)) h102) ?_)
        refine sq (o_pv (.bool false) rfl (by kernel_rfl) ?_)
        refine sq (o_pv (.bool false) rfl (by kernel_rfl) ?_)
        refine sq (o_not (by kernel_rfl) ?_)
        refine sq (o_not (by kernel_rfl) ?_)
        refine sq (o_not (by kernel_rfl) ?_)
        refine sq (o_not (by kernel_rfl) ?_)
        refine sq (o_pv (.bool false) rfl (by kernel_rfl) ?_)
        refine sq (o_pv (.bool false) rfl (by kernel_rfl) ?_)
        refine sq (o_not (by kernel_rfl) ?_)
        refine sq (o_not (by kernel_rfl) ?_)
        refine sq (o_not (by kernel_rfl) ?_)
        refine sq (o_pv (.bool false) rfl (by kernel_rfl) ?_)
        refine sq (o_pv (.bool false) rfl (by kernel_rfl) ?_)
        refine sq (o_not (by kernel_rfl) ?_)
        refine sq (o_not (by kernel_rfl) ?_)
        refine sq (o_pv (.bool false) rfl (by kernel_rfl) ?_)
        refine sq (o_pv (.bool false) rfl (by kernel_rfl) ?_)
        refine sq (o_not (by kernel_rfl) ?_)
        refine sq (o_pv (.bool false) rfl (by kernel_rfl) ?_)
        refine sq (o_pv (.bool false) rfl (by kernel_rfl) ?_)
        refine sq (o_not (by kernel_rfl) ?_)
        refine sq (o_not (by kernel_rfl) ?_)
        refine sq (o_not (by kernel_rfl) ?_)
        refine sq (o_not (by kernel_rfl) ?_)
        refine sq (o_not (by kernel_rfl) ?_)
        refine sq (o_pv (.bool false) rfl (by kernel_rfl) ?_)
        refine sq (o_pv (.bool false) rfl (by kernel_rfl) ?_)
        refine sq (o_not (by kernel_rfl) ?_)
        refine sq (o_not (by kernel_rfl) ?_)
        refine sq (o_not (by kernel_rfl) ?_)
        refine sq (o_not (by kernel_rfl) ?_)
        refine sq (o_pv (.bool false) rfl (by kernel_rfl) ?_)
        refine sq (o_pv (.bool false) rfl (by kernel_rfl) ?_)
        refine sq (o_not (by kernel_rfl) ?_)
        refine sq (o_not (by kernel_rfl) ?_)
        refine sq (o_not (by kernel_rfl) ?_)
        refine sq (o_pv (.bool false) rfl (by kernel_rfl) ?_)
        refine sq (o_pv (.bool false) rfl (by kernel_rfl) ?_)
        refine nil_ ?_
        refine then_normal (hJ83 _ _ _ ⟨[(0, (.bool false))], fit_mk (fun _ _ => rfl) (by kernel_rfl) (vs_cons (by kernel_rfl) vs_nil), ?_⟩)
        exact ⟨X, false, rfl, E86, hXo85, hS87, hp⟩
    ·
      replace hp := hp.2 h91
      refine sq (o_pv (.bool false) rfl (x_df (p := (r3.length : Int) = (3 : Int)) (by kernel_rfl) h91) ?_)
      refine sq (o_pv (.bool false) rfl (by kernel_rfl) ?_)
      refine sq (o_not (by kernel_rfl) ?_)
      refine sq (o_not (by kernel_rfl) ?_)
      refine sq (o_not (by kernel_rfl) ?_)
      refine sq (o_not (by kernel_rfl) ?_)
      refine sq (o_pv (.bool false) rfl (by kernel_rfl) ?_)
      refine sq (o_pv (.bool false) rfl (by kernel_rfl) ?_)
      refine sq (o_not (by kernel_rfl) ?_)
      refine sq (o_not (by kernel_rfl) ?_)
      refine sq (o_not (by kernel_rfl) ?_)
      refine sq (o_not (by kernel_rfl) ?_)
      refine sq (o_pv (.bool false) rfl (by kernel_rfl) ?_)
      refine sq (o_pv (.bool false) rfl (by kernel_rfl) ?_)
      refine sq (o_not (by kernel_rfl) ?_)
      refine sq (o_not (by kernel_rfl) ?_)
      refine sq (o_not (by kernel_rfl) ?_)
      refine sq (o_pv (.bool false) rfl (by kernel_rfl) ?_)
      refine sq (o_pv (.bool false) rfl (by kernel_rfl) ?_)
      refine sq (o_not (by kernel_rfl) ?_)
      refine sq (o_not (by kernel_rfl) ?_)
      refine sq (o_pv (.bool false) rfl (by kernel_rfl) ?_)
      refine sq (o_pv (.bool false) rfl (by kernel_rfl) ?_)
      refine sq (o_not (by kernel_rfl) ?_)
      refine sq (o_pv (.bool false) rfl (by kernel_rfl) ?_)
      refine sq (o_pv (.bool false) rfl (by kernel_rfl) ?_)
      refine sq (o_not (by kernel_rfl) ?_)
      refine sq (o_not (by kernel_rfl) ?_)
      refine sq (o_not (by kernel_rfl) ?_)
      refine sq (o_not (by kernel_rfl) ?_)
      refine sq (o_not (by kernel_rfl) ?_)
      refine sq (o_pv (.bool false) rfl (by kernel_rfl) ?_)
      refine sq (o_pv (.bool false) rfl (by kernel_rfl) ?_)
      refine sq (o_not (by kernel_rfl) ?_)
      refine sq (o_not (by kernel_rfl) ?_)
      refine sq (o_not (by kernel_rfl) ?_)
      refine sq (o_not (by kernel_rfl) ?_)
      refine sq (o_pv (.bool false) rfl (by kernel_rfl) ?_)
      refine sq (o_pv (.bool false) rfl (by kernel_rfl) ?_)
      refine sq (o_not (by kernel_rfl) ?_)
      refine sq (o_not (by kernel_rfl) ?_)
      refine sq (o_not (by kernel_rfl) ?_)
      refine sq (o_pv (.bool false) rfl (by kernel_rfl) ?_)
      refine sq (o_pv (.bool false) rfl (by kernel_rfl) ?_)
      refine nil_ ?_
      refine then_normal (hJ83 _ _ _ ⟨[(0, (.bool false))], fit_mk (fun _ _ => rfl) (by kernel_rfl) (vs_cons (by kernel_rfl) vs_nil), ?_⟩)
      exact ⟨X, false, rfl, E86, hXo85, hS87, hp⟩
  ·
    rintro _ w80 g176 ⟨X81, s77, rfl, E88, hXo89, hS90, hv84⟩
    replace hp := hk79 s77 hv84
    refine then_normal (K9 _ _ _ _ ?_)
    refine wp_ret ?_
    refine end_ret hQ (.bool s77) (by kernel_rfl) ?_
    exact ⟨s77, hp, E88, rfl⟩

def rectoref11_Equal_p (a : (List ByteArray)) (b : (List ByteArray)) (Q : Bool → Prop) : Prop :=
  ((a.length ≤ 9223372036854775807) → ((b.length ≤ 9223372036854775807) → (((¬ ((a.length : Int) = (b.length : Int))) → Q false) ∧ (((a.length : Int) = (b.length : Int)) → (∃ (I57 : Int → Prop) (m58 : Int → Nat), (I57 (0 : Int)) ∧ ∀ (i14 : Int), (I57 i14) → (inR .i64 i14) → (((i14 < (a.length : Int)) → ((inL a i14) ∧ (((lget a i14).size ≤ maxLen) → ((inL b i14) ∧ (((lget b i14).size ≤ maxLen) → (((¬ ((lget a i14 : ByteArray) = lget b i14)) → Q false) ∧ (((lget a i14 : ByteArray) = lget b i14) → ((inR .i64 (i14 + (1 : Int))) ∧ ((I57 (i14 + (1 : Int))) ∧ m58 (i14 + (1 : Int)) < m58 i14))))))))) ∧ ((¬ (i14 < (a.length : Int))) → Q true)))))))
set_option maxRecDepth 20000 in
set_option maxHeartbeats 4000000 in
theorem rectoref11_Equal_w {X : List Nat} {w : World} {a : (List ByteArray)} {b : (List ByteArray)} {aa1 : Option Addr} {ca2 : Nat} {ab4 : Option Addr} {cb5 : Nat} {Q : Bool → Prop} (hX0 : Old X w) (ha3 : Sl rStr X w aa1 ca2 a) (hb6 : Sl rStr X w ab4 cb5 b) (hp : rectoref11_Equal_p a b Q) :
    Calls Try.prog 19 #[(.slice aa1 a.length ca2), (.slice ab4 b.length cb5)] w (Ret fun v w' => ∃ (r0 : Bool), Q r0 ∧ Evo [] w w' ∧ v = (.bool r0)) := by
  have hXo := hX0
  have E0 : Evo [] w w := RB.refl _ _ _
  have hS : Sub X X := Sub.refl _
  unfold rectoref11_Equal_p at hp
  refine enter_ Try.func19 rfl 26 [(0, (.slice aa1 a.length ca2)), (1, (.slice ab4 b.length cb5))] (by kernel_rfl) (fun Qe hQ => ?_)
  replace hp := hp (Sl.len ha3)
  replace hp := hp (Sl.len hb6)
  refine seq_ (fun _ K7 => ?_)
  refine reg_ ?_
  refine sq (o_pv (.bool false) rfl (by kernel_rfl) ?_)
  refine nil_ ?_
  refine then_normal (K7 _ _ _ _ ?_)
  refine seq_ (fun _ K8 => ?_)
  refine seq_ (fun _ K9 => ?_)
  refine reg_ ?_
  refine sq (o_pv (.slice aa1 a.length ca2) rfl (by kernel_rfl) ?_)
  refine sq (o_pv (.int .i64 (a.length : Int)) rfl (by kernel_rfl) ?_)
  refine sq (o_pv (.slice ab4 b.length cb5) rfl (by kernel_rfl) ?_)
  refine sq (o_pv (.int .i64 (b.length : Int)) rfl (by kernel_rfl) ?_)
  refine sq (o_pv (.bool (!decide ((a.length : Int) = (b.length : Int)))) rfl (by kernel_rfl) ?_)
  refine nil_ ?_
  refine then_normal (K9 _ _ _ _ ?_)
  refine cond_nd ((a.length : Int) = (b.length : Int)) (by kernel_rfl) (fun h10 => ?_) (fun h10 => ?_)
  ·
    replace hp := hp.1 h10
    refine seq_ (fun _ K11 => ?_)
    refine reg_ ?_
    refine sq (o_pv (.bool false) rfl (by kernel_rfl) ?_)
    refine nil_ ?_
    refine then_normal (K11 _ _ _ _ ?_)
    refine wp_ret ?_
    refine then_ret ?_
    refine end_ret hQ (.bool false) (by kernel_rfl) ?_
    exact ⟨false, hp, E0, rfl⟩
  ·
    replace hp := hp.2 h10
    refine wp_skip ?_
    refine then_normal (K8 _ _ _ _ ?_)
    refine seq_ (fun _ K12 => ?_)
    refine seq_ (fun _ K13 => ?_)
    refine reg_ ?_
    refine sq (o_pv (.int .i64 (0 : Int)) rfl (by kernel_rfl) ?_)
    refine nil_ ?_
    refine then_normal (K13 _ _ _ _ ?_)
    refine wp_block ?_
    obtain ⟨I57, m58, hI59, hp⟩ := hp
    refine loop_ 67106864 (fun kq lq w61 => ∃ (X62 : List Nat) (i14 : Int), (lq = [(5, (.int .i64 i14))]) ∧ (kq = m58 i14) ∧ (Evo [] w w61) ∧ (Old X62 w61) ∧ (Sub X X62) ∧ (Sl rStr X62 w61 aa1 ca2 a) ∧ (Sl rStr X62 w61 ab4 cb5 b) ∧ (inR .i64 i14) ∧ (I57 i14)) (m58 (0 : Int)) [(5, (.int .i64 (0 : Int)))] (vs_cons (by kernel_rfl) vs_nil) ⟨X, (0 : Int), rfl, rfl, E0, hXo, hS, ha3, hb6, (by decide), hI59⟩ ?_
    rintro _ _ w61 g64 ⟨X62, i14, rfl, rfl, E67, hXo68, hS69, ha70, hb71, ri15, hI60⟩ Kl65 hA66
    replace hp := hp i14 hI60 ri15
    refine seq_ (fun _ K72 => ?_)
    refine seq_ (fun _ K73 => ?_)
    refine reg_ ?_
    refine sq (o_pv (.int .i64 i14) rfl (by kernel_rfl) ?_)
    refine sq (o_pv (.slice aa1 a.length ca2) rfl (by kernel_rfl) ?_)
    refine sq (o_pv (.int .i64 (a.length : Int)) rfl (by kernel_rfl) ?_)
    refine sq (o_pv (.bool (decide (i14 < (a.length : Int)))) rfl (by kernel_rfl) ?_)
    refine nil_ ?_
    refine then_normal (K73 _ _ _ _ ?_)
    refine cond_d (i14 < (a.length : Int)) (by kernel_rfl) (fun h74 => ?_) (fun h74 => ?_)
    ·
      replace hp := hp.1 h74
      refine wp_skip ?_
      refine then_normal (K72 _ _ _ _ ?_)
      refine seq_ (fun _ K75 => ?_)
      refine wp_block ?_
      refine seq_ (fun _ K76 => ?_)
      refine reg_drawn (RB w61.heap.size []) 9 (by kernel_rfl) (fun w77 hd78 => ?_)
      have e79 := Evo.of_drew hd78
      have z80 : w77.heap.size = w61.heap.size := by rw [hd78]
      clear hd78
      have s82 := Step.of0 X62 e79
      have er81 := RB.refl w61.heap.size [] w77
      have E83 := (Evo.then0 E67 (Step.evo s82))
      have hXo84 := (Old.step hXo68 s82)
      have hS85 := (Sub.trans hS69 (Step.up s82))
      have ha86 := (Sl.step ha70 s82)
      have hb87 := (Sl.step hb71 s82)
      refine r_take 0 (.slice aa1 a.length ca2) (RB.pre _ _) rfl (by kernel_rfl) (fun _ _ _ h => hQ.panic _ _ _ _ _ h) (.inl ⟨rfl, fun wq hq => (by kernel_rfl)⟩) ?_
      refine r_take 1 (.int .i64 i14) (RB.pre _ _) rfl (by kernel_rfl) (fun _ _ _ h => hQ.panic _ _ _ _ _ h) (.inl ⟨rfl, fun wq hq => (by kernel_rfl)⟩) ?_
      obtain ⟨h88, hp⟩ := hp
      obtain ⟨b89, o90, cs91, ha92, nx93, lt94, ok95, hc96⟩ := Sl.atI ha86 i14 h88
      obtain ⟨rfl, ze97⟩ := ok95
      replace hp := hp ze97
      refine r_take 2 (.pointer (some ⟨b89, o90 + i14.toNat * 1, none⟩)) (RB.pre _ _) rfl (by kernel_rfl) (fun _ _ _ h => hQ.panic _ _ _ _ _ h) (.inl ⟨rfl, fun wq hq => (x_ixA (m := a.length) (c := ca2) (k := .i64) (i := i14) Try.underlying45 Try.sizeOf9 (by rw [← ha92]; kernel_rfl) (by kernel_rfl) h88)⟩) ?_
      refine r_take 3 (.string (lget a i14)) (RB.pre _ _) rfl (by kernel_rfl) (fun _ _ _ h => hQ.panic _ _ _ _ _ h) (.inl ⟨rfl, fun wq hq => (x_load1 (by kernel_rfl) Try.isAgg9 ((CellsAt.rb hc96 (RB.trans er81 hq) (Nat.lt_of_lt_of_eq lt94 z80) (fun h => by cases h)) 0 _ rfl))⟩) ?_
      refine r_take 4 (.slice ab4 b.length cb5) (RB.pre _ _) rfl (by kernel_rfl) (fun _ _ _ h => hQ.panic _ _ _ _ _ h) (.inl ⟨rfl, fun wq hq => (by kernel_rfl)⟩) ?_
      refine r_take 5 (.int .i64 i14) (RB.pre _ _) rfl (by kernel_rfl) (fun _ _ _ h => hQ.panic _ _ _ _ _ h) (.inl ⟨rfl, fun wq hq => (by kernel_rfl)⟩) ?_
      obtain ⟨h98, hp⟩ := hp
      obtain ⟨b99, o100, cs101, ha102, nx103, lt104, ok105, hc106⟩ := Sl.atI hb87 i14 h98
      obtain ⟨rfl, ze107⟩ := ok105
      replace hp := hp ze107
      refine r_take 6 (.pointer (some ⟨b99, o100 + i14.toNat * 1, none⟩)) (RB.pre _ _) rfl (by kernel_rfl) (fun _ _ _ h => hQ.panic _ _ _ _ _ h) (.inl ⟨rfl, fun wq hq => (x_ixA (m := b.length) (c := cb5) (k := .i64) (i := i14) Try.underlying45 Try.sizeOf9 (by rw [← ha102]; kernel_rfl) (by kernel_rfl) h98)⟩) ?_
      refine r_take 7 (.string (lget b i14)) (RB.pre _ _) rfl (by kernel_rfl) (fun _ _ _ h => hQ.panic _ _ _ _ _ h) (.inl ⟨rfl, fun wq hq => (x_load1 (by kernel_rfl) Try.isAgg9 ((CellsAt.rb hc106 (RB.trans er81 hq) (Nat.lt_of_lt_of_eq lt104 z80) (fun h => by cases h)) 0 _ rfl))⟩) ?_
      refine r_take 8 (.bool (!decide ((lget a i14 : ByteArray) = lget b i14))) (RB.pre _ _) rfl (by kernel_rfl) (fun _ _ _ h => hQ.panic _ _ _ _ _ h) (.inl ⟨rfl, fun wq hq => (x_strne (by kernel_rfl) (by kernel_rfl))⟩) ?_
      refine r_done (by kernel_rfl) ?_
      refine then_normal (K76 _ _ _ _ ?_)
      refine cond_nd ((lget a i14 : ByteArray) = lget b i14) (by kernel_rfl) (fun h108 => ?_) (fun h108 => ?_)
      ·
        replace hp := hp.1 h108
        refine seq_ (fun _ K109 => ?_)
        refine reg_ ?_
        refine sq (o_pv (.bool false) rfl (by kernel_rfl) ?_)
        refine nil_ ?_
        refine then_normal (K109 _ _ _ _ ?_)
        refine wp_ret ?_
        refine blk_ret ?_
        refine then_ret ?_
        refine then_ret ?_
        refine blk_ret ?_
        refine then_ret ?_
        refine end_ret hQ (.bool false) (by kernel_rfl) ?_
        exact ⟨false, hp, E83, rfl⟩
      ·
        replace hp := hp.2 h108
        refine wp_skip ?_
        refine blk_normal ?_
        refine then_normal (K75 _ _ _ _ ?_)
        refine reg_ ?_
        refine sq (o_pv (.int .i64 i14) rfl (by kernel_rfl) ?_)
        obtain ⟨h110, hp⟩ := hp
        refine sq (o_pv (.int .i64 (i14 + (1 : Int))) rfl (x_add2 (k := .i64) (a := i14) (b := (1 : Int)) (i14 + (1 : Int)) (by kernel_rfl) (by kernel_rfl) (wrap_inR h110)) ?_)
        refine sq (o_pv (.int .i64 (i14 + (1 : Int))) rfl (by kernel_rfl) ?_)
        refine nil_ ?_
        refine then_normal (hA66 _ _ _ ⟨_, [(5, (.int .i64 (i14 + (1 : Int))))], hp.2, fit_mk (AgB.mix _ _ _) (by kernel_rfl) (vs_cons (by kernel_rfl) vs_nil), ?_⟩)
        exact ⟨X62, (i14 + (1 : Int)), rfl, rfl, E83, hXo84, hS85, ha86, hb87, h110, hp.1⟩
    ·
      replace hp := hp.2 h74
      refine wp_exit ?_
      refine then_exit ?_
      refine then_exit ?_
      refine blk_exit ?_
      refine then_normal (K12 _ _ _ _ ?_)
      refine seq_ (fun _ K111 => ?_)
      refine reg_ ?_
      refine sq (o_pv (.bool true) rfl (by kernel_rfl) ?_)
      refine nil_ ?_
      refine then_normal (K111 _ _ _ _ ?_)
      refine wp_ret ?_
      refine end_ret hQ (.bool true) (by kernel_rfl) ?_
      exact ⟨true, hp, E67, rfl⟩

def rectolaw10_LinesTexts_p (a : ByteArray) (b : ByteArray) (Q : Bool → Prop) : Prop :=
  ((a.size ≤ maxLen) → ((b.size ≤ maxLen) → (rectolaw10_known_p  (fun (r6 : Bool) => ((((!r6) = true) → Q false) ∧ (((!r6) = false) → (∃ k22 : Bool → Prop, (∀ (s21 : Bool), k22 s21 → (((s21 = true) → Q true) ∧ ((s21 = false) → (((a ++ b).size ≤ maxLen) ∧ (lines_Split_p (a ++ b) (fun (r49 : (List ByteArray)) => ((r49.length ≤ 9223372036854775807) → (lines_Split_p a (fun (r56 : (List ByteArray)) => ((r56.length ≤ 9223372036854775807) → (lines_Split_p b (fun (r63 : (List ByteArray)) => ((r63.length ≤ 9223372036854775807) → (((r56.length + r63.length) * 16 ≤ 140737488355328) ∧ (rectoref11_Equal_p r49 (r56 ++ r63) (fun (r78 : Bool) => Q r78)))))))))))))))) ∧ ((((a.size : Int) > (300 : Int)) → (k22 true)) ∧ ((¬ ((a.size : Int) > (300 : Int))) → ((((b.size : Int) > (300 : Int)) → (k22 true)) ∧ ((¬ ((b.size : Int) > (300 : Int))) → (lines_Whole_p a (fun (r37 : Bool) => (k22 (!r37)))))))))))))))
set_option maxRecDepth 20000 in
set_option maxHeartbeats 4000000 in
theorem rectolaw10_LinesTexts_w {X : List Nat} {w : World} {a : ByteArray} {b : ByteArray} {Q : Bool → Prop} (hX0 : Old X w) (za1 : a.size ≤ maxLen) (zb2 : b.size ≤ maxLen) (hp : rectolaw10_LinesTexts_p a b Q) :
    Calls Try.prog 6 #[(.string a), (.string b)] w (Ret fun v w' => ∃ (r0 : Bool), Q r0 ∧ Evo [] w w' ∧ v = (.bool r0)) := by
  have hXo := hX0
  have E0 : Evo [] w w := RB.refl _ _ _
  have hS : Sub X X := Sub.refl _
  unfold rectolaw10_LinesTexts_p at hp
  refine enter_ Try.func6 rfl 30 [(0, (.string a)), (1, (.string b))] (by kernel_rfl) (fun Qe hQ => ?_)
  replace hp := hp za1
  replace hp := hp zb2
  refine seq_ (fun _ K3 => ?_)
  refine reg_ ?_
  refine sq (o_pv (.bool false) rfl (by kernel_rfl) ?_)
  refine nil_ ?_
  refine then_normal (K3 _ _ _ _ ?_)
  refine seq_ (fun _ K4 => ?_)
  refine seq_ (fun _ K5 => ?_)
  refine reg_ ?_
  refine sq (o_call 17 #[] rfl (x_call Try.call17 (by kernel_rfl)) (rectolaw10_known_w (X := [])  (Old.nil _) hp) ?_)
  rintro _ w7 ⟨r6, hp, e8, rfl⟩
  have s9 := Step.of0 X e8
  refine sq (o_pv (.bool (!r6)) rfl (by kernel_rfl) ?_)
  refine nil_ ?_
  refine then_normal (K5 _ _ _ _ ?_)
  refine cond_b (!r6) (by kernel_rfl) (fun h10 => ?_) (fun h10 => ?_)
  ·
    replace hp := hp.1 h10
    refine seq_ (fun _ K11 => ?_)
    refine reg_ ?_
    refine sq (o_pv (.bool false) rfl (by kernel_rfl) ?_)
    refine nil_ ?_
    refine then_normal (K11 _ _ _ _ ?_)
    refine wp_ret ?_
    refine then_ret ?_
    have E12 := (Evo.then0 E0 e8)
    refine end_ret hQ (.bool false) (by kernel_rfl) ?_
    exact ⟨false, hp, E12, rfl⟩
  ·
    replace hp := hp.2 h10
    refine wp_skip ?_
    refine then_normal (K4 _ _ _ _ ?_)
    refine seq_ (fun _ K13 => ?_)
    refine seq_ (fun _ K14 => ?_)
    have hXo29 := (Old.step hXo s9)
    have E30 := (Evo.then0 E0 e8)
    have hS31 := (Sub.trans hS (Step.up s9))
    obtain ⟨k22, hk23, hp⟩ := hp
    refine ground_ ?_
    refine join_ 1048448 (fun lq w24 => ∃ (X25 : List Nat) (s21 : Bool), (lq = [(19, (.bool s21))]) ∧ (Evo [] w w24) ∧ (Old X25 w24) ∧ (Sub X X25) ∧ (k22 s21)) (fun Kj26 hJ27 => ?_) ?_
    ·
      refine reg_ ?_
      refine sq (o_pv (.string a) rfl (by kernel_rfl) ?_)
      refine sq (o_pv (.int .i64 (a.size : Int)) rfl (by kernel_rfl) ?_)
      by_cases h35 : (a.size : Int) > (300 : Int)
      ·
        replace hp := hp.1 h35
        refine sq (o_pv (.bool true) rfl (x_dt (p := (a.size : Int) > (300 : Int)) (by kernel_rfl) h35) ?_)
        refine sq (o_pv (.bool true) rfl (by kernel_rfl) ?_)
        refine sq (o_not (by kernel_rfl) ?_)
        refine sq (o_not (by kernel_rfl) ?_)
        refine sq (o_not (by kernel_rfl) ?_)
        refine sq (o_pv (.bool true) rfl (by kernel_rfl) ?_)
        refine sq (o_pv (.bool true) rfl (by kernel_rfl) ?_)
        refine sq (o_not (by kernel_rfl) ?_)
        refine sq (o_not (by kernel_rfl) ?_)
        refine sq (o_not (by kernel_rfl) ?_)
        refine sq (o_pv (.bool true) rfl (by kernel_rfl) ?_)
        refine nil_ ?_
        refine then_normal (hJ27 _ _ _ ⟨[(19, (.bool true))], fit_mk (fun _ _ => rfl) (by kernel_rfl) (vs_cons (by kernel_rfl) vs_nil), ?_⟩)
        exact ⟨X, true, rfl, E30, hXo29, hS31, hp⟩
      ·
        replace hp := hp.2 h35
        refine sq (o_pv (.bool false) rfl (x_df (p := (a.size : Int) > (300 : Int)) (by kernel_rfl) h35) ?_)
        refine sq (o_pv (.bool false) rfl (by kernel_rfl) ?_)
        refine sq (o_pv (.string b) (by kernel_rfl) (by kernel_rfl) ?_)
        refine sq (o_pv (.int .i64 (b.size : Int)) (by kernel_rfl) (by kernel_rfl) ?_)
        by_cases h36 : (b.size : Int) > (300 : Int)
        ·
          replace hp := hp.1 h36
          refine sq (o_pv (.bool true) (by kernel_rfl) (x_dt (p := (b.size : Int) > (300 : Int)) (by kernel_rfl) h36) ?_)
          refine sq (o_pv (.bool true) rfl (by kernel_rfl) ?_)
          refine sq (o_pv (.bool true) rfl (by kernel_rfl) ?_)
          refine sq (o_not (by kernel_rfl) ?_)
          refine sq (o_not (by kernel_rfl) ?_)
          refine sq (o_not (by kernel_rfl) ?_)
          refine sq (o_pv (.bool true) rfl (by kernel_rfl) ?_)
          refine nil_ ?_
          refine then_normal (hJ27 _ _ _ ⟨[(19, (.bool true))], fit_mk (fun _ _ => rfl) (by kernel_rfl) (vs_cons (by kernel_rfl) vs_nil), ?_⟩)
          exact ⟨X, true, rfl, E30, hXo29, hS31, hp⟩
        ·
          replace hp := hp.2 h36
          refine sq (o_pv (.bool false) (by kernel_rfl) (x_df (p := (b.size : Int) > (300 : Int)) (by kernel_rfl) h36) ?_)
          refine sq (o_pv (.bool false) rfl (by kernel_rfl) ?_)
          refine sq (o_pv (.bool false) rfl (by kernel_rfl) ?_)
          refine sq (o_pv (.string a) (by kernel_rfl) (by kernel_rfl) ?_)
          refine sq (o_call 18 #[(.string a)] (by kernel_rfl) (x_call Try.call18 (by kernel_rfl)) (lines_Whole_w (X := []) (s := a) (Old.nil _) za1 hp) ?_)
          rintro _ w38 ⟨r37, hp, e39, rfl⟩
          have s40 := Step.of0 X e39
          refine sq (o_pv (.bool (!r37)) (by kernel_rfl) (by kernel_rfl) ?_)
          refine sq (o_pv (.bool (!r37)) rfl (by kernel_rfl) ?_)
          refine nil_ ?_
          have E41 := (Evo.then0 E30 e39)
          have hXo42 := (Old.step hXo29 s40)
          have hS43 := (Sub.trans hS31 (Step.up s40))
          refine then_normal (hJ27 _ _ _ ⟨[(19, (.bool (!r37)))], fit_mk (fun _ _ => rfl) (by kernel_rfl) (vs_cons (by kernel_rfl) vs_nil), ?_⟩)
          exact ⟨X, (!r37), rfl, E41, hXo42, hS43, hp⟩
    ·
      rintro _ w24 g44 ⟨X25, s21, rfl, E32, hXo33, hS34, hv28⟩
      replace hp := hk23 s21 hv28
      refine then_normal (K14 _ _ _ _ ?_)
      refine cond_b s21 (by kernel_rfl) (fun h45 => ?_) (fun h45 => ?_)
      ·
        replace hp := hp.1 h45
        refine seq_ (fun _ K46 => ?_)
        refine reg_ ?_
        refine sq (o_pv (.bool true) rfl (by kernel_rfl) ?_)
        refine nil_ ?_
        refine then_normal (K46 _ _ _ _ ?_)
        refine wp_ret ?_
        refine then_ret ?_
        refine end_ret hQ (.bool true) (by kernel_rfl) ?_
        exact ⟨true, hp, E32, rfl⟩
      ·
        replace hp := hp.2 h45
        refine wp_skip ?_
        refine then_normal (K13 _ _ _ _ ?_)
        refine seq_ (fun _ K47 => ?_)
        refine reg_ ?_
        refine sq (o_pv (.string a) rfl (by kernel_rfl) ?_)
        refine sq (o_pv (.string b) rfl (by kernel_rfl) ?_)
        obtain ⟨h48, hp⟩ := hp
        refine sq (o_pv (.string (a ++ b)) rfl (x_cat (by kernel_rfl) (by kernel_rfl) h48) ?_)
        refine sq (o_call 20 #[(.string (a ++ b))] rfl (x_call Try.call20 (by kernel_rfl)) (lines_Split_w (X := X25) (s := a ++ b) hXo33 h48 hp) ?_)
        rintro _ w50 ⟨r49, hp, e51, ar53, rfl, hr54⟩
        have s52 := Step.of0 X25 e51
        replace hp := hp (Sl.len hr54)
        refine sq (o_pv (.string a) rfl (by kernel_rfl) ?_)
        have hXo55 := (Old.step hXo33 s52)
        refine sq (o_call 20 #[(.string a)] rfl (x_call Try.call20 (by kernel_rfl)) (lines_Split_w (X := X25) (s := a) hXo55 za1 hp) ?_)
        rintro _ w57 ⟨r56, hp, e58, ar60, rfl, hr61⟩
        have s59 := Step.of0 X25 e58
        replace hp := hp (Sl.len hr61)
        refine sq (o_pv (.string b) rfl (by kernel_rfl) ?_)
        have hXo62 := (Old.step hXo55 s59)
        refine sq (o_call 20 #[(.string b)] rfl (x_call Try.call20 (by kernel_rfl)) (lines_Split_w (X := X25) (s := b) hXo62 zb2 hp) ?_)
        rintro _ w64 ⟨r63, hp, e65, ar67, rfl, hr68⟩
        have s66 := Step.of0 X25 e65
        replace hp := hp (Sl.len hr68)
        obtain ⟨h69, hp⟩ := hp
        have hr70 := (Sl.step hr61 s66)
        have hXo71 := (Old.step hXo62 s66)
        refine sq (o_appF (R := rStr) (X := X25) (L := r56) (M := r63) rfl elT45 rfl hXo71 hr70 rfl rfl (Sl.src hr68) rfl (by kernel_rfl) (by kernel_rfl) h69 ?_)
        intro a72 c73 w74 s75 h76
        have hr77 := (Sl.step (Sl.step (Sl.step hr54 s59) s66) s75)
        refine sq (o_call 19 #[(.slice ar53 r49.length r49.length), (.slice a72 (r56 ++ r63).length c73)] rfl (x_call Try.call19 (by rw []; kernel_rfl)) (rectoref11_Equal_w (X := []) (a := r49) (b := r56 ++ r63) (Old.nil _) (Sl.less hr77 (Sub.nil _)) (Sl.less h76 (Sub.nil _)) hp) ?_)
        rintro _ w79 ⟨r78, hp, e80, rfl⟩
        have s81 := Step.of0 X25 e80
        refine sq (o_pv (.bool r78) rfl (by kernel_rfl) ?_)
        refine nil_ ?_
        refine then_normal (K47 _ _ _ _ ?_)
        refine wp_ret ?_
        have E82 := (Evo.then0 (Evo.then0 (Evo.then0 (Evo.then0 (Evo.then0 E32 e51) e58) e65) (Step.evo s75)) e80)
        refine end_ret hQ (.bool r78) (by kernel_rfl) ?_
        exact ⟨r78, hp, E82, rfl⟩

end Go.Proofs.Ytjejeipdndddpaa
