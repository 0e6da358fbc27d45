/- Walks of functions: what each asks and computes, as a plain predicate, and the contract from it. -/
import Derived.Test.YtnnbnljofklieaaDoorChecked
import Derived.Test.YtnnbnljofklieaaDoorPq2
namespace Go.Proofs.YtnnbnljofklieaaDoor
open Go


def patch_Text_p (h : (List S_patch_Hunk)) (Q : ByteArray → Prop) : Prop :=
  ((h.length ≤ 9223372036854775807) → (∃ (I2099 : Int → S_strings_Builder → Prop) (m2100 : Int → S_strings_Builder → Nat), (I2099 (0 : Int) (S_strings_Builder.mk false ([] : List Int))) ∧ (∀ (s1057 : Int) (o1059 : S_strings_Builder), (I2099 s1057 o1059) → (inR .i64 s1057) → (((s1057 < (h.length : Int)) → ((inL h s1057) ∧ ((inR .i64 ((lget h s1057).At)) → ((inR .i64 ((lget h s1057).Del)) → ((inR .i64 ((lget h s1057).To)) → ((inR .i64 ((lget h s1057).Add)) → ((((lget h s1057).Lines).length ≤ 9223372036854775807) → (strconv_Itoa_p ((lget h s1057).At) (fun (r2178 : ByteArray) => ((r2178.size ≤ maxLen) → ((((ByteArray.mk #[64, 64, 32, 45]) ++ r2178).size ≤ maxLen) ∧ (((((ByteArray.mk #[64, 64, 32, 45]) ++ r2178) ++ (ByteArray.mk #[44])).size ≤ maxLen) ∧ (strconv_Itoa_p ((lget h s1057).Del) (fun (r2187 : ByteArray) => ((r2187.size ≤ maxLen) → ((((((ByteArray.mk #[64, 64, 32, 45]) ++ r2178) ++ (ByteArray.mk #[44])) ++ r2187).size ≤ maxLen) ∧ (((((((ByteArray.mk #[64, 64, 32, 45]) ++ r2178) ++ (ByteArray.mk #[44])) ++ r2187) ++ (ByteArray.mk #[32, 43])).size ≤ maxLen) ∧ (strconv_Itoa_p ((lget h s1057).To) (fun (r2196 : ByteArray) => ((r2196.size ≤ maxLen) → ((((((((ByteArray.mk #[64, 64, 32, 45]) ++ r2178) ++ (ByteArray.mk #[44])) ++ r2187) ++ (ByteArray.mk #[32, 43])) ++ r2196).size ≤ maxLen) ∧ (((((((((ByteArray.mk #[64, 64, 32, 45]) ++ r2178) ++ (ByteArray.mk #[44])) ++ r2187) ++ (ByteArray.mk #[32, 43])) ++ r2196) ++ (ByteArray.mk #[44])).size ≤ maxLen) ∧ (strconv_Itoa_p ((lget h s1057).Add) (fun (r2205 : ByteArray) => ((r2205.size ≤ maxLen) → ((((((((((ByteArray.mk #[64, 64, 32, 45]) ++ r2178) ++ (ByteArray.mk #[44])) ++ r2187) ++ (ByteArray.mk #[32, 43])) ++ r2196) ++ (ByteArray.mk #[44])) ++ r2205).size ≤ maxLen) ∧ (((((((((((ByteArray.mk #[64, 64, 32, 45]) ++ r2178) ++ (ByteArray.mk #[44])) ++ r2187) ++ (ByteArray.mk #[32, 43])) ++ r2196) ++ (ByteArray.mk #[44])) ++ r2205) ++ (ByteArray.mk #[32, 64, 64, 10])).size ≤ maxLen) ∧ (strings_Builder_WriteString_p o1059 (((((((((ByteArray.mk #[64, 64, 32, 45]) ++ r2178) ++ (ByteArray.mk #[44])) ++ r2187) ++ (ByteArray.mk #[32, 43])) ++ r2196) ++ (ByteArray.mk #[44])) ++ r2205) ++ (ByteArray.mk #[32, 64, 64, 10])) (fun (b2221 : S_strings_Builder) (r2222 : Int) (r2223 : PErr) => ((inR .i64 r2222) → (∃ (I2839 : Int → S_strings_Builder → Prop) (m2840 : Int → S_strings_Builder → Nat), (I2839 (0 : Int) b2221) ∧ (∀ (s2537 : Int) (o2539 : S_strings_Builder), (I2839 s2537 o2539) → (inR .i64 s2537) → (((s2537 < (((lget h s1057).Lines).length : Int)) → (∃ k3000 : S_strings_Builder → Prop, (∀ (o2997 : S_strings_Builder), k3000 o2997 → ((inR .i64 (s2537 + (1 : Int))) ∧ ((I2839 (s2537 + (1 : Int)) o2997) ∧ m2840 (s2537 + (1 : Int)) o2997 < m2840 s2537 o2539))) ∧ ((inL ((lget h s1057).Lines) s2537) ∧ ((inR .i64 ((lget ((lget h s1057).Lines) s2537).Op)) → ((((lget ((lget h s1057).Lines) s2537).Line).size ≤ maxLen) → (patch_sign_p ((lget ((lget h s1057).Lines) s2537).Op) (fun (r3060 : ByteArray) => ((r3060.size ≤ maxLen) → (((r3060 ++ ((lget ((lget h s1057).Lines) s2537).Line)).size ≤ maxLen) ∧ (strings_Builder_WriteString_p o2539 (r3060 ++ ((lget ((lget h s1057).Lines) s2537).Line)) (fun (b3075 : S_strings_Builder) (r3076 : Int) (r3077 : PErr) => ((inR .i64 r3076) → (∃ k3098 : Bool → Prop, (∀ (s3097 : Bool), k3098 s3097 → (((s3097 = true) → (strings_Builder_WriteString_p b3075 (ByteArray.mk #[10]) (fun (b3133 : S_strings_Builder) (r3134 : Int) (r3135 : PErr) => ((inR .i64 r3134) → (k3000 b3133))))) ∧ ((s3097 = false) → (k3000 b3075)))) ∧ (((((lget ((lget h s1057).Lines) s2537).Line : ByteArray) = (ByteArray.mk #[])) → (k3098 true)) ∧ ((¬ (((lget ((lget h s1057).Lines) s2537).Line : ByteArray) = (ByteArray.mk #[]))) → (lines_Whole_p ((lget ((lget h s1057).Lines) s2537).Line) (fun (r3120 : Bool) => (k3098 (!r3120))))))))))))))))))) ∧ ((¬ (s2537 < (((lget h s1057).Lines).length : Int))) → ((inR .i64 (s1057 + (1 : Int))) ∧ ((I2099 (s1057 + (1 : Int)) o2539) ∧ m2100 (s1057 + (1 : Int)) o2539 < m2100 s1057 o1059)))))))))))))))))))))))))))))))))))) ∧ ((¬ (s1057 < (h.length : Int))) → (strings_Builder_String_p o1059 (fun (r3155 : ByteArray) => ((r3155.size ≤ maxLen) → Q r3155))))))))
set_option maxRecDepth 20000 in
set_option maxHeartbeats 4000000 in
theorem patch_Text_w {X : List Nat} {w : World} {h : (List S_patch_Hunk)} {ah1 : Option Addr} {ch2 : Nat} {Q : ByteArray → Prop} (hX0 : Old X w) (hh3 : Sl r_patch_Hunk X w ah1 ch2 h) (gv0 : GV X w 0 (Lib.pow10Tab.map (Value.int .u64))) (hp : patch_Text_p h Q) :
    Calls Tryd.prog 11 #[(.slice ah1 h.length ch2)] w (Ret fun v w' => ∃ (r0 : ByteArray), Q r0 ∧ Evo [] w w' ∧ v = (.string r0) ∧ r0.size ≤ maxLen) := by
  have hXo := hX0
  have E0 : Evo [] w w := RB.refl _ _ _
  have hS : Sub X X := Sub.refl _
  unfold patch_Text_p at hp
  refine enter_ Tryd.func11 rfl 62 [(0, (.slice ah1 h.length ch2))] (by kernel_rfl) (fun Qe hQ => ?_)
  replace hp := hp (Sl.len hh3)
  refine seq_ (fun _ K4 => ?_)
  refine reg_ ?_
  refine sq (o_pv (.string (ByteArray.mk #[])) rfl (by kernel_rfl) ?_)
  refine nil_ ?_
  refine then_normal (K4 _ _ _ _ ?_)
  refine seq_ (fun _ K5 => ?_)
  refine reg_ ?_
  refine sq (o_newX [(.pointer none), (.slice none 0 0)] 66 (X := X) (B := w.heap.size) E0.size rfl (by kernel_rfl) ?_)
  intro b6 w7 X8 s9 k10 n11
  refine nil_ ?_
  refine then_normal (K5 _ _ _ _ ?_)
  refine seq_ (fun _ K12 => ?_)
  refine seq_ (fun _ K13 => ?_)
  refine reg_ ?_
  refine sq (o_pv (.slice ah1 h.length ch2) rfl (by kernel_rfl) ?_)
  refine sq (o_pv (.int .i64 (h.length : Int)) rfl (by kernel_rfl) ?_)
  refine sq (o_pv (.int .i64 (0 : Int)) rfl (by kernel_rfl) ?_)
  refine nil_ ?_
  refine then_normal (K13 _ _ _ _ ?_)
  refine wp_block ?_
  have hh2109 := (Sl.step hh3 s9)
  have gv2110 := (GV.step gv0 s9)
  have hXo2111 := (Old.step hXo s9)
  have E2112 := (Evo.then0 E0 (Step.evo s9))
  have hS2113 := (Sub.trans hS (Step.up s9))
  obtain ⟨I2099, m2100, hI2101, hp⟩ := hp
  obtain ⟨F2119, m2120, hs2121⟩ := MO.pack (o_strings_Builder_mk (addrq := false) k10 (OS.nil2 _ _ _ _ _) (Ap.nil_r _))
  refine loop_ 2305843009213693088 (fun kq lq w2103 => ∃ (X2104 : List Nat) (s1057 : Int) (o1059 : S_strings_Builder) (F1060 : List Nat), (lq = [(10, (.int .i64 s1057))]) ∧ (kq = m2100 s1057 o1059) ∧ (Evo [] w w2103) ∧ (Old X2104 w2103) ∧ (Sub X X2104) ∧ (GV X2104 w2103 0 (Lib.pow10Tab.map (Value.int .u64))) ∧ (Sl r_patch_Hunk X2104 w2103 ah1 ch2 h) ∧ (MO (o_strings_Builder b6) 66 ([]) w.heap.size X2104 w2103 F1060 b6 o1059) ∧ (inR .i64 s1057) ∧ (I2099 s1057 o1059)) (m2100 (0 : Int) (S_strings_Builder.mk false ([] : List Int))) [(10, (.int .i64 (0 : Int)))] (vs_cons (by kernel_rfl) vs_nil) ⟨X8, (0 : Int), (S_strings_Builder.mk false ([] : List Int)), F2119, rfl, rfl, E2112, hXo2111, hS2113, gv2110, hh2109, m2120, (by decide : inR .i64 (0 : Int)), hI2101⟩ ?_
  rintro _ _ w2103 g2106 ⟨X2104, s1057, o1059, F1060, rfl, rfl, E2114, hXo2115, hS2116, gv2117, hh2118, m1061, rs1058, hI2102⟩ Kl2107 hA2108
  replace hp := hp s1057 o1059 hI2102 rs1058
  refine seq_ (fun _ K2122 => ?_)
  refine reg_ ?_
  refine sq (o_pv (.bool (decide (s1057 < (h.length : Int)))) rfl (by kernel_rfl) ?_)
  refine nil_ ?_
  refine then_normal (K2122 _ _ _ _ ?_)
  refine seq_ (fun _ K2123 => ?_)
  refine cond_d (s1057 < (h.length : Int)) (by kernel_rfl) (fun h2124 => ?_) (fun h2124 => ?_)
  ·
    replace hp := hp.1 h2124
    refine wp_skip ?_
    refine then_normal (K2123 _ _ _ _ ?_)
    refine seq_ (fun _ K2125 => ?_)
    refine wp_block ?_
    refine seq_ (fun _ K2126 => ?_)
    refine reg_ ?_
    obtain ⟨h2127, hp⟩ := hp
    obtain ⟨b2128, o2129, cs2130, ha2131, nx2132, lt2133, ok2134, hc2135⟩ := Sl.atI hh2118 s1057 h2127
    obtain ⟨aeLines2140, ceLines2141, rfl, reAt2136, reDel2137, reTo2138, reAdd2139, heLines2142⟩ := r_patch_Hunk_open ok2134
    replace hp := hp reAt2136
    replace hp := hp reDel2137
    replace hp := hp reTo2138
    replace hp := hp reAdd2139
    replace hp := hp (Sl.len heLines2142)
    refine sq (o_pv (.pointer (some ⟨b2128, o2129 + s1057.toNat * 5, none⟩)) rfl (x_ixA (m := h.length) (c := ch2) (k := .i64) (i := s1057) Tryd.underlying31 Tryd.sizeOf50 (by rw [← ha2131]; kernel_rfl) (by kernel_rfl) h2127) ?_)
    refine sq (o_pv (.agg #[(.int .i64 ((lget h s1057).At)), (.int .i64 ((lget h s1057).Del)), (.int .i64 ((lget h s1057).To)), (.int .i64 ((lget h s1057).Add)), (.slice aeLines2140 (((lget h s1057).Lines).length) ceLines2141)]) rfl (x_loadN [(.int .i64 ((lget h s1057).At)), (.int .i64 ((lget h s1057).Del)), (.int .i64 ((lget h s1057).To)), (.int .i64 ((lget h s1057).Add)), (.slice aeLines2140 (((lget h s1057).Lines).length) ceLines2141)] (by kernel_rfl) Tryd.isAgg50 Tryd.sizeOf50 hc2135) ?_)
    refine sq (o_newX [(.int .i64 (0 : Int)), (.int .i64 (0 : Int)), (.int .i64 (0 : Int)), (.int .i64 (0 : Int)), (.slice none 0 0)] 50 (X := X2104) (B := w.heap.size) E2114.size rfl (by kernel_rfl) ?_)
    intro b2143 w2144 X2145 s2146 k2147 n2148
    have p2149 := n2148 _ (MO.old m1061)
    have m2150 := (MO.step0 m1061 s2146)
    have E2151 := (Evo.then0 E2114 (Step.evo s2146))
    refine sq (o_stB (o := 0) (v := (.agg #[(.int .i64 ((lget h s1057).At)), (.int .i64 ((lget h s1057).Del)), (.int .i64 ((lget h s1057).To)), (.int .i64 ((lget h s1057).Add)), (.slice aeLines2140 (((lget h s1057).Lines).length) ceLines2141)])) [(.int .i64 ((lget h s1057).At)), (.int .i64 ((lget h s1057).Del)), (.int .i64 ((lget h s1057).To)), (.int .i64 ((lget h s1057).Add)), (.slice aeLines2140 (((lget h s1057).Lines).length) ceLines2141)] rfl k2147 (by kernel_rfl) (by kernel_rfl) Tryd.sizeOf50 rfl rfl rfl ?_)
    intro w2152 s2153 k2154
    refine nil_ ?_
    refine then_normal (K2126 _ _ _ _ ?_)
    refine seq_ (fun _ K2155 => ?_)
    have E2156 := (Evo.thenW E2151 (Step.evo s2153) k2147.2.2)
    have hXo2157 := (Old.step (Old.step hXo2115 s2146) s2153)
    have hS2158 := (Sub.trans (Sub.trans hS2116 (Step.up s2146)) (Step.up s2153))
    have gv2159 := (GV.step (GV.step gv2117 s2146) s2153)
    have hh2160 := (Sl.step (Sl.step hh2118 s2146) s2153)
    have m2161 := (MO.step m2150 s2153 p2149)
    have heLines2162 := (Sl.step (Sl.step heLines2142 s2146) s2153)
    have hFX2169 : Sub F1060 X2145 := (MO.mem m2161)
    refine reg_drawn (RB w2152.heap.size F1060) 21 (by kernel_rfl) (fun w2163 hd2164 => ?_)
    have e2165 := Evo.of_drew hd2164
    have z2166 : w2163.heap.size = w2152.heap.size := by rw [hd2164]
    clear hd2164
    have s2168 := Step.of0 X2145 e2165
    have er2167 := RB.refl w2152.heap.size F1060 w2163
    have E2170 := (Evo.then0 E2156 (Step.evo s2168))
    have hXo2171 := (Old.step hXo2157 s2168)
    have hS2172 := (Sub.trans hS2158 (Step.up s2168))
    have gv2173 := (GV.step gv2159 s2168)
    have hh2174 := (Sl.step hh2160 s2168)
    have m2175 := (MO.step0 m2161 s2168)
    have heLines2176 := (Sl.step heLines2162 s2168)
    have k2177 := (OB.step0 k2154 s2168)
    refine r_take 0 (.pointer (some ⟨b2143, 0, none⟩)) (RB.pre _ _) rfl (by kernel_rfl) (fun _ _ _ h => hQ.panic _ _ _ _ _ h) (.inl ⟨rfl, fun wq hq => (by kernel_rfl)⟩) ?_
    refine r_take 1 (.int .i64 ((lget h s1057).At)) (RB.pre _ _) rfl (by kernel_rfl) (fun _ _ _ h => hQ.panic _ _ _ _ _ h) (.inl ⟨rfl, fun wq hq => (x_load1 (by kernel_rfl) Tryd.isAgg3 ((OB.step k2177 (stepR (RB.trans er2167 hq) z2166 hFX2169) (Ap.symm p2149)).2.1.cell' 0 rfl))⟩) ?_
    refine r_take 5 (.pointer (some ⟨b2143, 1, none⟩)) (RB.pre _ _) rfl (by kernel_rfl) (fun _ _ _ h => hQ.panic _ _ _ _ _ h) (.inl ⟨rfl, fun wq hq => (by kernel_rfl)⟩) ?_
    refine r_take 6 (.int .i64 ((lget h s1057).Del)) (RB.pre _ _) rfl (by kernel_rfl) (fun _ _ _ h => hQ.panic _ _ _ _ _ h) (.inl ⟨rfl, fun wq hq => (x_load1 (by kernel_rfl) Tryd.isAgg3 ((OB.step k2177 (stepR (RB.trans er2167 hq) z2166 hFX2169) (Ap.symm p2149)).2.1.cell' 1 rfl))⟩) ?_
    refine r_take 10 (.pointer (some ⟨b2143, 2, none⟩)) (RB.pre _ _) rfl (by kernel_rfl) (fun _ _ _ h => hQ.panic _ _ _ _ _ h) (.inl ⟨rfl, fun wq hq => (by kernel_rfl)⟩) ?_
    refine r_take 11 (.int .i64 ((lget h s1057).To)) (RB.pre _ _) rfl (by kernel_rfl) (fun _ _ _ h => hQ.panic _ _ _ _ _ h) (.inl ⟨rfl, fun wq hq => (x_load1 (by kernel_rfl) Tryd.isAgg3 ((OB.step k2177 (stepR (RB.trans er2167 hq) z2166 hFX2169) (Ap.symm p2149)).2.1.cell' 2 rfl))⟩) ?_
    refine r_take 15 (.pointer (some ⟨b2143, 3, none⟩)) (RB.pre _ _) rfl (by kernel_rfl) (fun _ _ _ h => hQ.panic _ _ _ _ _ h) (.inl ⟨rfl, fun wq hq => (by kernel_rfl)⟩) ?_
    refine r_take 16 (.int .i64 ((lget h s1057).Add)) (RB.pre _ _) rfl (by kernel_rfl) (fun _ _ _ h => hQ.panic _ _ _ _ _ h) (.inl ⟨rfl, fun wq hq => (x_load1 (by kernel_rfl) Tryd.isAgg3 ((OB.step k2177 (stepR (RB.trans er2167 hq) z2166 hFX2169) (Ap.symm p2149)).2.1.cell' 3 rfl))⟩) ?_
    refine r_ready [2] (by kernel_rfl) rfl (all_cons ⟨_, _, _, _, _, _, rfl, ?_⟩ all_nil)
    refine o_call 24 #[(.int .i64 ((lget h s1057).At))] rfl (x_call Tryd.call24 (by kernel_rfl)) (strconv_Itoa_w (X := []) (i := (lget h s1057).At) (Old.nil _) reAt2136 (GV.less gv2173 (Sub.nil _)) hp) ?_
    rintro _ w2179 ⟨r2178, hp, e2180, rfl, zr2182⟩
    have rm := RB.mono (F' := F1060) e2180 (Nat.le_trans (Nat.le_of_eq z2166.symm) (RB.size er2167)) (fun _ h => by cases h)
    have er2183 := RB.trans er2167 rm
    refine ⟨fun _ => rm, ?_⟩
    have s2181 := Step.of0 X2145 e2180
    replace hp := hp zr2182
    obtain ⟨h2184, hp⟩ := hp
    refine r_take 3 (.string ((ByteArray.mk #[64, 64, 32, 45]) ++ r2178)) (RB.pre _ _) rfl (by kernel_rfl) (fun _ _ _ h => hQ.panic _ _ _ _ _ h) (.inl ⟨rfl, fun wq hq => (x_cat (by kernel_rfl) (by kernel_rfl) h2184)⟩) ?_
    obtain ⟨h2185, hp⟩ := hp
    refine r_take 4 (.string (((ByteArray.mk #[64, 64, 32, 45]) ++ r2178) ++ (ByteArray.mk #[44]))) (RB.pre _ _) rfl (by kernel_rfl) (fun _ _ _ h => hQ.panic _ _ _ _ _ h) (.inl ⟨rfl, fun wq hq => (x_cat (by kernel_rfl) (by kernel_rfl) h2185)⟩) ?_
    refine r_ready [7] (by kernel_rfl) rfl (all_cons ⟨_, _, _, _, _, _, rfl, ?_⟩ all_nil)
    have gv2186 := (GV.step gv2173 s2181)
    refine o_call 24 #[(.int .i64 ((lget h s1057).Del))] rfl (x_call Tryd.call24 (by kernel_rfl)) (strconv_Itoa_w (X := []) (i := (lget h s1057).Del) (Old.nil _) reDel2137 (GV.less gv2186 (Sub.nil _)) hp) ?_
    rintro _ w2188 ⟨r2187, hp, e2189, rfl, zr2191⟩
    have rm := RB.mono (F' := F1060) e2189 (Nat.le_trans (Nat.le_of_eq z2166.symm) (RB.size er2183)) (fun _ h => by cases h)
    have er2192 := RB.trans er2183 rm
    refine ⟨fun _ => rm, ?_⟩
    have s2190 := Step.of0 X2145 e2189
    replace hp := hp zr2191
    obtain ⟨h2193, hp⟩ := hp
    refine r_take 8 (.string ((((ByteArray.mk #[64, 64, 32, 45]) ++ r2178) ++ (ByteArray.mk #[44])) ++ r2187)) (RB.pre _ _) rfl (by kernel_rfl) (fun _ _ _ h => hQ.panic _ _ _ _ _ h) (.inl ⟨rfl, fun wq hq => (x_cat (by kernel_rfl) (by kernel_rfl) h2193)⟩) ?_
    obtain ⟨h2194, hp⟩ := hp
    refine r_take 9 (.string (((((ByteArray.mk #[64, 64, 32, 45]) ++ r2178) ++ (ByteArray.mk #[44])) ++ r2187) ++ (ByteArray.mk #[32, 43]))) (RB.pre _ _) rfl (by kernel_rfl) (fun _ _ _ h => hQ.panic _ _ _ _ _ h) (.inl ⟨rfl, fun wq hq => (x_cat (by kernel_rfl) (by kernel_rfl) h2194)⟩) ?_
    refine r_ready [12] (by kernel_rfl) rfl (all_cons ⟨_, _, _, _, _, _, rfl, ?_⟩ all_nil)
    have gv2195 := (GV.step gv2186 s2190)
    refine o_call 24 #[(.int .i64 ((lget h s1057).To))] rfl (x_call Tryd.call24 (by kernel_rfl)) (strconv_Itoa_w (X := []) (i := (lget h s1057).To) (Old.nil _) reTo2138 (GV.less gv2195 (Sub.nil _)) hp) ?_
    rintro _ w2197 ⟨r2196, hp, e2198, rfl, zr2200⟩
    have rm := RB.mono (F' := F1060) e2198 (Nat.le_trans (Nat.le_of_eq z2166.symm) (RB.size er2192)) (fun _ h => by cases h)
    have er2201 := RB.trans er2192 rm
    refine ⟨fun _ => rm, ?_⟩
    have s2199 := Step.of0 X2145 e2198
    replace hp := hp zr2200
    obtain ⟨h2202, hp⟩ := hp
    refine r_take 13 (.string ((((((ByteArray.mk #[64, 64, 32, 45]) ++ r2178) ++ (ByteArray.mk #[44])) ++ r2187) ++ (ByteArray.mk #[32, 43])) ++ r2196)) (RB.pre _ _) rfl (by kernel_rfl) (fun _ _ _ h => hQ.panic _ _ _ _ _ h) (.inl ⟨rfl, fun wq hq => (x_cat (by kernel_rfl) (by kernel_rfl) h2202)⟩) ?_
    obtain ⟨h2203, hp⟩ := hp
    refine r_take 14 (.string (((((((ByteArray.mk #[64, 64, 32, 45]) ++ r2178) ++ (ByteArray.mk #[44])) ++ r2187) ++ (ByteArray.mk #[32, 43])) ++ r2196) ++ (ByteArray.mk #[44]))) (RB.pre _ _) rfl (by kernel_rfl) (fun _ _ _ h => hQ.panic _ _ _ _ _ h) (.inl ⟨rfl, fun wq hq => (x_cat (by kernel_rfl) (by kernel_rfl) h2203)⟩) ?_
    refine r_ready [17] (by kernel_rfl) rfl (all_cons ⟨_, _, _, _, _, _, rfl, ?_⟩ all_nil)
    have gv2204 := (GV.step gv2195 s2199)
    refine o_call 24 #[(.int .i64 ((lget h s1057).Add))] rfl (x_call Tryd.call24 (by kernel_rfl)) (strconv_Itoa_w (X := []) (i := (lget h s1057).Add) (Old.nil _) reAdd2139 (GV.less gv2204 (Sub.nil _)) hp) ?_
    rintro _ w2206 ⟨r2205, hp, e2207, rfl, zr2209⟩
    have rm := RB.mono (F' := F1060) e2207 (Nat.le_trans (Nat.le_of_eq z2166.symm) (RB.size er2201)) (fun _ h => by cases h)
    have er2210 := RB.trans er2201 rm
    refine ⟨fun _ => rm, ?_⟩
    have s2208 := Step.of0 X2145 e2207
    replace hp := hp zr2209
    obtain ⟨h2211, hp⟩ := hp
    refine r_take 18 (.string ((((((((ByteArray.mk #[64, 64, 32, 45]) ++ r2178) ++ (ByteArray.mk #[44])) ++ r2187) ++ (ByteArray.mk #[32, 43])) ++ r2196) ++ (ByteArray.mk #[44])) ++ r2205)) (RB.pre _ _) rfl (by kernel_rfl) (fun _ _ _ h => hQ.panic _ _ _ _ _ h) (.inl ⟨rfl, fun wq hq => (x_cat (by kernel_rfl) (by kernel_rfl) h2211)⟩) ?_
    obtain ⟨h2212, hp⟩ := hp
    refine r_take 19 (.string (((((((((ByteArray.mk #[64, 64, 32, 45]) ++ r2178) ++ (ByteArray.mk #[44])) ++ r2187) ++ (ByteArray.mk #[32, 43])) ++ r2196) ++ (ByteArray.mk #[44])) ++ r2205) ++ (ByteArray.mk #[32, 64, 64, 10]))) (RB.pre _ _) rfl (by kernel_rfl) (fun _ _ _ h => hQ.panic _ _ _ _ _ h) (.inl ⟨rfl, fun wq hq => (x_cat (by kernel_rfl) (by kernel_rfl) h2212)⟩) ?_
    refine r_ready [20] (by kernel_rfl) rfl (all_cons ⟨_, _, _, _, _, _, rfl, ?_⟩ all_nil)
    have E2213 := (Evo.then0 (Evo.then0 (Evo.then0 (Evo.then0 E2170 e2180) e2189) e2198) e2207)
    have hXo2214 := (Old.step (Old.step (Old.step (Old.step hXo2171 s2181) s2190) s2199) s2208)
    have hS2215 := (Sub.trans (Sub.trans (Sub.trans (Sub.trans hS2172 (Step.up s2181)) (Step.up s2190)) (Step.up s2199)) (Step.up s2208))
    have gv2216 := (GV.step gv2204 s2208)
    have hh2217 := (Sl.step (Sl.step (Sl.step (Sl.step hh2174 s2181) s2190) s2199) s2208)
    have m2218 := (MO.step0 (MO.step0 (MO.step0 (MO.step0 m2175 s2181) s2190) s2199) s2208)
    have heLines2219 := (Sl.step (Sl.step (Sl.step (Sl.step heLines2176 s2181) s2190) s2199) s2208)
    have k2220 := (OB.step0 (OB.step0 (OB.step0 (OB.step0 k2177 s2181) s2190) s2199) s2208)
    refine o_call 23 #[(.pointer (some ⟨b6, 0, none⟩)), (.string (((((((((ByteArray.mk #[64, 64, 32, 45]) ++ r2178) ++ (ByteArray.mk #[44])) ++ r2187) ++ (ByteArray.mk #[32, 43])) ++ r2196) ++ (ByteArray.mk #[44])) ++ r2205) ++ (ByteArray.mk #[32, 64, 64, 10])))] rfl (x_call Tryd.call23 (by kernel_rfl)) (strings_Builder_WriteString_w (X := X2145) (b := o1059) (s := ((((((((ByteArray.mk #[64, 64, 32, 45]) ++ r2178) ++ (ByteArray.mk #[44])) ++ r2187) ++ (ByteArray.mk #[32, 43])) ++ r2196) ++ (ByteArray.mk #[44])) ++ r2205) ++ (ByteArray.mk #[32, 64, 64, 10])) hXo2214 (MO.re m2218 (Wr.self _ _ (Sub.refl _))) h2212 hp) ?_
    rintro _ w2224 ⟨b2221, r2222, r2223, hp, X2225, F2227, vr2230, s2226, rfl, m2228, rr2229, hr2231⟩
    have rm := RB.mono (F' := F1060) (Step.evo s2226) (Nat.le_trans (Nat.le_of_eq z2166.symm) (RB.size er2210)) (Wr.self _ _ (Sub.refl _))
    have er2232 := RB.trans er2210 rm
    refine ⟨fun _ => rm, ?_⟩
    have wn2233 : Wr F1060 w2152.heap.size F2227 := Wr.trans m2228.wr (Wr.self _ _ (Sub.refl _)) (Nat.le_trans (Nat.le_of_eq z2166.symm) (RB.size er2210))
    have m2234 := MO.re m2228 (Wr.trans m2228.wr m2218.wr E2213.size)
    have p2235 := Ap.grow m2228.wr (Ap.symm p2149) (OB.old k2220) (Nat.le_refl _)
    replace hp := hp rr2229
    refine r_done (by kernel_rfl) ?_
    refine then_normal (K2155 _ _ _ _ ?_)
    refine seq_ (fun _ K2236 => ?_)
    refine reg_ ?_
    refine sq (o_pv (.pointer (some ⟨b2143, 4, none⟩)) rfl (by kernel_rfl) ?_)
    have k2237 := (OB.step k2220 s2226 (Ap.symm p2149))
    refine sq (o_pv (.slice aeLines2140 (((lget h s1057).Lines).length) ceLines2141) rfl (x_load1 (by kernel_rfl) Tryd.isAgg33 (k2237.2.1.cell' 4 rfl)) ?_)
    refine sq (o_pv (.int .i64 (((lget h s1057).Lines).length : Int)) rfl (by kernel_rfl) ?_)
    refine sq (o_pv (.int .i64 (0 : Int)) rfl (by kernel_rfl) ?_)
    refine nil_ ?_
    refine then_normal (K2236 _ _ _ _ ?_)
    refine wp_block ?_
    have E2849 := (Evo.thenW E2213 (Step.evo s2226) m2218.wr)
    have hXo2850 := (Old.step hXo2214 s2226)
    have hS2851 := (Sub.trans hS2215 (Step.up s2226))
    have gv2852 := (GV.step gv2216 s2226)
    have hh2853 := (Sl.step hh2217 s2226)
    have heLines2854 := (Sl.step heLines2219 s2226)
    obtain ⟨I2839, m2840, hI2841, hp⟩ := hp
    refine loop_ 1152921229728940160 (fun kq lq w2843 => ∃ (X2844 : List Nat) (s2537 : Int) (o2539 : S_strings_Builder) (F2540 : List Nat), (lq = [(38, (.int .i64 s2537))]) ∧ (kq = m2840 s2537 o2539) ∧ (Evo [] w w2843) ∧ (Old X2844 w2843) ∧ (Sub X X2844) ∧ (GV X2844 w2843 0 (Lib.pow10Tab.map (Value.int .u64))) ∧ (Sl r_patch_Hunk X2844 w2843 ah1 ch2 h) ∧ (Sl r_diff_Edit X2844 w2843 aeLines2140 ceLines2141 ((lget h s1057).Lines)) ∧ (MO (o_strings_Builder b6) 66 ([]) w.heap.size X2844 w2843 F2540 b6 o2539) ∧ (inR .i64 s2537) ∧ (I2839 s2537 o2539)) (m2840 (0 : Int) b2221) [(38, (.int .i64 (0 : Int)))] (vs_cons (by kernel_rfl) vs_nil) ⟨X2225, (0 : Int), b2221, F2227, rfl, rfl, E2849, hXo2850, hS2851, gv2852, hh2853, heLines2854, m2234, (by decide : inR .i64 (0 : Int)), hI2841⟩ ?_
    rintro _ _ w2843 g2846 ⟨X2844, s2537, o2539, F2540, rfl, rfl, E2855, hXo2856, hS2857, gv2858, hh2859, heLines2860, m2541, rs2538, hI2842⟩ Kl2847 hA2848
    replace hp := hp s2537 o2539 hI2842 rs2538
    refine seq_ (fun _ K2861 => ?_)
    refine reg_ ?_
    refine sq (o_pv (.bool (decide (s2537 < (((lget h s1057).Lines).length : Int)))) rfl (by kernel_rfl) ?_)
    refine nil_ ?_
    refine then_normal (K2861 _ _ _ _ ?_)
    refine seq_ (fun _ K2862 => ?_)
    refine cond_d (s2537 < (((lget h s1057).Lines).length : Int)) (by kernel_rfl) (fun h2863 => ?_) (fun h2863 => ?_)
    ·
      replace hp := hp.1 h2863
      refine wp_skip ?_
      refine then_normal (K2862 _ _ _ _ ?_)
      refine seq_ (fun _ K2864 => ?_)
      obtain ⟨k3000, hk3001, hp⟩ := hp
      refine ground_ ?_
      refine join_ 576459652791795840 (fun lq w3002 => ∃ (X3003 : List Nat) (o2997 : S_strings_Builder) (F2998 : List Nat), (lq = []) ∧ (Evo [] w w3002) ∧ (Old X3003 w3002) ∧ (Sub X X3003) ∧ (GV X3003 w3002 0 (Lib.pow10Tab.map (Value.int .u64))) ∧ (Sl r_patch_Hunk X3003 w3002 ah1 ch2 h) ∧ (Sl r_diff_Edit X3003 w3002 aeLines2140 ceLines2141 ((lget h s1057).Lines)) ∧ (MO (o_strings_Builder b6) 66 ([]) w.heap.size X3003 w3002 F2998 b6 o2997) ∧ (k3000 o2997)) (fun Kj3004 hJ3005 => ?_) ?_
      ·
        refine wp_block ?_
        refine seq_ (fun _ K3013 => ?_)
        refine reg_ ?_
        obtain ⟨h3014, hp⟩ := hp
        obtain ⟨b3015, o3016, cs3017, ha3018, nx3019, lt3020, ok3021, hc3022⟩ := Sl.atI heLines2860 s2537 h3014
        obtain ⟨rfl, reOp3023, zeLine3024⟩ := r_diff_Edit_open ok3021
        replace hp := hp reOp3023
        replace hp := hp zeLine3024
        refine sq (o_pv (.pointer (some ⟨b3015, o3016 + s2537.toNat * 2, none⟩)) rfl (x_ixA (m := ((lget h s1057).Lines).length) (c := ceLines2141) (k := .i64) (i := s2537) Tryd.underlying33 Tryd.sizeOf48 (by rw [← ha3018]; kernel_rfl) (by kernel_rfl) h3014) ?_)
        refine sq (o_pv (.agg #[(.int .i64 ((lget ((lget h s1057).Lines) s2537).Op)), (.string ((lget ((lget h s1057).Lines) s2537).Line))]) rfl (x_loadN [(.int .i64 ((lget ((lget h s1057).Lines) s2537).Op)), (.string ((lget ((lget h s1057).Lines) s2537).Line))] (by kernel_rfl) Tryd.isAgg48 Tryd.sizeOf48 hc3022) ?_)
        refine sq (o_newX [(.int .i64 (0 : Int)), (.string (ByteArray.mk #[]))] 48 (X := X2844) (B := w.heap.size) E2855.size rfl (by kernel_rfl) ?_)
        intro b3025 w3026 X3027 s3028 k3029 n3030
        have p3031 := n3030 _ (MO.old m2541)
        have m3032 := (MO.step0 m2541 s3028)
        have E3033 := (Evo.then0 E2855 (Step.evo s3028))
        refine sq (o_stB (o := 0) (v := (.agg #[(.int .i64 ((lget ((lget h s1057).Lines) s2537).Op)), (.string ((lget ((lget h s1057).Lines) s2537).Line))])) [(.int .i64 ((lget ((lget h s1057).Lines) s2537).Op)), (.string ((lget ((lget h s1057).Lines) s2537).Line))] rfl k3029 (by kernel_rfl) (by kernel_rfl) Tryd.sizeOf48 rfl rfl rfl ?_)
        intro w3034 s3035 k3036
        refine nil_ ?_
        refine then_normal (K3013 _ _ _ _ ?_)
        refine seq_ (fun _ K3037 => ?_)
        have E3038 := (Evo.thenW E3033 (Step.evo s3035) k3029.2.2)
        have hXo3039 := (Old.step (Old.step hXo2856 s3028) s3035)
        have hS3040 := (Sub.trans (Sub.trans hS2857 (Step.up s3028)) (Step.up s3035))
        have gv3041 := (GV.step (GV.step gv2858 s3028) s3035)
        have hh3042 := (Sl.step (Sl.step hh2859 s3028) s3035)
        have heLines3043 := (Sl.step (Sl.step heLines2860 s3028) s3035)
        have m3044 := (MO.step m3032 s3035 p3031)
        have hFX3051 : Sub F2540 X3027 := (MO.mem m3044)
        refine reg_drawn (RB w3034.heap.size F2540) 7 (by kernel_rfl) (fun w3045 hd3046 => ?_)
        have e3047 := Evo.of_drew hd3046
        have z3048 : w3045.heap.size = w3034.heap.size := by rw [hd3046]
        clear hd3046
        have s3050 := Step.of0 X3027 e3047
        have er3049 := RB.refl w3034.heap.size F2540 w3045
        have E3052 := (Evo.then0 E3038 (Step.evo s3050))
        have hXo3053 := (Old.step hXo3039 s3050)
        have hS3054 := (Sub.trans hS3040 (Step.up s3050))
        have gv3055 := (GV.step gv3041 s3050)
        have hh3056 := (Sl.step hh3042 s3050)
        have heLines3057 := (Sl.step heLines3043 s3050)
        have m3058 := (MO.step0 m3044 s3050)
        have k3059 := (OB.step0 k3036 s3050)
        refine r_take 0 (.pointer (some ⟨b3025, 0, none⟩)) (RB.pre _ _) rfl (by kernel_rfl) (fun _ _ _ h => hQ.panic _ _ _ _ _ h) (.inl ⟨rfl, fun wq hq => (by kernel_rfl)⟩) ?_
        refine r_take 1 (.int .i64 ((lget ((lget h s1057).Lines) s2537).Op)) (RB.pre _ _) rfl (by kernel_rfl) (fun _ _ _ h => hQ.panic _ _ _ _ _ h) (.inl ⟨rfl, fun wq hq => (x_load1 (by kernel_rfl) Tryd.isAgg3 ((OB.step k3059 (stepR (RB.trans er3049 hq) z3048 hFX3051) (Ap.symm p3031)).2.1.cell' 0 rfl))⟩) ?_
        refine r_take 3 (.pointer (some ⟨b3025, 1, none⟩)) (RB.pre _ _) rfl (by kernel_rfl) (fun _ _ _ h => hQ.panic _ _ _ _ _ h) (.inl ⟨rfl, fun wq hq => (by kernel_rfl)⟩) ?_
        refine r_take 4 (.string ((lget ((lget h s1057).Lines) s2537).Line)) (RB.pre _ _) rfl (by kernel_rfl) (fun _ _ _ h => hQ.panic _ _ _ _ _ h) (.inl ⟨rfl, fun wq hq => (x_load1 (by kernel_rfl) Tryd.isAgg9 ((OB.step k3059 (stepR (RB.trans er3049 hq) z3048 hFX3051) (Ap.symm p3031)).2.1.cell' 1 rfl))⟩) ?_
        refine r_ready [2] (by kernel_rfl) rfl (all_cons ⟨_, _, _, _, _, _, rfl, ?_⟩ all_nil)
        refine o_call 25 #[(.int .i64 ((lget ((lget h s1057).Lines) s2537).Op))] rfl (x_call Tryd.call25 (by kernel_rfl)) (patch_sign_w (X := []) (op := (lget ((lget h s1057).Lines) s2537).Op) (Old.nil _) reOp3023 hp) ?_
        rintro _ w3061 ⟨r3060, hp, e3062, rfl, zr3064⟩
        have rm := RB.mono (F' := F2540) e3062 (Nat.le_trans (Nat.le_of_eq z3048.symm) (RB.size er3049)) (fun _ h => by cases h)
        have er3065 := RB.trans er3049 rm
        refine ⟨fun _ => rm, ?_⟩
        have s3063 := Step.of0 X3027 e3062
        replace hp := hp zr3064
        obtain ⟨h3066, hp⟩ := hp
        refine r_take 5 (.string (r3060 ++ ((lget ((lget h s1057).Lines) s2537).Line))) (RB.pre _ _) rfl (by kernel_rfl) (fun _ _ _ h => hQ.panic _ _ _ _ _ h) (.inl ⟨rfl, fun wq hq => (x_cat (by kernel_rfl) (by kernel_rfl) h3066)⟩) ?_
        refine r_ready [6] (by kernel_rfl) rfl (all_cons ⟨_, _, _, _, _, _, rfl, ?_⟩ all_nil)
        have E3067 := (Evo.then0 E3052 e3062)
        have hXo3068 := (Old.step hXo3053 s3063)
        have hS3069 := (Sub.trans hS3054 (Step.up s3063))
        have gv3070 := (GV.step gv3055 s3063)
        have hh3071 := (Sl.step hh3056 s3063)
        have heLines3072 := (Sl.step heLines3057 s3063)
        have m3073 := (MO.step0 m3058 s3063)
        have k3074 := (OB.step0 k3059 s3063)
        refine o_call 23 #[(.pointer (some ⟨b6, 0, none⟩)), (.string (r3060 ++ ((lget ((lget h s1057).Lines) s2537).Line)))] rfl (x_call Tryd.call23 (by kernel_rfl)) (strings_Builder_WriteString_w (X := X3027) (b := o2539) (s := r3060 ++ ((lget ((lget h s1057).Lines) s2537).Line)) hXo3068 (MO.re m3073 (Wr.self _ _ (Sub.refl _))) h3066 hp) ?_
        rintro _ w3078 ⟨b3075, r3076, r3077, hp, X3079, F3081, vr3084, s3080, rfl, m3082, rr3083, hr3085⟩
        have rm := RB.mono (F' := F2540) (Step.evo s3080) (Nat.le_trans (Nat.le_of_eq z3048.symm) (RB.size er3065)) (Wr.self _ _ (Sub.refl _))
        have er3086 := RB.trans er3065 rm
        refine ⟨fun _ => rm, ?_⟩
        have wn3087 : Wr F2540 w3034.heap.size F3081 := Wr.trans m3082.wr (Wr.self _ _ (Sub.refl _)) (Nat.le_trans (Nat.le_of_eq z3048.symm) (RB.size er3065))
        have m3088 := MO.re m3082 (Wr.trans m3082.wr m3073.wr E3067.size)
        have p3089 := Ap.grow m3082.wr (Ap.symm p3031) (OB.old k3074) (Nat.le_refl _)
        replace hp := hp rr3083
        refine r_done (by kernel_rfl) ?_
        refine then_normal (K3037 _ _ _ _ ?_)
        refine seq_ (fun _ K3090 => ?_)
        have E3105 := (Evo.thenW E3067 (Step.evo s3080) m3073.wr)
        have hXo3106 := (Old.step hXo3068 s3080)
        have hS3107 := (Sub.trans hS3069 (Step.up s3080))
        have gv3108 := (GV.step gv3070 s3080)
        have hh3109 := (Sl.step hh3071 s3080)
        have heLines3110 := (Sl.step heLines3072 s3080)
        have k3111 := (OB.step k3074 s3080 (Ap.symm p3031))
        obtain ⟨k3098, hk3099, hp⟩ := hp
        refine ground_ ?_
        refine join_ 287667426198290432 (fun lq w3100 => ∃ (X3101 : List Nat) (s3097 : Bool), (lq = [(57, (.bool s3097))]) ∧ (Evo [] w w3100) ∧ (Old X3101 w3100) ∧ (Sub X X3101) ∧ (GV X3101 w3100 0 (Lib.pow10Tab.map (Value.int .u64))) ∧ (Sl r_patch_Hunk X3101 w3100 ah1 ch2 h) ∧ (Sl r_diff_Edit X3101 w3100 aeLines2140 ceLines2141 ((lget h s1057).Lines)) ∧ (MO (o_strings_Builder b6) 66 ([]) w.heap.size X3101 w3100 F3081 b6 b3075) ∧ (k3098 s3097)) (fun Kj3102 hJ3103 => ?_) ?_
        ·
          refine reg_ ?_
          refine sq (o_pv (.pointer (some ⟨b3025, 1, none⟩)) rfl (by kernel_rfl) ?_)
          refine sq (o_pv (.string ((lget ((lget h s1057).Lines) s2537).Line)) rfl (x_load1 (by kernel_rfl) Tryd.isAgg9 (k3111.2.1.cell' 1 rfl)) ?_)
          by_cases h3119 : ((lget ((lget h s1057).Lines) s2537).Line : ByteArray) = (ByteArray.mk #[])
          ·
            replace hp := hp.1 h3119
            refine sq (o_pv (.bool true) rfl (x_dt (p := ((lget ((lget h s1057).Lines) s2537).Line : ByteArray) = (ByteArray.mk #[])) (x_streq (by kernel_rfl) (by kernel_rfl)) h3119) ?_)
            refine sq (o_pv (.bool true) rfl (by kernel_rfl) ?_)
            refine sq (o_not (by kernel_rfl) ?_)
            refine sq (o_not (by kernel_rfl) ?_)
            refine sq (o_not (by kernel_rfl) ?_)
            refine sq (o_not (by kernel_rfl) ?_)
            refine sq (o_pv (.bool true) rfl (by kernel_rfl) ?_)
            refine nil_ ?_
            refine then_normal (hJ3103 _ _ _ ⟨[(57, (.bool true))], fit_mk (fun _ _ => rfl) (by kernel_rfl) (vs_cons (by kernel_rfl) vs_nil), ?_⟩)
            exact ⟨X3079, true, rfl, E3105, hXo3106, hS3107, gv3108, hh3109, heLines3110, m3088, hp⟩
          ·
            replace hp := hp.2 h3119
            refine sq (o_pv (.bool false) rfl (x_df (p := ((lget ((lget h s1057).Lines) s2537).Line : ByteArray) = (ByteArray.mk #[])) (x_streq (by kernel_rfl) (by kernel_rfl)) h3119) ?_)
            refine sq (o_pv (.bool false) rfl (by kernel_rfl) ?_)
            refine sq (o_pv (.pointer (some ⟨b3025, 1, none⟩)) (by kernel_rfl) (by kernel_rfl) ?_)
            refine sq (o_pv (.string ((lget ((lget h s1057).Lines) s2537).Line)) (by kernel_rfl) (x_load1 (by kernel_rfl) Tryd.isAgg9 (k3111.2.1.cell' 1 rfl)) ?_)
            refine sq (o_call 26 #[(.string ((lget ((lget h s1057).Lines) s2537).Line))] (by kernel_rfl) (x_call Tryd.call26 (by kernel_rfl)) (lines_Whole_w (X := []) (s := (lget ((lget h s1057).Lines) s2537).Line) (Old.nil _) zeLine3024 hp) ?_)
            rintro _ w3121 ⟨r3120, hp, e3122, rfl⟩
            have s3123 := Step.of0 X3079 e3122
            refine sq (o_pv (.bool (!r3120)) (by kernel_rfl) (by kernel_rfl) ?_)
            refine sq (o_pv (.bool (!r3120)) rfl (by kernel_rfl) ?_)
            refine nil_ ?_
            have E3124 := (Evo.then0 E3105 e3122)
            have hXo3125 := (Old.step hXo3106 s3123)
            have hS3126 := (Sub.trans hS3107 (Step.up s3123))
            have gv3127 := (GV.step gv3108 s3123)
            have hh3128 := (Sl.step hh3109 s3123)
            have heLines3129 := (Sl.step heLines3110 s3123)
            have m3130 := (MO.step0 m3088 s3123)
            refine then_normal (hJ3103 _ _ _ ⟨[(57, (.bool (!r3120)))], fit_mk (fun _ _ => rfl) (by kernel_rfl) (vs_cons (by kernel_rfl) vs_nil), ?_⟩)
            exact ⟨X3079, (!r3120), rfl, E3124, hXo3125, hS3126, gv3127, hh3128, heLines3129, m3130, hp⟩
        ·
          rintro _ w3100 g3131 ⟨X3101, s3097, rfl, E3112, hXo3113, hS3114, gv3115, hh3116, heLines3117, m3118, hv3104⟩
          replace hp := hk3099 s3097 hv3104
          refine then_normal (K3090 _ _ _ _ ?_)
          refine cond_b s3097 (by kernel_rfl) (fun h3132 => ?_) (fun h3132 => ?_)
          ·
            replace hp := hp.1 h3132
            refine reg_ ?_
            refine sq (o_call 23 #[(.pointer (some ⟨b6, 0, none⟩)), (.string (ByteArray.mk #[10]))] rfl (x_call Tryd.call23 (by kernel_rfl)) (strings_Builder_WriteString_w (X := X3101) (b := b3075) (s := (ByteArray.mk #[10])) hXo3113 (MO.re m3118 (Wr.self _ _ (Sub.refl _))) (by decide : (ByteArray.mk #[10]).size ≤ maxLen) hp) ?_)
            rintro _ w3136 ⟨b3133, r3134, r3135, hp, X3137, F3139, vr3142, s3138, rfl, m3140, rr3141, hr3143⟩
            have m3144 := MO.re m3140 (Wr.trans m3140.wr m3118.wr E3112.size)
            replace hp := hp rr3141
            refine nil_ ?_
            refine blk_normal ?_
            have E3145 := (Evo.thenW E3112 (Step.evo s3138) m3118.wr)
            have hXo3146 := (Old.step hXo3113 s3138)
            have hS3147 := (Sub.trans hS3114 (Step.up s3138))
            have gv3148 := (GV.step gv3115 s3138)
            have hh3149 := (Sl.step hh3116 s3138)
            have heLines3150 := (Sl.step heLines3117 s3138)
            refine then_normal (hJ3005 _ _ _ ⟨[], fit_mk (AgB.nest (AgB.look (fun _ _ => rfl) (by kernel_rfl)) (by kernel_rfl) (by kernel_rfl)) (by kernel_rfl) vs_nil, ?_⟩)
            exact ⟨X3137, b3133, F3139, rfl, E3145, hXo3146, hS3147, gv3148, hh3149, heLines3150, m3144, hp⟩
          ·
            replace hp := hp.2 h3132
            refine wp_skip ?_
            refine blk_normal ?_
            refine then_normal (hJ3005 _ _ _ ⟨[], fit_mk (AgB.nest (AgB.look (fun _ _ => rfl) (by kernel_rfl)) (by kernel_rfl) (by kernel_rfl)) (by kernel_rfl) vs_nil, ?_⟩)
            exact ⟨X3101, b3075, F3081, rfl, E3112, hXo3113, hS3114, gv3115, hh3116, heLines3117, m3118, hp⟩
      ·
        rintro _ w3002 g3151 ⟨X3003, o2997, F2998, rfl, E3007, hXo3008, hS3009, gv3010, hh3011, heLines3012, m2999, hv3006⟩
        replace hp := hk3001 o2997 hv3006
        refine then_normal (K2864 _ _ _ _ ?_)
        refine reg_ ?_
        obtain ⟨h3152, hp⟩ := hp
        refine sq (o_pv (.int .i64 (s2537 + (1 : Int))) rfl (x_add2 (k := .i64) (a := s2537) (b := (1 : Int)) (s2537 + (1 : Int)) (by kernel_rfl) (by kernel_rfl) (wrap_inR h3152)) ?_)
        refine sq (o_pv (.int .i64 (s2537 + (1 : Int))) rfl (by kernel_rfl) ?_)
        refine nil_ ?_
        refine then_normal (hA2848 _ _ _ ⟨_, [(38, (.int .i64 (s2537 + (1 : Int))))], hp.2, fit_mk (AgB.nest (AgB.look (AgB.mix _ _ _) (by kernel_rfl)) (by kernel_rfl) (by kernel_rfl)) (by kernel_rfl) (vs_cons (by kernel_rfl) vs_nil), ?_⟩)
        exact ⟨X3003, (s2537 + (1 : Int)), o2997, F2998, rfl, rfl, E3007, hXo3008, hS3009, gv3010, hh3011, heLines3012, m2999, h3152, hp.1⟩
    ·
      replace hp := hp.2 h2863
      refine wp_exit ?_
      refine then_exit ?_
      refine then_exit ?_
      refine blk_exit ?_
      refine blk_normal ?_
      refine then_normal (K2125 _ _ _ _ ?_)
      refine reg_ ?_
      obtain ⟨h3153, hp⟩ := hp
      refine sq (o_pv (.int .i64 (s1057 + (1 : Int))) rfl (x_add2 (k := .i64) (a := s1057) (b := (1 : Int)) (s1057 + (1 : Int)) (by kernel_rfl) (by kernel_rfl) (wrap_inR h3153)) ?_)
      refine sq (o_pv (.int .i64 (s1057 + (1 : Int))) rfl (by kernel_rfl) ?_)
      refine nil_ ?_
      refine then_normal (hA2108 _ _ _ ⟨_, [(10, (.int .i64 (s1057 + (1 : Int))))], hp.2, fit_mk (AgB.nest (AgB.mix _ _ _) (by kernel_rfl) (by kernel_rfl)) (by kernel_rfl) (vs_cons (by kernel_rfl) vs_nil), ?_⟩)
      exact ⟨X2844, (s1057 + (1 : Int)), o2539, F2540, rfl, rfl, E2855, hXo2856, hS2857, gv2858, hh2859, m2541, h3153, hp.1⟩
  ·
    replace hp := hp.2 h2124
    refine wp_exit ?_
    refine then_exit ?_
    refine then_exit ?_
    refine blk_exit ?_
    refine then_normal (K12 _ _ _ _ ?_)
    refine seq_ (fun _ K3154 => ?_)
    refine reg_ ?_
    refine sq (o_call 27 #[(.pointer (some ⟨b6, 0, none⟩))] rfl (x_call Tryd.call27 (by kernel_rfl)) (strings_Builder_String_w (X := X2104) (b := o1059) hXo2115 (MO.re m1061 (Wr.self _ _ (Sub.refl _))) hp) ?_)
    rintro _ w3156 ⟨r3155, hp, X3157, s3158, rfl, zr3159⟩
    replace hp := hp zr3159
    refine sq (o_pv (.string r3155) rfl (by kernel_rfl) ?_)
    refine nil_ ?_
    refine then_normal (K3154 _ _ _ _ ?_)
    refine wp_ret ?_
    have E3160 := (Evo.thenW E2114 (Step.evo s3158) m1061.wr)
    refine end_ret hQ (.string r3155) (by kernel_rfl) ?_
    exact ⟨r3155, hp, E3160, rfl, zr3159⟩

def rectolaw12_known_p (Q : Bool → Prop) : Prop :=
  (patch_Hunks_p ([(S_diff_Edit.mk (1 : Int) (ByteArray.mk #[97, 10])), (S_diff_Edit.mk (2 : Int) (ByteArray.mk #[98, 10])), (S_diff_Edit.mk (3 : Int) (ByteArray.mk #[99, 10])), (S_diff_Edit.mk (1 : Int) (ByteArray.mk #[100, 10]))]) (0 : Int) (fun (r20 : (List S_patch_Hunk)) => ((r20.length ≤ 9223372036854775807) → (patch_Apply_p ([(ByteArray.mk #[97, 10]), (ByteArray.mk #[98, 10]), (ByteArray.mk #[100, 10])]) r20 (fun (r48 : (List ByteArray)) (r49 : PErr) => ((r48.length ≤ 9223372036854775807) → (patch_Apply_p ([] : List ByteArray) r20 (fun (r61 : (List ByteArray)) (r62 : PErr) => ((r61.length ≤ 9223372036854775807) → (patch_Turned_p r20 (fun (r74 : (List S_patch_Hunk)) => ((r74.length ≤ 9223372036854775807) → (∃ k203 : Bool → Prop, (∀ (s202 : Bool), k203 s202 → Q s202) ∧ ((((r20.length : Int) = (1 : Int)) → ((inL r20 (0 : Int)) ∧ ((inR .i64 ((lget r20 (0 : Int)).At)) → ((inR .i64 ((lget r20 (0 : Int)).Del)) → ((inR .i64 ((lget r20 (0 : Int)).To)) → ((inR .i64 ((lget r20 (0 : Int)).Add)) → ((((lget r20 (0 : Int)).Lines).length ≤ 9223372036854775807) → (((((lget r20 (0 : Int)).At) = (1 : Int)) → ((inL r20 (0 : Int)) ∧ ((inR .i64 ((lget r20 (0 : Int)).At)) → ((inR .i64 ((lget r20 (0 : Int)).Del)) → ((inR .i64 ((lget r20 (0 : Int)).To)) → ((inR .i64 ((lget r20 (0 : Int)).Add)) → ((((lget r20 (0 : Int)).Lines).length ≤ 9223372036854775807) → (((((lget r20 (0 : Int)).Del) = (1 : Int)) → ((inL r20 (0 : Int)) ∧ ((inR .i64 ((lget r20 (0 : Int)).At)) → ((inR .i64 ((lget r20 (0 : Int)).Del)) → ((inR .i64 ((lget r20 (0 : Int)).To)) → ((inR .i64 ((lget r20 (0 : Int)).Add)) → ((((lget r20 (0 : Int)).Lines).length ≤ 9223372036854775807) → (((((lget r20 (0 : Int)).Add) = (1 : Int)) → (((r49.isNil = true) → ((((!r62.isNil) = true) → ((((r48.length : Int) = (3 : Int)) → ((inL r48 (1 : Int)) ∧ (((lget r48 (1 : Int)).size ≤ maxLen) → ((((lget r48 (1 : Int) : ByteArray) = (ByteArray.mk #[99, 10])) → ((((r74.length : Int) = (1 : Int)) → ((inL r74 (0 : Int)) ∧ ((inR .i64 ((lget r74 (0 : Int)).At)) → ((inR .i64 ((lget r74 (0 : Int)).Del)) → ((inR .i64 ((lget r74 (0 : Int)).To)) → ((inR .i64 ((lget r74 (0 : Int)).Add)) → ((((lget r74 (0 : Int)).Lines).length ≤ 9223372036854775807) → ((((((lget r74 (0 : Int)).Lines).length : Int) = (2 : Int)) → ((inL r74 (0 : Int)) ∧ ((inR .i64 ((lget r74 (0 : Int)).At)) → ((inR .i64 ((lget r74 (0 : Int)).Del)) → ((inR .i64 ((lget r74 (0 : Int)).To)) → ((inR .i64 ((lget r74 (0 : Int)).Add)) → ((((lget r74 (0 : Int)).Lines).length ≤ 9223372036854775807) → ((inL ((lget r74 (0 : Int)).Lines) (0 : Int)) ∧ ((inR .i64 ((lget ((lget r74 (0 : Int)).Lines) (0 : Int)).Op)) → ((((lget ((lget r74 (0 : Int)).Lines) (0 : Int)).Line).size ≤ maxLen) → (((((lget ((lget r74 (0 : Int)).Lines) (0 : Int)).Line : ByteArray) = (ByteArray.mk #[99, 10])) → (patch_Text_p r20 (fun (r337 : ByteArray) => ((r337.size ≤ maxLen) → (k203 (decide ((r337 : ByteArray) = (ByteArray.mk #[64, 64, 32, 45, 49, 44, 49, 32, 43, 49, 44, 49, 32, 64, 64, 10, 45, 98, 10, 43, 99, 10])))))))) ∧ ((¬ (((lget ((lget r74 (0 : Int)).Lines) (0 : Int)).Line : ByteArray) = (ByteArray.mk #[99, 10]))) → (k203 false))))))))))))) ∧ ((¬ ((((lget r74 (0 : Int)).Lines).length : Int) = (2 : Int))) → (k203 false)))))))))) ∧ ((¬ ((r74.length : Int) = (1 : Int))) → (k203 false)))) ∧ ((¬ ((lget r48 (1 : Int) : ByteArray) = (ByteArray.mk #[99, 10]))) → (k203 false)))))) ∧ ((¬ ((r48.length : Int) = (3 : Int))) → (k203 false)))) ∧ ((¬ ((!r62.isNil) = true)) → (k203 false)))) ∧ ((¬ (r49.isNil = true)) → (k203 false)))) ∧ ((¬ (((lget r20 (0 : Int)).Add) = (1 : Int))) → (k203 false)))))))))) ∧ ((¬ (((lget r20 (0 : Int)).Del) = (1 : Int))) → (k203 false)))))))))) ∧ ((¬ (((lget r20 (0 : Int)).At) = (1 : Int))) → (k203 false)))))))))) ∧ ((¬ ((r20.length : Int) = (1 : Int))) → (k203 false))))))))))))))))
set_option maxRecDepth 20000 in
set_option maxHeartbeats 4000000 in
theorem rectolaw12_known_w {X : List Nat} {w : World} {Q : Bool → Prop} (hX0 : Old X w) (gv0 : GV X w 0 (Lib.pow10Tab.map (Value.int .u64))) (hp : rectolaw12_known_p Q) :
    Calls Tryd.prog 4 #[] w (Ret fun v w' => ∃ (r0 : Bool), Q r0 ∧ Evo [] w w' ∧ v = (.bool r0)) := by
  have hXo := hX0
  have E0 : Evo [] w w := RB.refl _ _ _
  have hS : Sub X X := Sub.refl _
  unfold rectolaw12_known_p at hp
  refine enter_ Tryd.func4 rfl 99 [] (by kernel_rfl) (fun Qe hQ => ?_)
  refine seq_ (fun _ K1 => ?_)
  refine reg_ ?_
  refine sq (o_pv (.bool false) rfl (by kernel_rfl) ?_)
  refine nil_ ?_
  refine then_normal (K1 _ _ _ _ ?_)
  refine seq_ (fun _ K2 => ?_)
  refine reg_ ?_
  refine sq (o_pv (.agg #[(.int .i64 (1 : Int)), (.string (ByteArray.mk #[97, 10]))]) rfl (by kernel_rfl) ?_)
  refine sq (o_pv (.agg #[(.int .i64 (2 : Int)), (.string (ByteArray.mk #[98, 10]))]) rfl (by kernel_rfl) ?_)
  refine sq (o_pv (.agg #[(.int .i64 (3 : Int)), (.string (ByteArray.mk #[99, 10]))]) rfl (by kernel_rfl) ?_)
  refine sq (o_pv (.agg #[(.int .i64 (1 : Int)), (.string (ByteArray.mk #[100, 10]))]) rfl (by kernel_rfl) ?_)
  refine sq (o_rowX (R := r_diff_Edit) [(.int .i64 (1 : Int)), (.string (ByteArray.mk #[97, 10])), (.int .i64 (2 : Int)), (.string (ByteArray.mk #[98, 10])), (.int .i64 (3 : Int)), (.string (ByteArray.mk #[99, 10])), (.int .i64 (1 : Int)), (.string (ByteArray.mk #[100, 10]))] [(S_diff_Edit.mk (1 : Int) (ByteArray.mk #[97, 10])), (S_diff_Edit.mk (2 : Int) (ByteArray.mk #[98, 10])), (S_diff_Edit.mk (3 : Int) (ByteArray.mk #[99, 10])), (S_diff_Edit.mk (1 : Int) (ByteArray.mk #[100, 10]))] 48 4 (X := X) (B := w.heap.size) E0.size rfl (by kernel_rfl) (Flat.cons (cs := [(.int .i64 (1 : Int)), (.string (ByteArray.mk #[97, 10]))]) (r_diff_Edit_mk (by decide : inR .i64 (1 : Int)) (by decide : (ByteArray.mk #[97, 10]).size ≤ maxLen)) (Flat.cons (cs := [(.int .i64 (2 : Int)), (.string (ByteArray.mk #[98, 10]))]) (r_diff_Edit_mk (by decide : inR .i64 (2 : Int)) (by decide : (ByteArray.mk #[98, 10]).size ≤ maxLen)) (Flat.cons (cs := [(.int .i64 (3 : Int)), (.string (ByteArray.mk #[99, 10]))]) (r_diff_Edit_mk (by decide : inR .i64 (3 : Int)) (by decide : (ByteArray.mk #[99, 10]).size ≤ maxLen)) (Flat.cons (cs := [(.int .i64 (1 : Int)), (.string (ByteArray.mk #[100, 10]))]) (r_diff_Edit_mk (by decide : inR .i64 (1 : Int)) (by decide : (ByteArray.mk #[100, 10]).size ≤ maxLen)) Flat.nil)))) rfl (by decide) ?_)
  intro b3 w4 X5 s6 O7 n8
  refine sq (o_pv (.slice (some ⟨b3, 0, none⟩) 4 4) rfl (by kernel_rfl) ?_)
  refine nil_ ?_
  refine then_normal (K2 _ _ _ _ ?_)
  refine seq_ (fun _ K9 => ?_)
  refine reg_ ?_
  refine sq (o_pv (.slice (some ⟨b3, 0, none⟩) 4 4) rfl (by kernel_rfl) ?_)
  have hS10 := (Sub.trans hS (Step.up s6))
  have gv16 := (GV.step gv0 s6)
  have hXo17 := (Old.step hXo s6)
  have E18 := (Evo.then0 E0 (Step.evo s6))
  have ax15 := OS.apold O7 hX0
  obtain ⟨X11, u12, r13, hm14⟩ := OS.release O7
  have hXo19 := (Old.less hXo17 u12)
  refine sq (o_call 7 #[(.slice (some ⟨b3, 0, none⟩) ([(S_diff_Edit.mk (1 : Int) (ByteArray.mk #[97, 10])), (S_diff_Edit.mk (2 : Int) (ByteArray.mk #[98, 10])), (S_diff_Edit.mk (3 : Int) (ByteArray.mk #[99, 10])), (S_diff_Edit.mk (1 : Int) (ByteArray.mk #[100, 10]))]).length 4), (.int .i64 (0 : Int))] rfl (x_call Tryd.call7 (by rw [← show 4 = ([(S_diff_Edit.mk (1 : Int) (ByteArray.mk #[97, 10])), (S_diff_Edit.mk (2 : Int) (ByteArray.mk #[98, 10])), (S_diff_Edit.mk (3 : Int) (ByteArray.mk #[99, 10])), (S_diff_Edit.mk (1 : Int) (ByteArray.mk #[100, 10]))]).length from O7.1]; kernel_rfl)) (patch_Hunks_w (X := X11) (l := [(S_diff_Edit.mk (1 : Int) (ByteArray.mk #[97, 10])), (S_diff_Edit.mk (2 : Int) (ByteArray.mk #[98, 10])), (S_diff_Edit.mk (3 : Int) (ByteArray.mk #[99, 10])), (S_diff_Edit.mk (1 : Int) (ByteArray.mk #[100, 10]))]) (around := (0 : Int)) hXo19 r13 (by decide : inR .i64 (0 : Int)) hp) ?_)
  rintro _ w21 ⟨r20, hp, e22, ar24, cr25, rfl, hr26⟩
  have s23 := Step.of0 X11 e22
  replace hp := hp (Sl.len hr26)
  refine sq (o_pv (.slice ar24 r20.length cr25) rfl (by kernel_rfl) ?_)
  refine nil_ ?_
  refine then_normal (K9 _ _ _ _ ?_)
  refine seq_ (fun _ K27 => ?_)
  refine reg_ ?_
  have E34 := (Evo.then0 E18 e22)
  refine sq (o_rowX (R := rStr) [(.string (ByteArray.mk #[97, 10])), (.string (ByteArray.mk #[98, 10])), (.string (ByteArray.mk #[100, 10]))] [(ByteArray.mk #[97, 10]), (ByteArray.mk #[98, 10]), (ByteArray.mk #[100, 10])] 9 3 (X := X11) (B := w.heap.size) E34.size rfl (by kernel_rfl) (Flat.cons (cs := [(.string (ByteArray.mk #[97, 10]))]) (rStr_mk (by decide : (ByteArray.mk #[97, 10]).size ≤ maxLen)) (Flat.cons (cs := [(.string (ByteArray.mk #[98, 10]))]) (rStr_mk (by decide : (ByteArray.mk #[98, 10]).size ≤ maxLen)) (Flat.cons (cs := [(.string (ByteArray.mk #[100, 10]))]) (rStr_mk (by decide : (ByteArray.mk #[100, 10]).size ≤ maxLen)) Flat.nil))) rfl (by decide) ?_)
  intro b28 w29 X30 s31 O32 n33
  refine sq (o_pv (.slice ar24 r20.length cr25) rfl (by kernel_rfl) ?_)
  have hS35 := (Sub.trans (Sub.trans (hm14 _ ax15 hS10) (Step.up s23)) (Step.up s31))
  have gv41 := (GV.step (GV.step (GV.less gv16 u12) s23) s31)
  have hXo42 := (Old.step (Old.step hXo19 s23) s31)
  have E43 := (Evo.then0 E34 (Step.evo s31))
  have r44 := (Sl.step (Sl.step r13 s23) s31)
  have hr45 := (Sl.step hr26 s31)
  have ax40 := OS.apold O32 hX0
  obtain ⟨X36, u37, r38, hm39⟩ := OS.release O32
  have hr46 := (Sl.less hr45 u37)
  have hXo47 := (Old.less hXo42 u37)
  refine sq (o_call 15 #[(.slice (some ⟨b28, 0, none⟩) ([(ByteArray.mk #[97, 10]), (ByteArray.mk #[98, 10]), (ByteArray.mk #[100, 10])]).length 3), (.slice ar24 r20.length cr25)] rfl (x_call Tryd.call15 (by rw [← show 3 = ([(ByteArray.mk #[97, 10]), (ByteArray.mk #[98, 10]), (ByteArray.mk #[100, 10])]).length from O32.1]; kernel_rfl)) (patch_Apply_w (X := X36) (a := [(ByteArray.mk #[97, 10]), (ByteArray.mk #[98, 10]), (ByteArray.mk #[100, 10])]) (h := r20) hXo47 r38 hr46 hp) ?_)
  rintro _ w50 ⟨r48, r49, hp, e51, ar53, cr54, vr56, rfl, hr55, hr57⟩
  have s52 := Step.of0 X36 e51
  replace hp := hp (Sl.len hr55)
  refine sq (o_pv (.tuple #[(.slice ar53 r48.length cr54), vr56]) rfl (by kernel_rfl) ?_)
  refine sq (o_pv (.slice ar53 r48.length cr54) rfl (by kernel_rfl) ?_)
  refine sq (o_pv vr56 rfl (by kernel_rfl) ?_)
  refine sq (o_pv (.slice ar53 r48.length cr54) rfl (by kernel_rfl) ?_)
  refine sq (o_pv vr56 rfl (by kernel_rfl) ?_)
  refine nil_ ?_
  refine then_normal (K27 _ _ _ _ ?_)
  refine seq_ (fun _ K58 => ?_)
  refine reg_ ?_
  refine sq (o_pv (.slice ar24 r20.length cr25) rfl (by kernel_rfl) ?_)
  have hr59 := (Sl.step hr46 s52)
  have hXo60 := (Old.step hXo47 s52)
  refine sq (o_call 15 #[(.slice none (([] : List ByteArray)).length 0), (.slice ar24 r20.length cr25)] rfl (x_call Tryd.call15 (by rw []; kernel_rfl)) (patch_Apply_w (X := X36) (a := ([] : List ByteArray)) (h := r20) hXo60 Sl.nil hr59 hp) ?_)
  rintro _ w63 ⟨r61, r62, hp, e64, ar66, cr67, vr69, rfl, hr68, hr70⟩
  have s65 := Step.of0 X36 e64
  replace hp := hp (Sl.len hr68)
  refine sq (o_pv (.tuple #[(.slice ar66 r61.length cr67), vr69]) rfl (by kernel_rfl) ?_)
  refine sq (o_pv (.slice ar66 r61.length cr67) rfl (by kernel_rfl) ?_)
  refine sq (o_pv vr69 rfl (by kernel_rfl) ?_)
  refine sq (o_pv (.slice ar66 r61.length cr67) rfl (by kernel_rfl) ?_)
  refine sq (o_pv vr69 rfl (by kernel_rfl) ?_)
  refine nil_ ?_
  refine then_normal (K58 _ _ _ _ ?_)
  refine seq_ (fun _ K71 => ?_)
  refine reg_ ?_
  refine sq (o_pv (.slice ar24 r20.length cr25) rfl (by kernel_rfl) ?_)
  have hr72 := (Sl.step hr59 s65)
  have hXo73 := (Old.step hXo60 s65)
  refine sq (o_call 13 #[(.slice ar24 r20.length cr25)] rfl (x_call Tryd.call13 (by kernel_rfl)) (patch_Turned_w (X := X36) (h := r20) hXo73 hr72 hp) ?_)
  rintro _ w75 ⟨r74, hp, e76, ar78, cr79, rfl, hr80⟩
  have s77 := Step.of0 X36 e76
  replace hp := hp (Sl.len hr80)
  refine sq (o_pv (.slice ar78 r74.length cr79) rfl (by kernel_rfl) ?_)
  refine nil_ ?_
  refine then_normal (K71 _ _ _ _ ?_)
  refine seq_ (fun _ K81 => ?_)
  have gv210 := (GV.step (GV.step (GV.step (GV.less gv41 u37) s52) s65) s77)
  have hXo211 := (Old.step hXo73 s77)
  have E212 := (Evo.then0 (Evo.then0 (Evo.then0 E43 e51) e64) e76)
  have hS213 := (Sub.trans (Sub.trans (Sub.trans (hm39 _ ax40 hS35) (Step.up s52)) (Step.up s65)) (Step.up s77))
  have r214 := (Sl.step (Sl.step (Sl.step (Sl.less r44 u37) s52) s65) s77)
  have hr215 := (Sl.step hr72 s77)
  have r216 := (Sl.step (Sl.step (Sl.step r38 s52) s65) s77)
  have hr217 := (Sl.step (Sl.step hr55 s65) s77)
  have hr218 := (Rep.step (rErr 74 77 79) (Rep.step (rErr 74 77 79) hr57 s65) s77)
  have hr219 := (Sl.step hr68 s77)
  have hr220 := (Rep.step (rErr 74 77 79) hr70 s77)
  obtain ⟨k203, hk204, hp⟩ := hp
  refine ground_ ?_
  refine join_ 633825300114114700748083167233 (fun lq w205 => ∃ (X206 : List Nat) (s202 : Bool), (lq = [(0, (.bool s202))]) ∧ (Evo [] w w205) ∧ (Old X206 w205) ∧ (Sub X X206) ∧ (GV X206 w205 0 (Lib.pow10Tab.map (Value.int .u64))) ∧ (k203 s202)) (fun Kj207 hJ208 => ?_) ?_
  ·
    refine reg_ ?_
    refine sq (o_pv (.slice ar24 r20.length cr25) rfl (by kernel_rfl) ?_)
    refine sq (o_pv (.int .i64 (r20.length : Int)) rfl (by kernel_rfl) ?_)
    by_cases h225 : (r20.length : Int) = (1 : Int)
    ·
      replace hp := hp.1 h225
      refine sq (o_pv (.bool true) rfl (x_dt (p := (r20.length : Int) = (1 : Int)) (by kernel_rfl) h225) ?_)
      refine sq (o_pv (.bool true) rfl (by kernel_rfl) ?_)
      refine sq (o_pv (.slice ar24 r20.length cr25) (by kernel_rfl) (by kernel_rfl) ?_)
      obtain ⟨h226, hp⟩ := hp
      obtain ⟨b227, o228, cs229, ha230, nx231, lt232, ok233, hc234⟩ := Sl.atI hr215 (0 : Int) h226
      obtain ⟨aeLines239, ceLines240, rfl, reAt235, reDel236, reTo237, reAdd238, heLines241⟩ := r_patch_Hunk_open ok233
      replace hp := hp reAt235
      replace hp := hp reDel236
      replace hp := hp reTo237
      replace hp := hp reAdd238
      replace hp := hp (Sl.len heLines241)
      refine sq (o_pv (.pointer (some ⟨b227, o228 + (0 : Int).toNat * 5, none⟩)) (by kernel_rfl) (x_ixA (m := r20.length) (c := cr25) (k := .i64) (i := (0 : Int)) Tryd.underlying31 Tryd.sizeOf50 (by rw [← ha230]; kernel_rfl) (by kernel_rfl) h226) ?_)
      refine sq (o_pv (.pointer (some ⟨b227, o228 + (0 : Int).toNat * 5, none⟩)) (by kernel_rfl) (by kernel_rfl) ?_)
      refine sq (o_pv (.int .i64 ((lget r20 (0 : Int)).At)) (by kernel_rfl) (x_load1 (by kernel_rfl) Tryd.isAgg3 (hc234 0 _ rfl)) ?_)
      by_cases h242 : ((lget r20 (0 : Int)).At) = (1 : Int)
      ·
        replace hp := hp.1 h242
        refine sq (o_pv (.bool true) (by kernel_rfl) (x_dt (p := ((lget r20 (0 : Int)).At) = (1 : Int)) (by kernel_rfl) h242) ?_)
        refine sq (o_pv (.bool true) rfl (by kernel_rfl) ?_)
        refine sq (o_pv (.bool true) rfl (by kernel_rfl) ?_)
        refine sq (o_pv (.slice ar24 r20.length cr25) (by kernel_rfl) (by kernel_rfl) ?_)
        obtain ⟨h243, hp⟩ := hp
        obtain ⟨b244, o245, cs246, ha247, nx248, lt249, ok250, hc251⟩ := Sl.atI hr215 (0 : Int) h243
        obtain ⟨aeLines256, ceLines257, rfl, reAt252, reDel253, reTo254, reAdd255, heLines258⟩ := r_patch_Hunk_open ok250
        replace hp := hp reAt252
        replace hp := hp reDel253
        replace hp := hp reTo254
        replace hp := hp reAdd255
        replace hp := hp (Sl.len heLines258)
        refine sq (o_pv (.pointer (some ⟨b244, o245 + (0 : Int).toNat * 5, none⟩)) (by kernel_rfl) (x_ixA (m := r20.length) (c := cr25) (k := .i64) (i := (0 : Int)) Tryd.underlying31 Tryd.sizeOf50 (by rw [← ha247]; kernel_rfl) (by kernel_rfl) h243) ?_)
        refine sq (o_pv (.pointer (some ⟨b244, o245 + (0 : Int).toNat * 5 + 1, none⟩)) (by kernel_rfl) (by kernel_rfl) ?_)
        refine sq (o_pv (.int .i64 ((lget r20 (0 : Int)).Del)) (by kernel_rfl) (x_load1 (by kernel_rfl) Tryd.isAgg3 (hc251 1 _ rfl)) ?_)
        by_cases h259 : ((lget r20 (0 : Int)).Del) = (1 : Int)
        ·
          replace hp := hp.1 h259
          refine sq (o_pv (.bool true) (by kernel_rfl) (x_dt (p := ((lget r20 (0 : Int)).Del) = (1 : Int)) (by kernel_rfl) h259) ?_)
          refine sq (o_pv (.bool true) rfl (by kernel_rfl) ?_)
          refine sq (o_pv (.bool true) rfl (by kernel_rfl) ?_)
          refine sq (o_pv (.slice ar24 r20.length cr25) (by kernel_rfl) (by kernel_rfl) ?_)
          obtain ⟨h260, hp⟩ := hp
          obtain ⟨b261, o262, cs263, ha264, nx265, lt266, ok267, hc268⟩ := Sl.atI hr215 (0 : Int) h260
          obtain ⟨aeLines273, ceLines274, rfl, reAt269, reDel270, reTo271, reAdd272, heLines275⟩ := r_patch_Hunk_open ok267
          replace hp := hp reAt269
          replace hp := hp reDel270
          replace hp := hp reTo271
          replace hp := hp reAdd272
          replace hp := hp (Sl.len heLines275)
          refine sq (o_pv (.pointer (some ⟨b261, o262 + (0 : Int).toNat * 5, none⟩)) (by kernel_rfl) (x_ixA (m := r20.length) (c := cr25) (k := .i64) (i := (0 : Int)) Tryd.underlying31 Tryd.sizeOf50 (by rw [← ha264]; kernel_rfl) (by kernel_rfl) h260) ?_)
          refine sq (o_pv (.pointer (some ⟨b261, o262 + (0 : Int).toNat * 5 + 3, none⟩)) (by kernel_rfl) (by kernel_rfl) ?_)
          refine sq (o_pv (.int .i64 ((lget r20 (0 : Int)).Add)) (by kernel_rfl) (x_load1 (by kernel_rfl) Tryd.isAgg3 (hc268 3 _ rfl)) ?_)
          by_cases h276 : ((lget r20 (0 : Int)).Add) = (1 : Int)
          ·
            replace hp := hp.1 h276
            refine sq (o_pv (.bool true) (by kernel_rfl) (x_dt (p := ((lget r20 (0 : Int)).Add) = (1 : Int)) (by kernel_rfl) h276) ?_)
            refine sq (o_pv (.bool true) rfl (by kernel_rfl) ?_)
            refine sq (o_pv (.bool true) rfl (by kernel_rfl) ?_)
            refine sq (o_pv vr56 (by kernel_rfl) (by kernel_rfl) ?_)
            by_cases h277 : r49.isNil = true
            ·
              replace hp := hp.1 h277
              refine sq (o_pv (.bool true) (by kernel_rfl) (x_bt (x_err_eq r49 hr218 Tryd.underlying43 (by kernel_rfl)) h277) ?_)
              refine sq (o_pv (.bool true) rfl (by kernel_rfl) ?_)
              refine sq (o_pv (.bool true) rfl (by kernel_rfl) ?_)
              refine sq (o_pv vr69 (by kernel_rfl) (by kernel_rfl) ?_)
              by_cases h278 : (!r62.isNil) = true
              ·
                replace hp := hp.1 h278
                refine sq (o_pv (.bool true) (by kernel_rfl) (x_bt (x_err_ne r62 hr220 Tryd.underlying43 (by kernel_rfl)) h278) ?_)
                refine sq (o_pv (.bool true) rfl (by kernel_rfl) ?_)
                refine sq (o_pv (.bool true) rfl (by kernel_rfl) ?_)
                refine sq (o_pv (.slice ar53 r48.length cr54) (by kernel_rfl) (by kernel_rfl) ?_)
                refine sq (o_pv (.int .i64 (r48.length : Int)) (by kernel_rfl) (by kernel_rfl) ?_)
                by_cases h279 : (r48.length : Int) = (3 : Int)
                ·
                  replace hp := hp.1 h279
                  refine sq (o_pv (.bool true) (by kernel_rfl) (x_dt (p := (r48.length : Int) = (3 : Int)) (by kernel_rfl) h279) ?_)
                  refine sq (o_pv (.bool true) rfl (by kernel_rfl) ?_)
                  refine sq (o_pv (.bool true) rfl (by kernel_rfl) ?_)
                  refine sq (o_pv (.slice ar53 r48.length cr54) (by kernel_rfl) (by kernel_rfl) ?_)
                  obtain ⟨h280, hp⟩ := hp
                  obtain ⟨b281, o282, cs283, ha284, nx285, lt286, ok287, hc288⟩ := Sl.atI hr217 (1 : Int) h280
                  obtain ⟨rfl, ze289⟩ := ok287
                  replace hp := hp ze289
                  refine sq (o_pv (.pointer (some ⟨b281, o282 + (1 : Int).toNat * 1, none⟩)) (by kernel_rfl) (x_ixA (m := r48.length) (c := cr54) (k := .i64) (i := (1 : Int)) Tryd.underlying22 Tryd.sizeOf9 (by rw [← ha284]; kernel_rfl) (by kernel_rfl) h280) ?_)
                  refine sq (o_pv (.string (lget r48 (1 : Int))) (by kernel_rfl) (x_load1 (by kernel_rfl) Tryd.isAgg9 (hc288 0 _ rfl)) ?_)
                  by_cases h290 : (lget r48 (1 : Int) : ByteArray) = (ByteArray.mk #[99, 10])
                  ·
                    replace hp := hp.1 h290
                    refine sq (o_pv (.bool true) (by kernel_rfl) (x_dt (p := (lget r48 (1 : Int) : ByteArray) = (ByteArray.mk #[99, 10])) (x_streq (by kernel_rfl) (by kernel_rfl)) h290) ?_)
                    refine sq (o_pv (.bool true) rfl (by kernel_rfl) ?_)
                    refine sq (o_pv (.bool true) rfl (by kernel_rfl) ?_)
                    refine sq (o_pv (.slice ar78 r74.length cr79) (by kernel_rfl) (by kernel_rfl) ?_)
                    refine sq (o_pv (.int .i64 (r74.length : Int)) (by kernel_rfl) (by kernel_rfl) ?_)
                    by_cases h291 : (r74.length : Int) = (1 : Int)
                    ·
                      replace hp := hp.1 h291
                      refine sq (o_pv (.bool true) (by kernel_rfl) (x_dt (p := (r74.length : Int) = (1 : Int)) (by kernel_rfl) h291) ?_)
                      refine sq (o_pv (.bool true) rfl (by kernel_rfl) ?_)
                      refine sq (o_pv (.bool true) rfl (by kernel_rfl) ?_)
                      refine sq (o_pv (.slice ar78 r74.length cr79) (by kernel_rfl) (by kernel_rfl) ?_)
                      obtain ⟨h292, hp⟩ := hp
                      obtain ⟨b293, o294, cs295, ha296, nx297, lt298, ok299, hc300⟩ := Sl.atI hr80 (0 : Int) h292
                      obtain ⟨aeLines305, ceLines306, rfl, reAt301, reDel302, reTo303, reAdd304, heLines307⟩ := r_patch_Hunk_open ok299
                      replace hp := hp reAt301
                      replace hp := hp reDel302
                      replace hp := hp reTo303
                      replace hp := hp reAdd304
                      replace hp := hp (Sl.len heLines307)
                      refine sq (o_pv (.pointer (some ⟨b293, o294 + (0 : Int).toNat * 5, none⟩)) (by kernel_rfl) (x_ixA (m := r74.length) (c := cr79) (k := .i64) (i := (0 : Int)) Tryd.underlying31 Tryd.sizeOf50 (by rw [← ha296]; kernel_rfl) (by kernel_rfl) h292) ?_)
                      refine sq (o_pv (.pointer (some ⟨b293, o294 + (0 : Int).toNat * 5 + 4, none⟩)) (by kernel_rfl) (by kernel_rfl) ?_)
                      refine sq (o_pv (.slice aeLines305 (((lget r74 (0 : Int)).Lines).length) ceLines306) (by kernel_rfl) (x_load1 (by kernel_rfl) Tryd.isAgg33 (hc300 4 _ rfl)) ?_)
                      refine sq (o_pv (.int .i64 (((lget r74 (0 : Int)).Lines).length : Int)) (by kernel_rfl) (by kernel_rfl) ?_)
                      by_cases h308 : (((lget r74 (0 : Int)).Lines).length : Int) = (2 : Int)
                      ·
                        replace hp := hp.1 h308
                        refine sq (o_pv (.bool true) (by kernel_rfl) (x_dt (p := (((lget r74 (0 : Int)).Lines).length : Int) = (2 : Int)) (by kernel_rfl) h308) ?_)
                        refine sq (o_pv (.bool true) rfl (by kernel_rfl) ?_)
                        refine sq (o_pv (.bool true) rfl (by kernel_rfl) ?_)
                        refine sq (o_pv (.slice ar78 r74.length cr79) (by kernel_rfl) (by kernel_rfl) ?_)
                        obtain ⟨h309, hp⟩ := hp
                        obtain ⟨b310, o311, cs312, ha313, nx314, lt315, ok316, hc317⟩ := Sl.atI hr80 (0 : Int) h309
                        obtain ⟨aeLines322, ceLines323, rfl, reAt318, reDel319, reTo320, reAdd321, heLines324⟩ := r_patch_Hunk_open ok316
                        replace hp := hp reAt318
                        replace hp := hp reDel319
                        replace hp := hp reTo320
                        replace hp := hp reAdd321
                        replace hp := hp (Sl.len heLines324)
                        refine sq (o_pv (.pointer (some ⟨b310, o311 + (0 : Int).toNat * 5, none⟩)) (by kernel_rfl) (x_ixA (m := r74.length) (c := cr79) (k := .i64) (i := (0 : Int)) Tryd.underlying31 Tryd.sizeOf50 (by rw [← ha313]; kernel_rfl) (by kernel_rfl) h309) ?_)
                        refine sq (o_pv (.pointer (some ⟨b310, o311 + (0 : Int).toNat * 5 + 4, none⟩)) (by kernel_rfl) (by kernel_rfl) ?_)
                        refine sq (o_pv (.slice aeLines322 (((lget r74 (0 : Int)).Lines).length) ceLines323) (by kernel_rfl) (x_load1 (by kernel_rfl) Tryd.isAgg33 (hc317 4 _ rfl)) ?_)
                        obtain ⟨h325, hp⟩ := hp
                        obtain ⟨b326, o327, cs328, ha329, nx330, lt331, ok332, hc333⟩ := Sl.atI heLines324 (0 : Int) h325
                        obtain ⟨rfl, reOp334, zeLine335⟩ := r_diff_Edit_open ok332
                        replace hp := hp reOp334
                        replace hp := hp zeLine335
                        refine sq (o_pv (.pointer (some ⟨b326, o327 + (0 : Int).toNat * 2, none⟩)) (by kernel_rfl) (x_ixA (m := ((lget r74 (0 : Int)).Lines).length) (c := ceLines323) (k := .i64) (i := (0 : Int)) Tryd.underlying33 Tryd.sizeOf48 (by rw [← ha329]; kernel_rfl) (by kernel_rfl) h325) ?_)
                        refine sq (o_pv (.pointer (some ⟨b326, o327 + (0 : Int).toNat * 2 + 1, none⟩)) (by kernel_rfl) (by kernel_rfl) ?_)
                        refine sq (o_pv (.string ((lget ((lget r74 (0 : Int)).Lines) (0 : Int)).Line)) (by kernel_rfl) (x_load1 (by kernel_rfl) Tryd.isAgg9 (hc333 1 _ rfl)) ?_)
                        by_cases h336 : ((lget ((lget r74 (0 : Int)).Lines) (0 : Int)).Line : ByteArray) = (ByteArray.mk #[99, 10])
                        ·
                          replace hp := hp.1 h336
                          refine sq (o_pv (.bool true) (by kernel_rfl) (x_dt (p := ((lget ((lget r74 (0 : Int)).Lines) (0 : Int)).Line : ByteArray) = (ByteArray.mk #[99, 10])) (x_streq (by kernel_rfl) (by kernel_rfl)) h336) ?_)
                          refine sq (o_pv (.bool true) rfl (by kernel_rfl) ?_)
                          refine sq (o_pv (.bool true) rfl (by kernel_rfl) ?_)
                          refine sq (o_pv (.slice ar24 r20.length cr25) (by kernel_rfl) (by kernel_rfl) ?_)
                          refine sq (o_call 11 #[(.slice ar24 r20.length cr25)] (by kernel_rfl) (x_call Tryd.call11 (by kernel_rfl)) (patch_Text_w (X := []) (h := r20) (Old.nil _) (Sl.less hr215 (Sub.nil _)) (GV.less gv210 (Sub.nil _)) hp) ?_)
                          rintro _ w338 ⟨r337, hp, e339, rfl, zr341⟩
                          have s340 := Step.of0 X36 e339
                          replace hp := hp zr341
                          refine sq (o_pv (.bool (decide ((r337 : ByteArray) = (ByteArray.mk #[64, 64, 32, 45, 49, 44, 49, 32, 43, 49, 44, 49, 32, 64, 64, 10, 45, 98, 10, 43, 99, 10])))) (by kernel_rfl) (x_streq (by kernel_rfl) (by kernel_rfl)) ?_)
                          refine sq (o_pv (.bool (decide ((r337 : ByteArray) = (ByteArray.mk #[64, 64, 32, 45, 49, 44, 49, 32, 43, 49, 44, 49, 32, 64, 64, 10, 45, 98, 10, 43, 99, 10])))) rfl (by kernel_rfl) ?_)
                          refine sq (o_pv (.bool (decide ((r337 : ByteArray) = (ByteArray.mk #[64, 64, 32, 45, 49, 44, 49, 32, 43, 49, 44, 49, 32, 64, 64, 10, 45, 98, 10, 43, 99, 10])))) rfl (by kernel_rfl) ?_)
                          refine nil_ ?_
                          have E342 := (Evo.then0 E212 e339)
                          have hXo343 := (Old.step hXo211 s340)
                          have hS344 := (Sub.trans hS213 (Step.up s340))
                          have gv345 := (GV.step gv210 s340)
                          refine then_normal (hJ208 _ _ _ ⟨[(0, (.bool (decide ((r337 : ByteArray) = (ByteArray.mk #[64, 64, 32, 45, 49, 44, 49, 32, 43, 49, 44, 49, 32, 64, 64, 10, 45, 98, 10, 43, 99, 10])))))], fit_mk (fun _ _ => rfl) (by kernel_rfl) (vs_cons (by kernel_rfl) vs_nil), ?_⟩)
                          exact ⟨X36, (decide ((r337 : ByteArray) = (ByteArray.mk #[64, 64, 32, 45, 49, 44, 49, 32, 43, 49, 44, 49, 32, 64, 64, 10, 45, 98, 10, 43, 99, 10]))), rfl, E342, hXo343, hS344, gv345, hp⟩
                        ·
                          replace hp := hp.2 h336
                          refine sq (o_pv (.bool false) (by kernel_rfl) (x_df (p := ((lget ((lget r74 (0 : Int)).Lines) (0 : Int)).Line : ByteArray) = (ByteArray.mk #[99, 10])) (x_streq (by kernel_rfl) (by kernel_rfl)) h336) ?_)
                          refine sq (o_pv (.bool false) rfl (by kernel_rfl) ?_)
                          refine sq (o_pv (.bool false) rfl (by kernel_rfl) ?_)
                          refine sq (o_not (by kernel_rfl) ?_)
                          refine sq (o_not (by kernel_rfl) ?_)
                          refine sq (o_not (by kernel_rfl) ?_)
                          refine sq (o_pv (.bool false) rfl (by kernel_rfl) ?_)
                          refine sq (o_pv (.bool false) rfl (by kernel_rfl) ?_)
                          refine nil_ ?_
                          refine then_normal (hJ208 _ _ _ ⟨[(0, (.bool false))], fit_mk (fun _ _ => rfl) (by kernel_rfl) (vs_cons (by kernel_rfl) vs_nil), ?_⟩)
                          exact ⟨X36, false, rfl, E212, hXo211, hS213, gv210, hp⟩
                      ·
                        replace hp := hp.2 h308
                        refine sq (o_pv (.bool false) (by kernel_rfl) (x_df (p := (((lget r74 (0 : Int)).Lines).length : Int) = (2 : Int)) (by kernel_rfl) h308) ?_)
                        refine sq (o_pv (.bool false) rfl (by kernel_rfl) ?_)
                        refine sq (o_pv (.bool false) rfl (by kernel_rfl) ?_)
                        refine sq (o_not (by kernel_rfl) ?_)
                        refine sq (o_not (by kernel_rfl) ?_)
                        refine sq (o_not (by kernel_rfl) ?_)
                        refine sq (o_not (by kernel_rfl) ?_)
                        refine sq (o_not (by kernel_rfl) ?_)
                        refine sq (o_not (by kernel_rfl) ?_)
                        refine sq (o_not (by kernel_rfl) ?_)
                        refine sq (o_not (by kernel_rfl) ?_)
                        refine sq (o_pv (.bool false) rfl (by kernel_rfl) ?_)
                        refine sq (o_pv (.bool false) rfl (by kernel_rfl) ?_)
                        refine sq (o_not (by kernel_rfl) ?_)
                        refine sq (o_not (by kernel_rfl) ?_)
                        refine sq (o_not (by kernel_rfl) ?_)
                        refine sq (o_pv (.bool false) rfl (by kernel_rfl) ?_)
                        refine sq (o_pv (.bool false) rfl (by kernel_rfl) ?_)
                        refine nil_ ?_
                        refine then_normal (hJ208 _ _ _ ⟨[(0, (.bool false))], fit_mk (fun _ _ => rfl) (by kernel_rfl) (vs_cons (by kernel_rfl) vs_nil), ?_⟩)
                        exact ⟨X36, false, rfl, E212, hXo211, hS213, gv210, hp⟩
                    ·
                      replace hp := hp.2 h291
                      refine sq (o_pv (.bool false) (by kernel_rfl) (x_df (p := (r74.length : Int) = (1 : Int)) (by kernel_rfl) h291) ?_)
                      refine sq (o_pv (.bool false) rfl (by kernel_rfl) ?_)
                      refine sq (o_pv (.bool false) rfl (by kernel_rfl) ?_)
                      refine sq (o_not (by kernel_rfl) ?_)
                      refine sq (o_not (by kernel_rfl) ?_)
                      refine sq (o_not (by kernel_rfl) ?_)
                      refine sq (o_not (by kernel_rfl) ?_)
                      refine sq (o_not (by kernel_rfl) ?_)
                      refine sq (o_not (by kernel_rfl) ?_)
                      refine sq (o_pv (.bool false) rfl (by kernel_rfl) ?_)
                      refine sq (o_pv (.bool false) rfl (by kernel_rfl) ?_)
                      refine sq (o_not (by kernel_rfl) ?_)
                      refine sq (o_not (by kernel_rfl) ?_)
                      refine sq (o_not (by kernel_rfl) ?_)
                      refine sq (o_not (by kernel_rfl) ?_)
                      refine sq (o_not (by kernel_rfl) ?_)
                      refine sq (o_not (by kernel_rfl) ?_)
                      refine sq (o_not (by kernel_rfl) ?_)
                      refine sq (o_not (by kernel_rfl) ?_)
                      refine sq (o_pv (.bool false) rfl (by kernel_rfl) ?_)
                      refine sq (o_pv (.bool false) rfl (by kernel_rfl) ?_)
                      refine sq (o_not (by kernel_rfl) ?_)
                      refine sq (o_not (by kernel_rfl) ?_)
                      refine sq (o_not (by kernel_rfl) ?_)
                      refine sq (o_pv (.bool false) rfl (by kernel_rfl) ?_)
                      refine sq (o_pv (.bool false) rfl (by kernel_rfl) ?_)
                      refine nil_ ?_
                      refine then_normal (hJ208 _ _ _ ⟨[(0, (.bool false))], fit_mk (fun _ _ => rfl) (by kernel_rfl) (vs_cons (by kernel_rfl) vs_nil), ?_⟩)
                      exact ⟨X36, false, rfl, E212, hXo211, hS213, gv210, hp⟩
                  ·
                    replace hp := hp.2 h290
                    refine sq (o_pv (.bool false) (by kernel_rfl) (x_df (p := (lget r48 (1 : Int) : ByteArray) = (ByteArray.mk #[99, 10])) (x_streq (by kernel_rfl) (by kernel_rfl)) h290) ?_)
                    refine sq (o_pv (.bool false) rfl (by kernel_rfl) ?_)
                    refine sq (o_pv (.bool false) rfl (by kernel_rfl) ?_)
                    refine sq (o_not (by kernel_rfl) ?_)
                    refine sq (o_not (by kernel_rfl) ?_)
                    refine sq (o_not (by kernel_rfl) ?_)
                    refine sq (o_pv (.bool false) rfl (by kernel_rfl) ?_)
                    refine sq (o_pv (.bool false) rfl (by kernel_rfl) ?_)
                    refine sq (o_not (by kernel_rfl) ?_)
                    refine sq (o_not (by kernel_rfl) ?_)
                    refine sq (o_not (by kernel_rfl) ?_)
                    refine sq (o_not (by kernel_rfl) ?_)
                    refine sq (o_not (by kernel_rfl) ?_)
                    refine sq (o_not (by kernel_rfl) ?_)
                    refine sq (o_pv (.bool false) rfl (by kernel_rfl) ?_)
                    refine sq (o_pv (.bool false) rfl (by kernel_rfl) ?_)
                    refine sq (o_not (by kernel_rfl) ?_)
                    refine sq (o_not (by kernel_rfl) ?_)
                    refine sq (o_not (by kernel_rfl) ?_)
                    refine sq (o_not (by kernel_rfl) ?_)
                    refine sq (o_not (by kernel_rfl) ?_)
                    refine sq (o_not (by kernel_rfl) ?_)
                    refine sq (o_not (by kernel_rfl) ?_)
                    refine sq (o_not (by kernel_rfl) ?_)
                    refine sq (o_pv (.bool false) rfl (by kernel_rfl) ?_)
                    refine sq (o_pv (.bool false) rfl (by kernel_rfl) ?_)
                    refine sq (o_not (by kernel_rfl) ?_)
                    refine sq (o_not (by kernel_rfl) ?_)
                    refine sq (o_not (by kernel_rfl) ?_)
                    refine sq (o_pv (.bool false) rfl (by kernel_rfl) ?_)
                    refine sq (o_pv (.bool false) rfl (by kernel_rfl) ?_)
                    refine nil_ ?_
                    refine then_normal (hJ208 _ _ _ ⟨[(0, (.bool false))], fit_mk (fun _ _ => rfl) (by kernel_rfl) (vs_cons (by kernel_rfl) vs_nil), ?_⟩)
                    exact ⟨X36, false, rfl, E212, hXo211, hS213, gv210, hp⟩
                ·
                  replace hp := hp.2 h279
                  refine sq (o_pv (.bool false) (by kernel_rfl) (x_df (p := (r48.length : Int) = (3 : Int)) (by kernel_rfl) h279) ?_)
                  refine sq (o_pv (.bool false) rfl (by kernel_rfl) ?_)
                  refine sq (o_pv (.bool false) rfl (by kernel_rfl) ?_)
                  refine sq (o_not (by kernel_rfl) ?_)
                  refine sq (o_not (by kernel_rfl) ?_)
                  refine sq (o_not (by kernel_rfl) ?_)
                  refine sq (o_not (by kernel_rfl) ?_)
                  refine sq (o_pv (.bool false) rfl (by kernel_rfl) ?_)
                  refine sq (o_pv (.bool false) rfl (by kernel_rfl) ?_)
                  refine sq (o_not (by kernel_rfl) ?_)
                  refine sq (o_not (by kernel_rfl) ?_)
                  refine sq (o_not (by kernel_rfl) ?_)
                  refine sq (o_pv (.bool false) rfl (by kernel_rfl) ?_)
                  refine sq (o_pv (.bool false) rfl (by kernel_rfl) ?_)
                  refine sq (o_not (by kernel_rfl) ?_)
                  refine sq (o_not (by kernel_rfl) ?_)
                  refine sq (o_not (by kernel_rfl) ?_)
                  refine sq (o_not (by kernel_rfl) ?_)
                  refine sq (o_not (by kernel_rfl) ?_)
                  refine sq (o_not (by kernel_rfl) ?_)
                  refine sq (o_pv (.bool false) rfl (by kernel_rfl) ?_)
                  refine sq (o_pv (.bool false) rfl (by kernel_rfl) ?_)
                  refine sq (o_not (by kernel_rfl) ?_)
                  refine sq (o_not (by kernel_rfl) ?_)
                  refine sq (o_not (by kernel_rfl) ?_)
                  refine sq (o_not (by kernel_rfl) ?_)
                  refine sq (o_not (by kernel_rfl) ?_)
                  refine sq (o_not (by kernel_rfl) ?_)
                  refine sq (o_not (by kernel_rfl) ?_)
                  refine sq (o_not (by kernel_rfl) ?_)
                  refine sq (o_pv (.bool false) rfl (by kernel_rfl) ?_)
                  refine sq (o_pv (.bool false) rfl (by kernel_rfl) ?_)
                  refine sq (o_not (by kernel_rfl) ?_)
                  refine sq (o_not (by kernel_rfl) ?_)
                  refine sq (o_not (by kernel_rfl) ?_)
                  refine sq (o_pv (.bool false) rfl (by kernel_rfl) ?_)
                  refine sq (o_pv (.bool false) rfl (by kernel_rfl) ?_)
                  refine nil_ ?_
                  refine then_normal (hJ208 _ _ _ ⟨[(0, (.bool false))], fit_mk (fun _ _ => rfl) (by kernel_rfl) (vs_cons (by kernel_rfl) vs_nil), ?_⟩)
                  exact ⟨X36, false, rfl, E212, hXo211, hS213, gv210, hp⟩
              ·
                replace hp := hp.2 h278
                refine sq (o_pv (.bool false) (by kernel_rfl) (x_bf (x_err_ne r62 hr220 Tryd.underlying43 (by kernel_rfl)) h278) ?_)
                refine sq (o_pv (.bool false) rfl (by kernel_rfl) ?_)
                refine sq (o_pv (.bool false) rfl (by kernel_rfl) ?_)
                refine sq (o_not (by kernel_rfl) ?_)
                refine sq (o_not (by kernel_rfl) ?_)
                refine sq (o_not (by kernel_rfl) ?_)
                refine sq (o_pv (.bool false) rfl (by kernel_rfl) ?_)
                refine sq (o_pv (.bool false) rfl (by kernel_rfl) ?_)
                refine sq (o_not (by kernel_rfl) ?_)
                refine sq (o_not (by kernel_rfl) ?_)
                refine sq (o_not (by kernel_rfl) ?_)
                refine sq (o_not (by kernel_rfl) ?_)
                refine sq (o_pv (.bool false) rfl (by kernel_rfl) ?_)
                refine sq (o_pv (.bool false) rfl (by kernel_rfl) ?_)
                refine sq (o_not (by kernel_rfl) ?_)
                refine sq (o_not (by kernel_rfl) ?_)
                refine sq (o_not (by kernel_rfl) ?_)
                refine sq (o_pv (.bool false) rfl (by kernel_rfl) ?_)
                refine sq (o_pv (.bool false) rfl (by kernel_rfl) ?_)
                refine sq (o_not (by kernel_rfl) ?_)
                refine sq (o_not (by kernel_rfl) ?_)
                refine sq (o_not (by kernel_rfl) ?_)
                refine sq (o_not (by kernel_rfl) ?_)
                refine sq (o_not (by kernel_rfl) ?_)
                refine sq (o_not (by kernel_rfl) ?_)
                refine sq (o_pv (.bool false) rfl (by kernel_rfl) ?_)
                refine sq (o_pv (.bool false) rfl (by kernel_rfl) ?_)
                refine sq (o_not (by kernel_rfl) ?_)
                refine sq (o_not (by kernel_rfl) ?_)
                refine sq (o_not (by kernel_rfl) ?_)
                refine sq (o_not (by kernel_rfl) ?_)
                refine sq (o_not (by kernel_rfl) ?_)
                refine sq (o_not (by kernel_rfl) ?_)
                refine sq (o_not (by kernel_rfl) ?_)
                refine sq (o_not (by kernel_rfl) ?_)
                refine sq (o_pv (.bool false) rfl (by kernel_rfl) ?_)
                refine sq (o_pv (.bool false) rfl (by kernel_rfl) ?_)
                refine sq (o_not (by kernel_rfl) ?_)
                refine sq (o_not (by kernel_rfl) ?_)
                refine sq (o_not (by kernel_rfl) ?_)
                refine sq (o_pv (.bool false) rfl (by kernel_rfl) ?_)
                refine sq (o_pv (.bool false) rfl (by kernel_rfl) ?_)
                refine nil_ ?_
                refine then_normal (hJ208 _ _ _ ⟨[(0, (.bool false))], fit_mk (fun _ _ => rfl) (by kernel_rfl) (vs_cons (by kernel_rfl) vs_nil), ?_⟩)
                exact ⟨X36, false, rfl, E212, hXo211, hS213, gv210, hp⟩
            ·
              replace hp := hp.2 h277
              refine sq (o_pv (.bool false) (by kernel_rfl) (x_bf (x_err_eq r49 hr218 Tryd.underlying43 (by kernel_rfl)) h277) ?_)
              refine sq (o_pv (.bool false) rfl (by kernel_rfl) ?_)
              refine sq (o_pv (.bool false) rfl (by kernel_rfl) ?_)
              refine sq (o_not (by kernel_rfl) ?_)
              refine sq (o_not (by kernel_rfl) ?_)
              refine sq (o_pv (.bool false) rfl (by kernel_rfl) ?_)
              refine sq (o_pv (.bool false) rfl (by kernel_rfl) ?_)
              refine sq (o_not (by kernel_rfl) ?_)
              refine sq (o_not (by kernel_rfl) ?_)
              refine sq (o_not (by kernel_rfl) ?_)
              refine sq (o_pv (.bool false) rfl (by kernel_rfl) ?_)
              refine sq (o_pv (.bool false) rfl (by kernel_rfl) ?_)
              refine sq (o_not (by kernel_rfl) ?_)
              refine sq (o_not (by kernel_rfl) ?_)
              refine sq (o_not (by kernel_rfl) ?_)
              refine sq (o_not (by kernel_rfl) ?_)
              refine sq (o_pv (.bool false) rfl (by kernel_rfl) ?_)
              refine sq (o_pv (.bool false) rfl (by kernel_rfl) ?_)
              refine sq (o_not (by kernel_rfl) ?_)
              refine sq (o_not (by kernel_rfl) ?_)
              refine sq (o_not (by kernel_rfl) ?_)
              refine sq (o_pv (.bool false) rfl (by kernel_rfl) ?_)
              refine sq (o_pv (.bool false) rfl (by kernel_rfl) ?_)
              refine sq (o_not (by kernel_rfl) ?_)
              refine sq (o_not (by kernel_rfl) ?_)
              refine sq (o_not (by kernel_rfl) ?_)
              refine sq (o_not (by kernel_rfl) ?_)
              refine sq (o_not (by kernel_rfl) ?_)
              refine sq (o_not (by kernel_rfl) ?_)
              refine sq (o_pv (.bool false) rfl (by kernel_rfl) ?_)
              refine sq (o_pv (.bool false) rfl (by kernel_rfl) ?_)
              refine sq (o_not (by kernel_rfl) ?_)
              refine sq (o_not (by kernel_rfl) ?_)
              refine sq (o_not (by kernel_rfl) ?_)
              refine sq (o_not (by kernel_rfl) ?_)
              refine sq (o_not (by kernel_rfl) ?_)
              refine sq (o_not (by kernel_rfl) ?_)
              refine sq (o_not (by kernel_rfl) ?_)
              refine sq (o_not (by kernel_rfl) ?_)
              refine sq (o_pv (.bool false) rfl (by kernel_rfl) ?_)
              refine sq (o_pv (.bool false) rfl (by kernel_rfl) ?_)
              refine sq (o_not (by kernel_rfl) ?_)
              refine sq (o_not (by kernel_rfl) ?_)
              refine sq (o_not (by kernel_rfl) ?_)
              refine sq (o_pv (.bool false) rfl (by kernel_rfl) ?_)
              refine sq (o_pv (.bool false) rfl (by kernel_rfl) ?_)
              refine nil_ ?_
              refine then_normal (hJ208 _ _ _ ⟨[(0, (.bool false))], fit_mk (fun _ _ => rfl) (by kernel_rfl) (vs_cons (by kernel_rfl) vs_nil), ?_⟩)
              exact ⟨X36, false, rfl, E212, hXo211, hS213, gv210, hp⟩
          ·
            replace hp := hp.2 h276
            refine sq (o_pv (.bool false) (by kernel_rfl) (x_df (p := ((lget r20 (0 : Int)).Add) = (1 : Int)) (by kernel_rfl) h276) ?_)
            refine sq (o_pv (.bool false) rfl (by kernel_rfl) ?_)
            refine sq (o_pv (.bool false) rfl (by kernel_rfl) ?_)
            refine sq (o_not (by kernel_rfl) ?_)
            refine sq (o_not (by kernel_rfl) ?_)
            refine sq (o_pv (.bool false) rfl (by kernel_rfl) ?_)
            refine sq (o_pv (.bool false) rfl (by kernel_rfl) ?_)
            refine sq (o_not (by kernel_rfl) ?_)
            refine sq (o_not (by kernel_rfl) ?_)
            refine sq (o_pv (.bool false) rfl (by kernel_rfl) ?_)
            refine sq (o_pv (.bool false) rfl (by kernel_rfl) ?_)
            refine sq (o_not (by kernel_rfl) ?_)
            refine sq (o_not (by kernel_rfl) ?_)
            refine sq (o_not (by kernel_rfl) ?_)
            refine sq (o_pv (.bool false) rfl (by kernel_rfl) ?_)
            refine sq (o_pv (.bool false) rfl (by kernel_rfl) ?_)
            refine sq (o_not (by kernel_rfl) ?_)
            refine sq (o_not (by kernel_rfl) ?_)
            refine sq (o_not (by kernel_rfl) ?_)
            refine sq (o_not (by kernel_rfl) ?_)
            refine sq (o_pv (.bool false) rfl (by kernel_rfl) ?_)
            refine sq (o_pv (.bool false) rfl (by kernel_rfl) ?_)
            refine sq (o_not (by kernel_rfl) ?_)
            refine sq (o_not (by kernel_rfl) ?_)
            refine sq (o_not (by kernel_rfl) ?_)
            refine sq (o_pv (.bool false) rfl (by kernel_rfl) ?_)
            refine sq (o_pv (.bool false) rfl (by kernel_rfl) ?_)
            refine sq (o_not (by kernel_rfl) ?_)
            refine sq (o_not (by kernel_rfl) ?_)
            refine sq (o_not (by kernel_rfl) ?_)
            refine sq (o_not (by kernel_rfl) ?_)
            refine sq (o_not (by kernel_rfl) ?_)
            refine sq (o_not (by kernel_rfl) ?_)
            refine sq (o_pv (.bool false) rfl (by kernel_rfl) ?_)
            refine sq (o_pv (.bool false) rfl (by kernel_rfl) ?_)
            refine sq (o_not (by kernel_rfl) ?_)
            refine sq (o_not (by kernel_rfl) ?_)
            refine sq (o_not (by kernel_rfl) ?_)
            refine sq (o_not (by kernel_rfl) ?_)
            refine sq (o_not (by kernel_rfl) ?_)
            refine sq (o_not (by kernel_rfl) ?_)
            refine sq (o_not (by kernel_rfl) ?_)
            refine sq (o_not (by kernel_rfl) ?_)
            refine sq (o_pv (.bool false) rfl (by kernel_rfl) ?_)
            refine sq (o_pv (.bool false) rfl (by kernel_rfl) ?_)
            refine sq (o_not (by kernel_rfl) ?_)
            refine sq (o_not (by kernel_rfl) ?_)
            refine sq (o_not (by kernel_rfl) ?_)
            refine sq (o_pv (.bool false) rfl (by kernel_rfl) ?_)
            refine sq (o_pv (.bool false) rfl (by kernel_rfl) ?_)
            refine nil_ ?_
            refine then_normal (hJ208 _ _ _ ⟨[(0, (.bool false))], fit_mk (fun _ _ => rfl) (by kernel_rfl) (vs_cons (by kernel_rfl) vs_nil), ?_⟩)
            exact ⟨X36, false, rfl, E212, hXo211, hS213, gv210, hp⟩
        ·
          replace hp := hp.2 h259
          refine sq (o_pv (.bool false) (by kernel_rfl) (x_df (p := ((lget r20 (0 : Int)).Del) = (1 : Int)) (by kernel_rfl) h259) ?_)
          refine sq (o_pv (.bool false) rfl (by kernel_rfl) ?_)
          refine sq (o_pv (.bool false) rfl (by kernel_rfl) ?_)
          refine sq (o_not (by kernel_rfl) ?_)
          refine sq (o_not (by kernel_rfl) ?_)
          refine sq (o_not (by kernel_rfl) ?_)
          refine sq (o_not (by kernel_rfl) ?_)
          refine sq (o_not (by kernel_rfl) ?_)
          refine sq (o_pv (.bool false) rfl (by kernel_rfl) ?_)
          refine sq (o_pv (.bool false) rfl (by kernel_rfl) ?_)
          refine sq (o_not (by kernel_rfl) ?_)
          refine sq (o_not (by kernel_rfl) ?_)
          refine sq (o_pv (.bool false) rfl (by kernel_rfl) ?_)
          refine sq (o_pv (.bool false) rfl (by kernel_rfl) ?_)
          refine sq (o_not (by kernel_rfl) ?_)
          refine sq (o_not (by kernel_rfl) ?_)
          refine sq (o_pv (.bool false) rfl (by kernel_rfl) ?_)
          refine sq (o_pv (.bool false) rfl (by kernel_rfl) ?_)
          refine sq (o_not (by kernel_rfl) ?_)
          refine sq (o_not (by kernel_rfl) ?_)
          refine sq (o_not (by kernel_rfl) ?_)
          refine sq (o_pv (.bool false) rfl (by kernel_rfl) ?_)
          refine sq (o_pv (.bool false) rfl (by kernel_rfl) ?_)
          refine sq (o_not (by kernel_rfl) ?_)
          refine sq (o_not (by kernel_rfl) ?_)
          refine sq (o_not (by kernel_rfl) ?_)
          refine sq (o_not (by kernel_rfl) ?_)
          refine sq (o_pv (.bool false) rfl (by kernel_rfl) ?_)
          refine sq (o_pv (.bool false) rfl (by kernel_rfl) ?_)
          refine sq (o_not (by kernel_rfl) ?_)
          refine sq (o_not (by kernel_rfl) ?_)
          refine sq (o_not (by kernel_rfl) ?_)
          refine sq (o_pv (.bool false) rfl (by kernel_rfl) ?_)
          refine sq (o_pv (.bool false) rfl (by kernel_rfl) ?_)
          refine sq (o_not (by kernel_rfl) ?_)
          refine sq (o_not (by kernel_rfl) ?_)
          refine sq (o_not (by kernel_rfl) ?_)
          refine sq (o_not (by kernel_rfl) ?_)
          refine sq (o_not (by kernel_rfl) ?_)
          refine sq (o_not (by kernel_rfl) ?_)
          refine sq (o_pv (.bool false) rfl (by kernel_rfl) ?_)
          refine sq (o_pv (.bool false) rfl (by kernel_rfl) ?_)
          refine sq (o_not (by kernel_rfl) ?_)
          refine sq (o_not (by kernel_rfl) ?_)
          refine sq (o_not (by kernel_rfl) ?_)
          refine sq (o_not (by kernel_rfl) ?_)
          refine sq (o_not (by kernel_rfl) ?_)
          refine sq (o_not (by kernel_rfl) ?_)
          refine sq (o_not (by kernel_rfl) ?_)
          refine sq (o_not (by kernel_rfl) ?_)
          refine sq (o_pv (.bool false) rfl (by kernel_rfl) ?_)
          refine sq (o_pv (.bool false) rfl (by kernel_rfl) ?_)
          refine sq (o_not (by kernel_rfl) ?_)
          refine sq (o_not (by kernel_rfl) ?_)
          refine sq (o_not (by kernel_rfl) ?_)
          refine sq (o_pv (.bool false) rfl (by kernel_rfl) ?_)
          refine sq (o_pv (.bool false) rfl (by kernel_rfl) ?_)
          refine nil_ ?_
          refine then_normal (hJ208 _ _ _ ⟨[(0, (.bool false))], fit_mk (fun _ _ => rfl) (by kernel_rfl) (vs_cons (by kernel_rfl) vs_nil), ?_⟩)
          exact ⟨X36, false, rfl, E212, hXo211, hS213, gv210, hp⟩
      ·
        replace hp := hp.2 h242
        refine sq (o_pv (.bool false) (by kernel_rfl) (x_df (p := ((lget r20 (0 : Int)).At) = (1 : Int)) (by kernel_rfl) h242) ?_)
        refine sq (o_pv (.bool false) rfl (by kernel_rfl) ?_)
        refine sq (o_pv (.bool false) rfl (by kernel_rfl) ?_)
        refine sq (o_not (by kernel_rfl) ?_)
        refine sq (o_not (by kernel_rfl) ?_)
        refine sq (o_not (by kernel_rfl) ?_)
        refine sq (o_not (by kernel_rfl) ?_)
        refine sq (o_not (by kernel_rfl) ?_)
        refine sq (o_pv (.bool false) rfl (by kernel_rfl) ?_)
        refine sq (o_pv (.bool false) rfl (by kernel_rfl) ?_)
        refine sq (o_not (by kernel_rfl) ?_)
        refine sq (o_not (by kernel_rfl) ?_)
        refine sq (o_not (by kernel_rfl) ?_)
        refine sq (o_not (by kernel_rfl) ?_)
        refine sq (o_not (by kernel_rfl) ?_)
        refine sq (o_pv (.bool false) rfl (by kernel_rfl) ?_)
        refine sq (o_pv (.bool false) rfl (by kernel_rfl) ?_)
        refine sq (o_not (by kernel_rfl) ?_)
        refine sq (o_not (by kernel_rfl) ?_)
        refine sq (o_pv (.bool false) rfl (by kernel_rfl) ?_)
        refine sq (o_pv (.bool false) rfl (by kernel_rfl) ?_)
        refine sq (o_not (by kernel_rfl) ?_)
        refine sq (o_not (by kernel_rfl) ?_)
        refine sq (o_pv (.bool false) rfl (by kernel_rfl) ?_)
        refine sq (o_pv (.bool false) rfl (by kernel_rfl) ?_)
        refine sq (o_not (by kernel_rfl) ?_)
        refine sq (o_not (by kernel_rfl) ?_)
        refine sq (o_not (by kernel_rfl) ?_)
        refine sq (o_pv (.bool false) rfl (by kernel_rfl) ?_)
        refine sq (o_pv (.bool false) rfl (by kernel_rfl) ?_)
        refine sq (o_not (by kernel_rfl) ?_)
        refine sq (o_not (by kernel_rfl) ?_)
        refine sq (o_not (by kernel_rfl) ?_)
        refine sq (o_not (by kernel_rfl) ?_)
        refine sq (o_pv (.bool false) rfl (by kernel_rfl) ?_)
        refine sq (o_pv (.bool false) rfl (by kernel_rfl) ?_)
        refine sq (o_not (by kernel_rfl) ?_)
        refine sq (o_not (by kernel_rfl) ?_)
        refine sq (o_not (by kernel_rfl) ?_)
        refine sq (o_pv (.bool false) rfl (by kernel_rfl) ?_)
        refine sq (o_pv (.bool false) rfl (by kernel_rfl) ?_)
        refine sq (o_not (by kernel_rfl) ?_)
        refine sq (o_not (by kernel_rfl) ?_)
        refine sq (o_not (by kernel_rfl) ?_)
        refine sq (o_not (by kernel_rfl) ?_)
        refine sq (o_not (by kernel_rfl) ?_)
        refine sq (o_not (by kernel_rfl) ?_)
        refine sq (o_pv (.bool false) rfl (by kernel_rfl) ?_)
        refine sq (o_pv (.bool false) rfl (by kernel_rfl) ?_)
        refine sq (o_not (by kernel_rfl) ?_)
        refine sq (o_not (by kernel_rfl) ?_)
        refine sq (o_not (by kernel_rfl) ?_)
        refine sq (o_not (by kernel_rfl) ?_)
        refine sq (o_not (by kernel_rfl) ?_)
        refine sq (o_not (by kernel_rfl) ?_)
        refine sq (o_not (by kernel_rfl) ?_)
        refine sq (o_not (by kernel_rfl) ?_)
        refine sq (o_pv (.bool false) rfl (by kernel_rfl) ?_)
        refine sq (o_pv (.bool false) rfl (by kernel_rfl) ?_)
        refine sq (o_not (by kernel_rfl) ?_)
        refine sq (o_not (by kernel_rfl) ?_)
        refine sq (o_not (by kernel_rfl) ?_)
        refine sq (o_pv (.bool false) rfl (by kernel_rfl) ?_)
        refine sq (o_pv (.bool false) rfl (by kernel_rfl) ?_)
        refine nil_ ?_
        refine then_normal (hJ208 _ _ _ ⟨[(0, (.bool false))], fit_mk (fun _ _ => rfl) (by kernel_rfl) (vs_cons (by kernel_rfl) vs_nil), ?_⟩)
        exact ⟨X36, false, rfl, E212, hXo211, hS213, gv210, hp⟩
    ·
      replace hp := hp.2 h225
      refine sq (o_pv (.bool false) rfl (x_df (p := (r20.length : Int) = (1 : Int)) (by kernel_rfl) h225) ?_)
      refine sq (o_pv (.bool false) rfl (by kernel_rfl) ?_)
      refine sq (o_not (by kernel_rfl) ?_)
      refine sq (o_not (by kernel_rfl) ?_)
      refine sq (o_not (by kernel_rfl) ?_)
      refine sq (o_not (by kernel_rfl) ?_)
      refine sq (o_not (by kernel_rfl) ?_)
      refine sq (o_pv (.bool false) rfl (by kernel_rfl) ?_)
      refine sq (o_pv (.bool false) rfl (by kernel_rfl) ?_)
      refine sq (o_not (by kernel_rfl) ?_)
      refine sq (o_not (by kernel_rfl) ?_)
      refine sq (o_not (by kernel_rfl) ?_)
      refine sq (o_not (by kernel_rfl) ?_)
      refine sq (o_not (by kernel_rfl) ?_)
      refine sq (o_pv (.bool false) rfl (by kernel_rfl) ?_)
      refine sq (o_pv (.bool false) rfl (by kernel_rfl) ?_)
      refine sq (o_not (by kernel_rfl) ?_)
      refine sq (o_not (by kernel_rfl) ?_)
      refine sq (o_not (by kernel_rfl) ?_)
      refine sq (o_not (by kernel_rfl) ?_)
      refine sq (o_not (by kernel_rfl) ?_)
      refine sq (o_pv (.bool false) rfl (by kernel_rfl) ?_)
      refine sq (o_pv (.bool false) rfl (by kernel_rfl) ?_)
      refine sq (o_not (by kernel_rfl) ?_)
      refine sq (o_not (by kernel_rfl) ?_)
      refine sq (o_pv (.bool false) rfl (by kernel_rfl) ?_)
      refine sq (o_pv (.bool false) rfl (by kernel_rfl) ?_)
      refine sq (o_not (by kernel_rfl) ?_)
      refine sq (o_not (by kernel_rfl) ?_)
      refine sq (o_pv (.bool false) rfl (by kernel_rfl) ?_)
      refine sq (o_pv (.bool false) rfl (by kernel_rfl) ?_)
      refine sq (o_not (by kernel_rfl) ?_)
      refine sq (o_not (by kernel_rfl) ?_)
      refine sq (o_not (by kernel_rfl) ?_)
      refine sq (o_pv (.bool false) rfl (by kernel_rfl) ?_)
      refine sq (o_pv (.bool false) rfl (by kernel_rfl) ?_)
      refine sq (o_not (by kernel_rfl) ?_)
      refine sq (o_not (by kernel_rfl) ?_)
      refine sq (o_not (by kernel_rfl) ?_)
      refine sq (o_not (by kernel_rfl) ?_)
      refine sq (o_pv (.bool false) rfl (by kernel_rfl) ?_)
      refine sq (o_pv (.bool false) rfl (by kernel_rfl) ?_)
      refine sq (o_not (by kernel_rfl) ?_)
      refine sq (o_not (by kernel_rfl) ?_)
      refine sq (o_not (by kernel_rfl) ?_)
      refine sq (o_pv (.bool false) rfl (by kernel_rfl) ?_)
      refine sq (o_pv (.bool false) rfl (by kernel_rfl) ?_)
      refine sq (o_not (by kernel_rfl) ?_)
      refine sq (o_not (by kernel_rfl) ?_)
      refine sq (o_not (by kernel_rfl) ?_)
      refine sq (o_not (by kernel_rfl) ?_)
      refine sq (o_not (by kernel_rfl) ?_)
      refine sq (o_not (by kernel_rfl) ?_)
      refine sq (o_pv (.bool false) rfl (by kernel_rfl) ?_)
      refine sq (o_pv (.bool false) rfl (by kernel_rfl) ?_)
      refine sq (o_not (by kernel_rfl) ?_)
      refine sq (o_not (by kernel_rfl) ?_)
      refine sq (o_not (by kernel_rfl) ?_)
      refine sq (o_not (by kernel_rfl) ?_)
      refine sq (o_not (by kernel_rfl) ?_)
      refine sq (o_not (by kernel_rfl) ?_)
      refine sq (o_not (by kernel_rfl) ?_)
      refine sq (o_not (by kernel_rfl) ?_)
      refine sq (o_pv (.bool false) rfl (by kernel_rfl) ?_)
      refine sq (o_pv (.bool false) rfl (by kernel_rfl) ?_)
      refine sq (o_not (by kernel_rfl) ?_)
      refine sq (o_not (by kernel_rfl) ?_)
      refine sq (o_not (by kernel_rfl) ?_)
      refine sq (o_pv (.bool false) rfl (by kernel_rfl) ?_)
      refine sq (o_pv (.bool false) rfl (by kernel_rfl) ?_)
      refine nil_ ?_
      refine then_normal (hJ208 _ _ _ ⟨[(0, (.bool false))], fit_mk (fun _ _ => rfl) (by kernel_rfl) (vs_cons (by kernel_rfl) vs_nil), ?_⟩)
      exact ⟨X36, false, rfl, E212, hXo211, hS213, gv210, hp⟩
  ·
    rintro _ w205 g346 ⟨X206, s202, rfl, E221, hXo222, hS223, gv224, hv209⟩
    replace hp := hk204 s202 hv209
    refine then_normal (K81 _ _ _ _ ?_)
    refine wp_ret ?_
    refine end_ret hQ (.bool s202) (by kernel_rfl) ?_
    exact ⟨s202, hp, E221, rfl⟩

def rectolaw11_Few_p (a : (List ByteArray)) (b : (List ByteArray)) (Q : Bool → Prop) : Prop :=
  ((a.length ≤ 9223372036854775807) → ((b.length ≤ 9223372036854775807) → (((((a.length : Int) > (300 : Int)) → True) ∧ ((¬ ((a.length : Int) > (300 : Int))) → ((((b.length : Int) > (300 : Int)) → True) ∧ ((¬ ((b.length : Int) > (300 : Int))) → ((((a.length : Int) ≤ (256 : Int)) → ((((b.length : Int) ≤ (256 : Int)) → ((inR .i64 ((a.length : Int) * (b.length : Int))) ∧ True)) ∧ ((¬ ((b.length : Int) ≤ (256 : Int))) → True))) ∧ ((¬ ((a.length : Int) ≤ (256 : Int))) → True)))))) ∧ (((((a.length : Int) > (300 : Int)) ∨ (((b.length : Int) > (300 : Int)) ∨ (((a.length : Int) ≤ (256 : Int)) ∧ (((b.length : Int) ≤ (256 : Int)) ∧ (((a.length : Int) * (b.length : Int)) > (2500 : Int)))))) → Q false) ∧ ((¬ (((a.length : Int) > (300 : Int)) ∨ (((b.length : Int) > (300 : Int)) ∨ (((a.length : Int) ≤ (256 : Int)) ∧ (((b.length : Int) ≤ (256 : Int)) ∧ (((a.length : Int) * (b.length : Int)) > (2500 : Int))))))) → (∃ (I50 : Int → Prop) (m51 : Int → Nat), (I50 (0 : Int)) ∧ (∀ (i28 : Int), (I50 i28) → (inR .i64 i28) → (((i28 < (a.length : Int)) → ((inL a i28) ∧ (((lget a i28).size ≤ maxLen) → (((((lget a i28).size : Int) > (300 : Int)) → Q false) ∧ ((¬ (((lget a i28).size : Int) > (300 : Int))) → ((inR .i64 (i28 + (1 : Int))) ∧ ((I50 (i28 + (1 : Int))) ∧ m51 (i28 + (1 : Int)) < m51 i28))))))) ∧ ((¬ (i28 < (a.length : Int))) → (∃ (I107 : Int → Prop) (m108 : Int → Nat), (I107 (0 : Int)) ∧ (∀ (i85 : Int), (I107 i85) → (inR .i64 i85) → (((i85 < (b.length : Int)) → ((inL b i85) ∧ (((lget b i85).size ≤ maxLen) → (((((lget b i85).size : Int) > (300 : Int)) → Q false) ∧ ((¬ (((lget b i85).size : Int) > (300 : Int))) → ((inR .i64 (i85 + (1 : Int))) ∧ ((I107 (i85 + (1 : Int))) ∧ m108 (i85 + (1 : Int)) < m108 i85))))))) ∧ ((¬ (i85 < (b.length : Int))) → Q true)))))))))))))
set_option maxRecDepth 20000 in
set_option maxHeartbeats 4000000 in
theorem rectolaw11_Few_w {X : List Nat} {w : World} {a : (List ByteArray)} {b : (List ByteArray)} {aa1 : Option Addr} {ca2 : Nat} {ab4 : Option Addr} {cb5 : Nat} {Q : Bool → Prop} (hX0 : Old X w) (ha3 : Sl rStr X w aa1 ca2 a) (hb6 : Sl rStr X w ab4 cb5 b) (hp : rectolaw11_Few_p a b Q) :
    Calls Tryd.prog 17 #[(.slice aa1 a.length ca2), (.slice ab4 b.length cb5)] w (Ret fun v w' => ∃ (r0 : Bool), Q r0 ∧ Evo [] w w' ∧ v = (.bool r0)) := by
  have hXo := hX0
  have E0 : Evo [] w w := RB.refl _ _ _
  have hS : Sub X X := Sub.refl _
  unfold rectolaw11_Few_p at hp
  refine enter_ Tryd.func17 rfl 57 [(0, (.slice aa1 a.length ca2)), (1, (.slice ab4 b.length cb5))] (by kernel_rfl) (fun Qe hQ => ?_)
  replace hp := hp (Sl.len ha3)
  replace hp := hp (Sl.len hb6)
  refine seq_ (fun _ K7 => ?_)
  refine reg_ ?_
  refine sq (o_pv (.bool false) rfl (by kernel_rfl) ?_)
  refine nil_ ?_
  refine then_normal (K7 _ _ _ _ ?_)
  refine seq_ (fun _ K8 => ?_)
  refine seq_ (fun _ K9 => ?_)
  obtain ⟨hp, hq⟩ := hp
  refine ground_ ?_
  refine join_ 8589934464 (fun lq w17 => lq = [(32, (.bool (decide (((a.length : Int) > (300 : Int)) ∨ (((b.length : Int) > (300 : Int)) ∨ (((a.length : Int) ≤ (256 : Int)) ∧ (((b.length : Int) ≤ (256 : Int)) ∧ (((a.length : Int) * (b.length : Int)) > (2500 : Int)))))))))] ∧ w = w17) (fun Kj15 hJ16 => ?_) ?_
  ·
    refine reg_ ?_
    refine sq (o_pv (.slice aa1 a.length ca2) rfl (by kernel_rfl) ?_)
    refine sq (o_pv (.int .i64 (a.length : Int)) rfl (by kernel_rfl) ?_)
    by_cases h19 : (a.length : Int) > (300 : Int)
    ·
      replace hp := hp.1 h19
      refine sq (o_pv (.bool true) rfl (x_dt (p := (a.length : Int) > (300 : Int)) (by kernel_rfl) h19) ?_)
      refine sq (o_pv (.bool true) rfl (by kernel_rfl) ?_)
      refine sq (o_not (by kernel_rfl) ?_)
      refine sq (o_not (by kernel_rfl) ?_)
      refine sq (o_not (by kernel_rfl) ?_)
      refine sq (o_pv (.bool true) rfl (by kernel_rfl) ?_)
      refine sq (o_pv (.bool true) rfl (by kernel_rfl) ?_)
      refine sq (o_not (by kernel_rfl) ?_)
      refine sq (o_not (by kernel_rfl) ?_)
      refine sq (o_not (by kernel_rfl) ?_)
      refine sq (o_not (by kernel_rfl) ?_)
      refine sq (o_not (by kernel_rfl) ?_)
      refine sq (o_not (by kernel_rfl) ?_)
      refine sq (o_not (by kernel_rfl) ?_)
      refine sq (o_not (by kernel_rfl) ?_)
      refine sq (o_not (by kernel_rfl) ?_)
      refine sq (o_not (by kernel_rfl) ?_)
      refine sq (o_not (by kernel_rfl) ?_)
      refine sq (o_not (by kernel_rfl) ?_)
      refine sq (o_not (by kernel_rfl) ?_)
      refine sq (o_not (by kernel_rfl) ?_)
      refine sq (o_not (by kernel_rfl) ?_)
      refine sq (o_not (by kernel_rfl) ?_)
      refine sq (o_pv (.bool true) rfl (by kernel_rfl) ?_)
      refine nil_ ?_
      refine then_normal (hJ16 _ _ _ ⟨[(32, (.bool (decide (((a.length : Int) > (300 : Int)) ∨ (((b.length : Int) > (300 : Int)) ∨ (((a.length : Int) ≤ (256 : Int)) ∧ (((b.length : Int) ≤ (256 : Int)) ∧ (((a.length : Int) * (b.length : Int)) > (2500 : Int)))))))))], fit_mk (fun _ _ => rfl) (by kernel_rfl) (vs_cons (Eq.trans (b := (.bool true)) (by kernel_rfl) (dec_t (iff_true_intro (Or.inl h19))).symm) vs_nil), rfl, rfl⟩)
    ·
      replace hp := hp.2 h19
      refine sq (o_pv (.bool false) rfl (x_df (p := (a.length : Int) > (300 : Int)) (by kernel_rfl) h19) ?_)
      refine sq (o_pv (.bool false) rfl (by kernel_rfl) ?_)
      refine sq (o_pv (.slice ab4 b.length cb5) (by kernel_rfl) (by kernel_rfl) ?_)
      refine sq (o_pv (.int .i64 (b.length : Int)) (by kernel_rfl) (by kernel_rfl) ?_)
      by_cases h20 : (b.length : Int) > (300 : Int)
      ·
        replace hp := hp.1 h20
        refine sq (o_pv (.bool true) (by kernel_rfl) (x_dt (p := (b.length : Int) > (300 : Int)) (by kernel_rfl) h20) ?_)
        refine sq (o_pv (.bool true) rfl (by kernel_rfl) ?_)
        refine sq (o_pv (.bool true) rfl (by kernel_rfl) ?_)
        refine sq (o_not (by kernel_rfl) ?_)
        refine sq (o_not (by kernel_rfl) ?_)
        refine sq (o_not (by kernel_rfl) ?_)
        refine sq (o_not (by kernel_rfl) ?_)
        refine sq (o_not (by kernel_rfl) ?_)
        refine sq (o_not (by kernel_rfl) ?_)
        refine sq (o_not (by kernel_rfl) ?_)
        refine sq (o_not (by kernel_rfl) ?_)
        refine sq (o_not (by kernel_rfl) ?_)
        refine sq (o_not (by kernel_rfl) ?_)
        refine sq (o_not (by kernel_rfl) ?_)
        refine sq (o_not (by kernel_rfl) ?_)
        refine sq (o_not (by kernel_rfl) ?_)
        refine sq (o_not (by kernel_rfl) ?_)
        refine sq (o_not (by kernel_rfl) ?_)
        refine sq (o_not (by kernel_rfl) ?_)
        refine sq (o_pv (.bool true) rfl (by kernel_rfl) ?_)
        refine nil_ ?_
        refine then_normal (hJ16 _ _ _ ⟨[(32, (.bool (decide (((a.length : Int) > (300 : Int)) ∨ (((b.length : Int) > (300 : Int)) ∨ (((a.length : Int) ≤ (256 : Int)) ∧ (((b.length : Int) ≤ (256 : Int)) ∧ (((a.length : Int) * (b.length : Int)) > (2500 : Int)))))))))], fit_mk (fun _ _ => rfl) (by kernel_rfl) (vs_cons (Eq.trans (b := (.bool true)) (by kernel_rfl) (dec_t ((or_iff_right h19).trans (iff_true_intro (Or.inl h20)))).symm) vs_nil), rfl, rfl⟩)
      ·
        replace hp := hp.2 h20
        refine sq (o_pv (.bool false) (by kernel_rfl) (x_df (p := (b.length : Int) > (300 : Int)) (by kernel_rfl) h20) ?_)
        refine sq (o_pv (.bool false) rfl (by kernel_rfl) ?_)
        refine sq (o_pv (.bool false) rfl (by kernel_rfl) ?_)
        refine sq (o_pv (.slice aa1 a.length ca2) (by kernel_rfl) (by kernel_rfl) ?_)
        refine sq (o_pv (.int .i64 (a.length : Int)) (by kernel_rfl) (by kernel_rfl) ?_)
        by_cases h21 : (a.length : Int) ≤ (256 : Int)
        ·
          replace hp := hp.1 h21
          refine sq (o_pv (.bool true) (by kernel_rfl) (x_dt (p := (a.length : Int) ≤ (256 : Int)) (by kernel_rfl) h21) ?_)
          refine sq (o_pv (.bool true) (by kernel_rfl) (by kernel_rfl) ?_)
          refine sq (o_pv (.slice ab4 b.length cb5) (by kernel_rfl) (by kernel_rfl) ?_)
          refine sq (o_pv (.int .i64 (b.length : Int)) (by kernel_rfl) (by kernel_rfl) ?_)
          by_cases h22 : (b.length : Int) ≤ (256 : Int)
          ·
            replace hp := hp.1 h22
            refine sq (o_pv (.bool true) (by kernel_rfl) (x_dt (p := (b.length : Int) ≤ (256 : Int)) (by kernel_rfl) h22) ?_)
            refine sq (o_pv (.bool true) (by kernel_rfl) (by kernel_rfl) ?_)
            refine sq (o_pv (.bool true) (by kernel_rfl) (by kernel_rfl) ?_)
            refine sq (o_pv (.slice aa1 a.length ca2) (by kernel_rfl) (by kernel_rfl) ?_)
            refine sq (o_pv (.int .i64 (a.length : Int)) (by kernel_rfl) (by kernel_rfl) ?_)
            refine sq (o_pv (.slice ab4 b.length cb5) (by kernel_rfl) (by kernel_rfl) ?_)
            refine sq (o_pv (.int .i64 (b.length : Int)) (by kernel_rfl) (by kernel_rfl) ?_)
            obtain ⟨h23, hp⟩ := hp
            refine sq (o_pv (.int .i64 ((a.length : Int) * (b.length : Int))) (by kernel_rfl) (x_mul2 (k := .i64) (a := (a.length : Int)) (b := (b.length : Int)) ((a.length : Int) * (b.length : Int)) (by kernel_rfl) (by kernel_rfl) (wrap_inR h23)) ?_)
            refine sq (o_pv (.bool (decide (((a.length : Int) * (b.length : Int)) > (2500 : Int)))) (by kernel_rfl) (by kernel_rfl) ?_)
            refine sq (o_pv (.bool (decide (((a.length : Int) * (b.length : Int)) > (2500 : Int)))) (by kernel_rfl) (by kernel_rfl) ?_)
            refine sq (o_pv (.bool (decide (((a.length : Int) * (b.length : Int)) > (2500 : Int)))) rfl (by kernel_rfl) ?_)
            refine nil_ ?_
            refine then_normal (hJ16 _ _ _ ⟨[(32, (.bool (decide (((a.length : Int) > (300 : Int)) ∨ (((b.length : Int) > (300 : Int)) ∨ (((a.length : Int) ≤ (256 : Int)) ∧ (((b.length : Int) ≤ (256 : Int)) ∧ (((a.length : Int) * (b.length : Int)) > (2500 : Int)))))))))], fit_mk (fun _ _ => rfl) (by kernel_rfl) (vs_cons (Eq.trans (b := (.bool (decide (((a.length : Int) * (b.length : Int)) > (2500 : Int))))) (by kernel_rfl) (dec_d ((or_iff_right h19).trans ((or_iff_right h20).trans ((and_iff_right h21).trans ((and_iff_right h22).trans Iff.rfl))))).symm) vs_nil), rfl, rfl⟩)
          ·
            replace hp := hp.2 h22
            refine sq (o_pv (.bool false) (by kernel_rfl) (x_df (p := (b.length : Int) ≤ (256 : Int)) (by kernel_rfl) h22) ?_)
            refine sq (o_pv (.bool false) (by kernel_rfl) (by kernel_rfl) ?_)
            refine sq (o_pv (.bool false) (by kernel_rfl) (by kernel_rfl) ?_)
            refine sq (o_not (by kernel_rfl) ?_)
            refine sq (o_not (by kernel_rfl) ?_)
            refine sq (o_not (by kernel_rfl) ?_)
            refine sq (o_not (by kernel_rfl) ?_)
            refine sq (o_not (by kernel_rfl) ?_)
            refine sq (o_not (by kernel_rfl) ?_)
            refine sq (o_pv (.bool false) (by kernel_rfl) (by kernel_rfl) ?_)
            refine sq (o_pv (.bool false) rfl (by kernel_rfl) ?_)
            refine nil_ ?_
            refine then_normal (hJ16 _ _ _ ⟨[(32, (.bool (decide (((a.length : Int) > (300 : Int)) ∨ (((b.length : Int) > (300 : Int)) ∨ (((a.length : Int) ≤ (256 : Int)) ∧ (((b.length : Int) ≤ (256 : Int)) ∧ (((a.length : Int) * (b.length : Int)) > (2500 : Int)))))))))], fit_mk (fun _ _ => rfl) (by kernel_rfl) (vs_cons (Eq.trans (b := (.bool false)) (by kernel_rfl) (dec_f ((or_iff_right h19).trans ((or_iff_right h20).trans ((and_iff_right h21).trans (iff_false_intro (fun h => h22 h.1)))))).symm) vs_nil), rfl, rfl⟩)
        ·
          replace hp := hp.2 h21
          refine sq (o_pv (.bool false) (by kernel_rfl) (x_df (p := (a.length : Int) ≤ (256 : Int)) (by kernel_rfl) h21) ?_)
          refine sq (o_pv (.bool false) (by kernel_rfl) (by kernel_rfl) ?_)
          refine sq (o_not (by kernel_rfl) ?_)
          refine sq (o_not (by kernel_rfl) ?_)
          refine sq (o_not (by kernel_rfl) ?_)
          refine sq (o_pv (.bool false) (by kernel_rfl) (by kernel_rfl) ?_)
          refine sq (o_pv (.bool false) (by kernel_rfl) (by kernel_rfl) ?_)
          refine sq (o_not (by kernel_rfl) ?_)
          refine sq (o_not (by kernel_rfl) ?_)
          refine sq (o_not (by kernel_rfl) ?_)
          refine sq (o_not (by kernel_rfl) ?_)
          refine sq (o_not (by kernel_rfl) ?_)
          refine sq (o_not (by kernel_rfl) ?_)
          refine sq (o_pv (.bool false) (by kernel_rfl) (by kernel_rfl) ?_)
          refine sq (o_pv (.bool false) rfl (by kernel_rfl) ?_)
          refine nil_ ?_
          refine then_normal (hJ16 _ _ _ ⟨[(32, (.bool (decide (((a.length : Int) > (300 : Int)) ∨ (((b.length : Int) > (300 : Int)) ∨ (((a.length : Int) ≤ (256 : Int)) ∧ (((b.length : Int) ≤ (256 : Int)) ∧ (((a.length : Int) * (b.length : Int)) > (2500 : Int)))))))))], fit_mk (fun _ _ => rfl) (by kernel_rfl) (vs_cons (Eq.trans (b := (.bool false)) (by kernel_rfl) (dec_f ((or_iff_right h19).trans ((or_iff_right h20).trans (iff_false_intro (fun h => h21 h.1))))).symm) vs_nil), rfl, rfl⟩)
  ·
    rintro _ w17 g18 ⟨rfl, hw⟩
    subst hw
    have hp := hq
    refine then_normal (K9 _ _ _ _ ?_)
    refine cond_d (((a.length : Int) > (300 : Int)) ∨ (((b.length : Int) > (300 : Int)) ∨ (((a.length : Int) ≤ (256 : Int)) ∧ (((b.length : Int) ≤ (256 : Int)) ∧ (((a.length : Int) * (b.length : Int)) > (2500 : Int)))))) (by kernel_rfl) (fun h24 => ?_) (fun h24 => ?_)
    ·
      replace hp := hp.1 h24
      refine seq_ (fun _ K25 => ?_)
      refine reg_ ?_
      refine sq (o_pv (.bool false) rfl (by kernel_rfl) ?_)
      refine nil_ ?_
      refine then_normal (K25 _ _ _ _ ?_)
      refine wp_ret ?_
      refine then_ret ?_
      refine end_ret hQ (.bool false) (by kernel_rfl) ?_
      exact ⟨false, hp, E0, rfl⟩
    ·
      replace hp := hp.2 h24
      refine wp_skip ?_
      refine then_normal (K8 _ _ _ _ ?_)
      refine seq_ (fun _ K26 => ?_)
      refine seq_ (fun _ K27 => ?_)
      refine reg_ ?_
      refine sq (o_pv (.int .i64 (0 : Int)) rfl (by kernel_rfl) ?_)
      refine nil_ ?_
      refine then_normal (K27 _ _ _ _ ?_)
      refine wp_block ?_
      obtain ⟨I50, m51, hI52, hp⟩ := hp
      refine loop_ 35175782154288 (fun kq lq w54 => ∃ (X55 : List Nat) (i28 : Int), (lq = [(5, (.int .i64 i28))]) ∧ (kq = m51 i28) ∧ (Evo [] w w54) ∧ (Old X55 w54) ∧ (Sub X X55) ∧ (Sl rStr X55 w54 aa1 ca2 a) ∧ (Sl rStr X55 w54 ab4 cb5 b) ∧ (inR .i64 i28) ∧ (I50 i28)) (m51 (0 : Int)) [(5, (.int .i64 (0 : Int)))] (vs_cons (by kernel_rfl) vs_nil) ⟨X, (0 : Int), rfl, rfl, E0, hXo, hS, ha3, hb6, (by decide : inR .i64 (0 : Int)), hI52⟩ ?_
      rintro _ _ w54 g57 ⟨X55, i28, rfl, rfl, E60, hXo61, hS62, ha63, hb64, ri29, hI53⟩ Kl58 hA59
      replace hp := hp i28 hI53 ri29
      refine seq_ (fun _ K65 => ?_)
      refine seq_ (fun _ K66 => ?_)
      refine reg_ ?_
      refine sq (o_pv (.int .i64 i28) rfl (by kernel_rfl) ?_)
      refine sq (o_pv (.slice aa1 a.length ca2) rfl (by kernel_rfl) ?_)
      refine sq (o_pv (.int .i64 (a.length : Int)) rfl (by kernel_rfl) ?_)
      refine sq (o_pv (.bool (decide (i28 < (a.length : Int)))) rfl (by kernel_rfl) ?_)
      refine nil_ ?_
      refine then_normal (K66 _ _ _ _ ?_)
      refine cond_d (i28 < (a.length : Int)) (by kernel_rfl) (fun h67 => ?_) (fun h67 => ?_)
      ·
        replace hp := hp.1 h67
        refine wp_skip ?_
        refine then_normal (K65 _ _ _ _ ?_)
        refine seq_ (fun _ K68 => ?_)
        refine wp_block ?_
        refine seq_ (fun _ K69 => ?_)
        refine reg_ ?_
        refine sq (o_pv (.slice aa1 a.length ca2) rfl (by kernel_rfl) ?_)
        refine sq (o_pv (.int .i64 i28) rfl (by kernel_rfl) ?_)
        obtain ⟨h70, hp⟩ := hp
        obtain ⟨b71, o72, cs73, ha74, nx75, lt76, ok77, hc78⟩ := Sl.atI ha63 i28 h70
        obtain ⟨rfl, ze79⟩ := ok77
        replace hp := hp ze79
        refine sq (o_pv (.pointer (some ⟨b71, o72 + i28.toNat * 1, none⟩)) rfl (x_ixA (m := a.length) (c := ca2) (k := .i64) (i := i28) Tryd.underlying22 Tryd.sizeOf9 (by rw [← ha74]; kernel_rfl) (by kernel_rfl) h70) ?_)
        refine sq (o_pv (.string (lget a i28)) rfl (x_load1 (by kernel_rfl) Tryd.isAgg9 (hc78 0 _ rfl)) ?_)
        refine sq (o_pv (.int .i64 ((lget a i28).size : Int)) rfl (by kernel_rfl) ?_)
        refine sq (o_pv (.bool (decide (((lget a i28).size : Int) > (300 : Int)))) rfl (by kernel_rfl) ?_)
        refine nil_ ?_
        refine then_normal (K69 _ _ _ _ ?_)
        refine cond_d (((lget a i28).size : Int) > (300 : Int)) (by kernel_rfl) (fun h80 => ?_) (fun h80 => ?_)
        ·
          replace hp := hp.1 h80
          refine seq_ (fun _ K81 => ?_)
          refine reg_ ?_
          refine sq (o_pv (.bool false) rfl (by kernel_rfl) ?_)
          refine nil_ ?_
          refine then_normal (K81 _ _ _ _ ?_)
          refine wp_ret ?_
          refine blk_ret ?_
          refine then_ret ?_
          refine then_ret ?_
          refine blk_ret ?_
          refine then_ret ?_
          refine end_ret hQ (.bool false) (by kernel_rfl) ?_
          exact ⟨false, hp, E60, rfl⟩
        ·
          replace hp := hp.2 h80
          refine wp_skip ?_
          refine blk_normal ?_
          refine then_normal (K68 _ _ _ _ ?_)
          refine reg_ ?_
          refine sq (o_pv (.int .i64 i28) rfl (by kernel_rfl) ?_)
          obtain ⟨h82, hp⟩ := hp
          refine sq (o_pv (.int .i64 (i28 + (1 : Int))) rfl (x_add2 (k := .i64) (a := i28) (b := (1 : Int)) (i28 + (1 : Int)) (by kernel_rfl) (by kernel_rfl) (wrap_inR h82)) ?_)
          refine sq (o_pv (.int .i64 (i28 + (1 : Int))) rfl (by kernel_rfl) ?_)
          refine nil_ ?_
          refine then_normal (hA59 _ _ _ ⟨_, [(5, (.int .i64 (i28 + (1 : Int))))], hp.2, fit_mk (AgB.mix _ _ _) (by kernel_rfl) (vs_cons (by kernel_rfl) vs_nil), ?_⟩)
          exact ⟨X55, (i28 + (1 : Int)), rfl, rfl, E60, hXo61, hS62, ha63, hb64, h82, hp.1⟩
      ·
        replace hp := hp.2 h67
        refine wp_exit ?_
        refine then_exit ?_
        refine then_exit ?_
        refine blk_exit ?_
        refine then_normal (K26 _ _ _ _ ?_)
        refine seq_ (fun _ K83 => ?_)
        refine seq_ (fun _ K84 => ?_)
        refine reg_ ?_
        refine sq (o_pv (.int .i64 (0 : Int)) rfl (by kernel_rfl) ?_)
        refine nil_ ?_
        refine then_normal (K84 _ _ _ _ ?_)
        refine wp_block ?_
        obtain ⟨I107, m108, hI109, hp⟩ := hp
        refine loop_ 144080003703767120 (fun kq lq w111 => ∃ (X112 : List Nat) (i85 : Int), (lq = [(6, (.int .i64 i85))]) ∧ (kq = m108 i85) ∧ (Evo [] w w111) ∧ (Old X112 w111) ∧ (Sub X X112) ∧ (Sl rStr X112 w111 ab4 cb5 b) ∧ (inR .i64 i85) ∧ (I107 i85)) (m108 (0 : Int)) [(6, (.int .i64 (0 : Int)))] (vs_cons (by kernel_rfl) vs_nil) ⟨X55, (0 : Int), rfl, rfl, E60, hXo61, hS62, hb64, (by decide : inR .i64 (0 : Int)), hI109⟩ ?_
        rintro _ _ w111 g114 ⟨X112, i85, rfl, rfl, E117, hXo118, hS119, hb120, ri86, hI110⟩ Kl115 hA116
        replace hp := hp i85 hI110 ri86
        refine seq_ (fun _ K121 => ?_)
        refine seq_ (fun _ K122 => ?_)
        refine reg_ ?_
        refine sq (o_pv (.int .i64 i85) rfl (by kernel_rfl) ?_)
        refine sq (o_pv (.slice ab4 b.length cb5) rfl (by kernel_rfl) ?_)
        refine sq (o_pv (.int .i64 (b.length : Int)) rfl (by kernel_rfl) ?_)
        refine sq (o_pv (.bool (decide (i85 < (b.length : Int)))) rfl (by kernel_rfl) ?_)
        refine nil_ ?_
        refine then_normal (K122 _ _ _ _ ?_)
        refine cond_d (i85 < (b.length : Int)) (by kernel_rfl) (fun h123 => ?_) (fun h123 => ?_)
        ·
          replace hp := hp.1 h123
          refine wp_skip ?_
          refine then_normal (K121 _ _ _ _ ?_)
          refine seq_ (fun _ K124 => ?_)
          refine wp_block ?_
          refine seq_ (fun _ K125 => ?_)
          refine reg_ ?_
          refine sq (o_pv (.slice ab4 b.length cb5) rfl (by kernel_rfl) ?_)
          refine sq (o_pv (.int .i64 i85) rfl (by kernel_rfl) ?_)
          obtain ⟨h126, hp⟩ := hp
          obtain ⟨b127, o128, cs129, ha130, nx131, lt132, ok133, hc134⟩ := Sl.atI hb120 i85 h126
          obtain ⟨rfl, ze135⟩ := ok133
          replace hp := hp ze135
          refine sq (o_pv (.pointer (some ⟨b127, o128 + i85.toNat * 1, none⟩)) rfl (x_ixA (m := b.length) (c := cb5) (k := .i64) (i := i85) Tryd.underlying22 Tryd.sizeOf9 (by rw [← ha130]; kernel_rfl) (by kernel_rfl) h126) ?_)
          refine sq (o_pv (.string (lget b i85)) rfl (x_load1 (by kernel_rfl) Tryd.isAgg9 (hc134 0 _ rfl)) ?_)
          refine sq (o_pv (.int .i64 ((lget b i85).size : Int)) rfl (by kernel_rfl) ?_)
          refine sq (o_pv (.bool (decide (((lget b i85).size : Int) > (300 : Int)))) rfl (by kernel_rfl) ?_)
          refine nil_ ?_
          refine then_normal (K125 _ _ _ _ ?_)
          refine cond_d (((lget b i85).size : Int) > (300 : Int)) (by kernel_rfl) (fun h136 => ?_) (fun h136 => ?_)
          ·
            replace hp := hp.1 h136
            refine seq_ (fun _ K137 => ?_)
            refine reg_ ?_
            refine sq (o_pv (.bool false) rfl (by kernel_rfl) ?_)
            refine nil_ ?_
            refine then_normal (K137 _ _ _ _ ?_)
            refine wp_ret ?_
            refine blk_ret ?_
            refine then_ret ?_
            refine then_ret ?_
            refine blk_ret ?_
            refine then_ret ?_
            refine end_ret hQ (.bool false) (by kernel_rfl) ?_
            exact ⟨false, hp, E117, rfl⟩
          ·
            replace hp := hp.2 h136
            refine wp_skip ?_
            refine blk_normal ?_
            refine then_normal (K124 _ _ _ _ ?_)
            refine reg_ ?_
            refine sq (o_pv (.int .i64 i85) rfl (by kernel_rfl) ?_)
            obtain ⟨h138, hp⟩ := hp
            refine sq (o_pv (.int .i64 (i85 + (1 : Int))) rfl (x_add2 (k := .i64) (a := i85) (b := (1 : Int)) (i85 + (1 : Int)) (by kernel_rfl) (by kernel_rfl) (wrap_inR h138)) ?_)
            refine sq (o_pv (.int .i64 (i85 + (1 : Int))) rfl (by kernel_rfl) ?_)
            refine nil_ ?_
            refine then_normal (hA116 _ _ _ ⟨_, [(6, (.int .i64 (i85 + (1 : Int))))], hp.2, fit_mk (AgB.mix _ _ _) (by kernel_rfl) (vs_cons (by kernel_rfl) vs_nil), ?_⟩)
            exact ⟨X112, (i85 + (1 : Int)), rfl, rfl, E117, hXo118, hS119, hb120, h138, hp.1⟩
        ·
          replace hp := hp.2 h123
          refine wp_exit ?_
          refine then_exit ?_
          refine then_exit ?_
          refine blk_exit ?_
          refine then_normal (K83 _ _ _ _ ?_)
          refine seq_ (fun _ K139 => ?_)
          refine reg_ ?_
          refine sq (o_pv (.bool true) rfl (by kernel_rfl) ?_)
          refine nil_ ?_
          refine then_normal (K139 _ _ _ _ ?_)
          refine wp_ret ?_
          refine end_ret hQ (.bool true) (by kernel_rfl) ?_
          exact ⟨true, hp, E117, rfl⟩

def rectolaw12_few_p (a : (List ByteArray)) (b : (List ByteArray)) (Q : Bool → Prop) : Prop :=
  ((a.length ≤ 9223372036854775807) → ((b.length ≤ 9223372036854775807) → (∃ k16 : Bool → Prop, (∀ (s15 : Bool), k16 s15 → Q s15) ∧ ((((a.length : Int) ≤ (50 : Int)) → ((((b.length : Int) ≤ (50 : Int)) → (rectolaw11_Few_p a b (fun (r28 : Bool) => (k16 r28)))) ∧ ((¬ ((b.length : Int) ≤ (50 : Int))) → (k16 false)))) ∧ ((¬ ((a.length : Int) ≤ (50 : Int))) → (k16 false))))))
set_option maxRecDepth 20000 in
set_option maxHeartbeats 4000000 in
theorem rectolaw12_few_w {X : List Nat} {w : World} {a : (List ByteArray)} {b : (List ByteArray)} {aa1 : Option Addr} {ca2 : Nat} {ab4 : Option Addr} {cb5 : Nat} {Q : Bool → Prop} (hX0 : Old X w) (ha3 : Sl rStr X w aa1 ca2 a) (hb6 : Sl rStr X w ab4 cb5 b) (hp : rectolaw12_few_p a b Q) :
    Calls Tryd.prog 5 #[(.slice aa1 a.length ca2), (.slice ab4 b.length cb5)] w (Ret fun v w' => ∃ (r0 : Bool), Q r0 ∧ Evo [] w w' ∧ v = (.bool r0)) := by
  have hXo := hX0
  have E0 : Evo [] w w := RB.refl _ _ _
  have hS : Sub X X := Sub.refl _
  unfold rectolaw12_few_p at hp
  refine enter_ Tryd.func5 rfl 18 [(0, (.slice aa1 a.length ca2)), (1, (.slice ab4 b.length cb5))] (by kernel_rfl) (fun Qe hQ => ?_)
  replace hp := hp (Sl.len ha3)
  replace hp := hp (Sl.len hb6)
  refine seq_ (fun _ K7 => ?_)
  refine reg_ ?_
  refine sq (o_pv (.bool false) rfl (by kernel_rfl) ?_)
  refine nil_ ?_
  refine then_normal (K7 _ _ _ _ ?_)
  refine seq_ (fun _ K8 => ?_)
  obtain ⟨k16, hk17, hp⟩ := hp
  refine ground_ ?_
  refine join_ 262128 (fun lq w18 => ∃ (X19 : List Nat) (s15 : Bool), (lq = [(4, (.bool s15))]) ∧ (Evo [] w w18) ∧ (Old X19 w18) ∧ (Sub X X19) ∧ (k16 s15)) (fun Kj20 hJ21 => ?_) ?_
  ·
    refine reg_ ?_
    refine sq (o_pv (.slice aa1 a.length ca2) rfl (by kernel_rfl) ?_)
    refine sq (o_pv (.int .i64 (a.length : Int)) rfl (by kernel_rfl) ?_)
    by_cases h26 : (a.length : Int) ≤ (50 : Int)
    ·
      replace hp := hp.1 h26
      refine sq (o_pv (.bool true) rfl (x_dt (p := (a.length : Int) ≤ (50 : Int)) (by kernel_rfl) h26) ?_)
      refine sq (o_pv (.bool true) rfl (by kernel_rfl) ?_)
      refine sq (o_pv (.slice ab4 b.length cb5) (by kernel_rfl) (by kernel_rfl) ?_)
      refine sq (o_pv (.int .i64 (b.length : Int)) (by kernel_rfl) (by kernel_rfl) ?_)
      by_cases h27 : (b.length : Int) ≤ (50 : Int)
      ·
        replace hp := hp.1 h27
        refine sq (o_pv (.bool true) (by kernel_rfl) (x_dt (p := (b.length : Int) ≤ (50 : Int)) (by kernel_rfl) h27) ?_)
        refine sq (o_pv (.bool true) rfl (by kernel_rfl) ?_)
        refine sq (o_pv (.bool true) rfl (by kernel_rfl) ?_)
        refine sq (o_pv (.slice aa1 a.length ca2) (by kernel_rfl) (by kernel_rfl) ?_)
        refine sq (o_pv (.slice ab4 b.length cb5) (by kernel_rfl) (by kernel_rfl) ?_)
        refine sq (o_call 17 #[(.slice aa1 a.length ca2), (.slice ab4 b.length cb5)] (by kernel_rfl) (x_call Tryd.call17 (by kernel_rfl)) (rectolaw11_Few_w (X := []) (a := a) (b := b) (Old.nil _) (Sl.less ha3 (Sub.nil _)) (Sl.less hb6 (Sub.nil _)) hp) ?_)
        rintro _ w29 ⟨r28, hp, e30, rfl⟩
        have s31 := Step.of0 X e30
        refine sq (o_pv (.bool r28) rfl (by kernel_rfl) ?_)
        refine sq (o_pv (.bool r28) rfl (by kernel_rfl) ?_)
        refine nil_ ?_
        have E32 := (Evo.then0 E0 e30)
        have hXo33 := (Old.step hXo s31)
        have hS34 := (Sub.trans hS (Step.up s31))
        refine then_normal (hJ21 _ _ _ ⟨[(4, (.bool r28))], fit_mk (fun _ _ => rfl) (by kernel_rfl) (vs_cons (by kernel_rfl) vs_nil), ?_⟩)
        exact ⟨X, r28, rfl, E32, hXo33, hS34, hp⟩
      ·
        replace hp := hp.2 h27
        refine sq (o_pv (.bool false) (by kernel_rfl) (x_df (p := (b.length : Int) ≤ (50 : Int)) (by kernel_rfl) h27) ?_)
        refine sq (o_pv (.bool false) rfl (by kernel_rfl) ?_)
        refine sq (o_pv (.bool false) rfl (by kernel_rfl) ?_)
        refine sq (o_not (by kernel_rfl) ?_)
        refine sq (o_not (by kernel_rfl) ?_)
        refine sq (o_not (by kernel_rfl) ?_)
        refine sq (o_pv (.bool false) rfl (by kernel_rfl) ?_)
        refine sq (o_pv (.bool false) rfl (by kernel_rfl) ?_)
        refine nil_ ?_
        refine then_normal (hJ21 _ _ _ ⟨[(4, (.bool false))], fit_mk (fun _ _ => rfl) (by kernel_rfl) (vs_cons (by kernel_rfl) vs_nil), ?_⟩)
        exact ⟨X, false, rfl, E0, hXo, hS, hp⟩
    ·
      replace hp := hp.2 h26
      refine sq (o_pv (.bool false) rfl (x_df (p := (a.length : Int) ≤ (50 : Int)) (by kernel_rfl) h26) ?_)
      refine sq (o_pv (.bool false) rfl (by kernel_rfl) ?_)
      refine sq (o_not (by kernel_rfl) ?_)
      refine sq (o_not (by kernel_rfl) ?_)
      refine sq (o_not (by kernel_rfl) ?_)
      refine sq (o_pv (.bool false) rfl (by kernel_rfl) ?_)
      refine sq (o_pv (.bool false) rfl (by kernel_rfl) ?_)
      refine sq (o_not (by kernel_rfl) ?_)
      refine sq (o_not (by kernel_rfl) ?_)
      refine sq (o_not (by kernel_rfl) ?_)
      refine sq (o_pv (.bool false) rfl (by kernel_rfl) ?_)
      refine sq (o_pv (.bool false) rfl (by kernel_rfl) ?_)
      refine nil_ ?_
      refine then_normal (hJ21 _ _ _ ⟨[(4, (.bool false))], fit_mk (fun _ _ => rfl) (by kernel_rfl) (vs_cons (by kernel_rfl) vs_nil), ?_⟩)
      exact ⟨X, false, rfl, E0, hXo, hS, hp⟩
  ·
    rintro _ w18 g35 ⟨X19, s15, rfl, E23, hXo24, hS25, hv22⟩
    replace hp := hk17 s15 hv22
    refine then_normal (K8 _ _ _ _ ?_)
    refine wp_ret ?_
    refine end_ret hQ (.bool s15) (by kernel_rfl) ?_
    exact ⟨s15, hp, E23, rfl⟩

def rectoref3_At_p (word : ByteArray) (at_ : Int) (e : Int) (Q : S_rectoref3_Wrong → Prop) : Prop :=
  ((word.size ≤ maxLen) → ((inR .i64 at_) → ((inR .i64 e) → Q (S_rectoref3_Wrong.mk ([(S_rectoref3_Part.mk word at_)]) e))))
set_option maxRecDepth 20000 in
set_option maxHeartbeats 4000000 in
theorem rectoref3_At_w {X : List Nat} {w : World} {word : ByteArray} {at_ : Int} {e : Int} {Q : S_rectoref3_Wrong → Prop} (hX0 : Old X w) (zword1 : word.size ≤ maxLen) (rat_2 : inR .i64 at_) (re3 : inR .i64 e) (hp : rectoref3_At_p word at_ e Q) :
    Calls Tryd.prog 34 #[(.string word), (.int .i64 at_), (.int .i64 e)] w (Ret fun v w' => ∃ (r0 : S_rectoref3_Wrong), Q r0 ∧ Evo [] w w' ∧ ∃ (aq0Parts1 : Option Addr) (cq0Parts2 : Nat), v = (.agg #[(.slice aq0Parts1 r0.Parts.length cq0Parts2), (.int .i64 r0.Err)]) ∧ Sl r_rectoref3_Part X w' aq0Parts1 cq0Parts2 r0.Parts ∧ inR .i64 r0.Err) := by
  have hXo := hX0
  have E0 : Evo [] w w := RB.refl _ _ _
  have hS : Sub X X := Sub.refl _
  unfold rectoref3_At_p at hp
  refine enter_ Tryd.func34 rfl 13 [(0, (.string word)), (1, (.int .i64 at_)), (2, (.int .i64 e))] (by kernel_rfl) (fun Qe hQ => ?_)
  replace hp := hp zword1
  replace hp := hp rat_2
  replace hp := hp re3
  refine seq_ (fun _ K4 => ?_)
  refine reg_ ?_
  refine sq (o_newX [(.slice none 0 0), (.int .i64 (0 : Int))] 28 (X := X) (B := w.heap.size) E0.size rfl (by kernel_rfl) ?_)
  intro b5 w6 X7 s8 k9 n10
  refine nil_ ?_
  refine then_normal (K4 _ _ _ _ ?_)
  refine seq_ (fun _ K11 => ?_)
  refine reg_ ?_
  refine sq (o_pv (.string word) rfl (by kernel_rfl) ?_)
  refine sq (o_pv (.int .i64 at_) rfl (by kernel_rfl) ?_)
  refine sq (o_pv (.agg #[(.string word), (.int .i64 at_)]) rfl (by kernel_rfl) ?_)
  have E18 := (Evo.then0 E0 (Step.evo s8))
  refine sq (o_rowX (R := r_rectoref3_Part) [(.string word), (.int .i64 at_)] [(S_rectoref3_Part.mk word at_)] 87 1 (X := X7) (B := w.heap.size) E18.size rfl (by kernel_rfl) (Flat.cons (cs := [(.string word), (.int .i64 at_)]) (r_rectoref3_Part_mk zword1 rat_2) Flat.nil) rfl (by decide) ?_)
  intro b12 w13 X14 s15 O16 n17
  have p19 := n17 _ (OB.old k9)
  refine sq (o_pv (.int .i64 e) rfl (by kernel_rfl) ?_)
  refine sq (o_pv (.agg #[(.slice (some ⟨b12, 0, none⟩) 1 1), (.int .i64 e)]) rfl (by kernel_rfl) ?_)
  have k20 := (OB.step0 k9 s15)
  have E21 := (Evo.then0 E18 (Step.evo s15))
  refine sq (o_stB (o := 0) (v := (.agg #[(.slice (some ⟨b12, 0, none⟩) 1 1), (.int .i64 e)])) [(.slice (some ⟨b12, 0, none⟩) 1 1), (.int .i64 e)] rfl k20 (by kernel_rfl) (by kernel_rfl) Tryd.sizeOf28 rfl rfl rfl ?_)
  intro w22 s23 k24
  refine nil_ ?_
  refine then_normal (K11 _ _ _ _ ?_)
  refine wp_ret ?_
  have O25 := (OS.step O16 s23 (Ap.symm p19))
  have hS26 := (Sub.trans (Sub.trans (Sub.trans hS (Step.up s8)) (Step.up s15)) (Step.up s23))
  have E27 := (Evo.thenW E21 (Step.evo s23) k20.2.2)
  refine end_ret hQ (.agg #[(.slice (some ⟨b12, 0, none⟩) 1 1), (.int .i64 e)]) (rs_single Tryd.results34 (rs_agg [(.slice (some ⟨b12, 0, none⟩) 1 1), (.int .i64 e)] (by kernel_rfl) Tryd.isAgg28 Tryd.sizeOf28 (k24.2.1.cells' 0 rfl))) ?_
  exact ⟨(S_rectoref3_Wrong.mk ([(S_rectoref3_Part.mk word at_)]) e), hp, E27, (some ⟨b12, 0, none⟩), 1, (by (rw [show 1 = ([(S_rectoref3_Part.mk word at_)]).length from O25.1]); first | done | rfl), (OS.out O25 hS26 hX0), re3⟩

end Go.Proofs.YtnnbnljofklieaaDoor
