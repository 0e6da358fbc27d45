/-
  DERIVED: THE SHELF's CONTRACTS AT THIS DUMP, IN PLAIN WORDS (tools/lay-plain.mjs out of 'TryzShelf.lean', which tools/lay-shelf.mjs wrote): THE SAME DECLARATIONS UNDER THE SAME NAMES: 'import', 'namespace', 'open', 'def', 'theorem' AND NOTHING ELSE: no command of the shelf's: FOR A HAND-IN. Each laying: the table of numbers ('.._ren') and one theorem, a field a fact of the dump's own or the kernel's comparison; each contract: ONE APPLICATION.
-/
import Derived.Shelf.Small.Bits
import Derived.Shelf.Utf8.RuneCount
import Derived.Shelf.Strconv.Itoa0
import Derived.Shelf.Strconv.Itoa1
import Derived.Shelf.LaysM
import Derived.Shelf.Strconv.Itoa2
import Derived.Shelf.Strconv.Itoa3
import Derived.Shelf.Strings.Search1
import Derived.Shelf.Strings.Search2
import Derived.Shelf.Strings.Search3
import Derived.Shelf.Strings.Count
import Derived.Shelf.Strings.Shaped
import Derived.Shelf.Strings.Split
import Derived.Shelf.Strings.SplitShaped
import Derived.Shelf.Unicode.Decode
import Derived.Shelf.Strings.RuneCount
import Derived.Shelf.Strings.Explode
import Derived.Shelf.Unicode.DecodeSlow
import Derived.Shelf.Unicode.DecodeAny
import Derived.Ground.SlgnProg
import Derived.Shelf.SlicesE.Clone
import Derived.Test.YtlkfoebophjhfaaGreatDoorProg
namespace Go.Proofs
open Go.Shelf
def Tryz.lays171_ren : Go.Shelf.Ren := ⟨fun | 171 => 79 | 243 => 91 | 246 => 98 | 283 => 113 | 284 => 114 | 285 => 115 | 286 => 116 | 129 => 109 | 317 => 127 | 318 => 128 | 319 => 129 | 320 => 130 | 337 => 137 | 338 => 138 | n => n, fun | 3 => 3 | 9 => 9 | 2 => 2 | 4 => 4 | 171 => 157 | 0 => 0 | 53 => 121 | 37 => 32 | 5 => 5 | 173 => 159 | 212 => 172 | 51 => 153 | 20 => 20 | 213 => 173 | 46 => 122 | 232 => 184 | 233 => 185 | n => n, fun | 17 => 0 | 18 => 4 | 19 => 5 | n => n⟩
theorem Tryz.lays171 : Go.Proofs.Lays.n171 Tryz.prog Tryz.lays171_ren := {
  mixed := by kernel_rfl
  f129 := Tryz.func109.trans (congrArg some (by kernel_rfl))
  f171 := Tryz.func79.trans (congrArg some (by kernel_rfl))
  f243 := Tryz.func91.trans (congrArg some (by kernel_rfl))
  f246 := Tryz.func98.trans (congrArg some (by kernel_rfl))
  f283 := Tryz.func113.trans (congrArg some (by kernel_rfl))
  f284 := Tryz.func114.trans (congrArg some (by kernel_rfl))
  f285 := Tryz.func115.trans (congrArg some (by kernel_rfl))
  f286 := Tryz.func116.trans (congrArg some (by kernel_rfl))
  f317 := Tryz.func127.trans (congrArg some (by kernel_rfl))
  f318 := Tryz.func128.trans (congrArg some (by kernel_rfl))
  f319 := Tryz.func129.trans (congrArg some (by kernel_rfl))
  f320 := Tryz.func130.trans (congrArg some (by kernel_rfl))
  f337 := Tryz.func137.trans (congrArg some (by kernel_rfl))
  f338 := Tryz.func138.trans (congrArg some (by kernel_rfl))
  t0 := Tryz.underlying0
  a0 := Tryz.isAgg0
  z0 := Tryz.sizeOf0
  v0 := Tryz.zeroValue0
  t2 := Tryz.underlying2
  a2 := Tryz.isAgg2
  z2 := Tryz.sizeOf2
  v2 := Tryz.zeroValue2
  t3 := Tryz.underlying3
  a3 := Tryz.isAgg3
  z3 := Tryz.sizeOf3
  v3 := Tryz.zeroValue3
  t4 := Tryz.underlying4
  a4 := Tryz.isAgg4
  z4 := Tryz.sizeOf4
  v4 := Tryz.zeroValue4
  t5 := Tryz.underlying5
  a5 := Tryz.isAgg5
  z5 := Tryz.sizeOf5
  v5 := Tryz.zeroValue5
  t9 := Tryz.underlying9
  a9 := Tryz.isAgg9
  z9 := Tryz.sizeOf9
  v9 := Tryz.zeroValue9
  t20 := Tryz.underlying20
  a20 := Tryz.isAgg20
  z20 := Tryz.sizeOf20
  v20 := Tryz.zeroValue20
  t37 := Tryz.underlying32
  a37 := Tryz.isAgg32
  z37 := Tryz.sizeOf32
  v37 := Tryz.zeroValue32
  t46 := Tryz.underlying122
  a46 := Tryz.isAgg122
  z46 := Tryz.sizeOf122
  v46 := Tryz.zeroValue122
  t51 := Tryz.underlying153
  a51 := Tryz.isAgg153
  z51 := Tryz.sizeOf153
  v51 := Tryz.zeroValue153
  t53 := Tryz.underlying121
  a53 := Tryz.isAgg121
  z53 := Tryz.sizeOf121
  v53 := Tryz.zeroValue121
  t171 := Tryz.underlying157
  a171 := Tryz.isAgg157
  z171 := Tryz.sizeOf157
  v171 := Tryz.zeroValue157
  t173 := Tryz.underlying159
  a173 := Tryz.isAgg159
  z173 := Tryz.sizeOf159
  v173 := Tryz.zeroValue159
  t212 := Tryz.underlying172
  a212 := Tryz.isAgg172
  z212 := Tryz.sizeOf172
  v212 := Tryz.zeroValue172
  t213 := Tryz.underlying173
  a213 := Tryz.isAgg173
  z213 := Tryz.sizeOf173
  t232 := Tryz.underlying184
  a232 := Tryz.isAgg184
  z232 := Tryz.sizeOf184
  v232 := Tryz.zeroValue184
  t233 := Tryz.underlying185
  a233 := Tryz.isAgg185
  z233 := Tryz.sizeOf185
  v233 := Tryz.zeroValue185
  g17 := by kernel_rfl
  g18 := by kernel_rfl
  g19 := by kernel_rfl }
open Go.RowKit Go.Sort Go.Lib in
/-- THE ROAD WITHOUT THE TABLE: 0 <= i < 100: NO PREMISE ON THE WORLD, AND THE WORLD IS AS IT WAS: a row that keeps its argument in that range need list no table ('laid = []'). (LAID: no walk: one application.) -/
theorem Tryz.strconv_Itoa_small (i : Nat) (hi : i < 100) (w : World) :
    Calls Tryz.prog 79 #[.int .i64 i] w fun e w' => e = .returned (.string ⟨(Lib.decDigits i).toArray⟩) ∧ w' = w := Any.strconv_Itoa_small Tryz.lays171 i hi w
def Tryz.lays143_ren : Go.Shelf.Ren := ⟨fun | 143 => 112 | 219 => 126 | 217 => 133 | 225 => 134 | 224 => 135 | 267 => 136 | 266 => 139 | 314 => 140 | n => n, fun | 9 => 9 | 3 => 3 | 4 => 4 | 5 => 5 | 46 => 122 | 146 => 182 | 51 => 153 | n => n, fun | 1 => 1 | n => n⟩
theorem Tryz.lays143 : Go.Proofs.Lays.n143 Tryz.prog Tryz.lays143_ren := {
  mixed := by kernel_rfl
  f143 := Tryz.func112.trans (congrArg some (by kernel_rfl))
  f217 := Tryz.func133.trans (congrArg some (by kernel_rfl))
  f219 := Tryz.func126.trans (congrArg some (by kernel_rfl))
  f224 := Tryz.func135.trans (congrArg some (by kernel_rfl))
  f225 := Tryz.func134.trans (congrArg some (by kernel_rfl))
  f266 := Tryz.func139.trans (congrArg some (by kernel_rfl))
  f267 := Tryz.func136.trans (congrArg some (by kernel_rfl))
  f314 := Tryz.func140.trans (congrArg some (by kernel_rfl))
  t3 := Tryz.underlying3
  a3 := Tryz.isAgg3
  z3 := Tryz.sizeOf3
  v3 := Tryz.zeroValue3
  t4 := Tryz.underlying4
  a4 := Tryz.isAgg4
  z4 := Tryz.sizeOf4
  v4 := Tryz.zeroValue4
  t5 := Tryz.underlying5
  a5 := Tryz.isAgg5
  z5 := Tryz.sizeOf5
  v5 := Tryz.zeroValue5
  t9 := Tryz.underlying9
  a9 := Tryz.isAgg9
  z9 := Tryz.sizeOf9
  v9 := Tryz.zeroValue9
  t46 := Tryz.underlying122
  a46 := Tryz.isAgg122
  z46 := Tryz.sizeOf122
  v46 := Tryz.zeroValue122
  t51 := Tryz.underlying153
  a51 := Tryz.isAgg153
  z51 := Tryz.sizeOf153
  v51 := Tryz.zeroValue153
  t146 := Tryz.underlying182
  a146 := Tryz.isAgg182
  z146 := Tryz.sizeOf182
  v146 := Tryz.zeroValue182
  g1 := by kernel_rfl }
open Go.RowKit Go.Lib in
/-- strings.Index: "Index returns the index of the first instance of substr in s, or -1 if substr is not present in s.": AT A substr OF ONE BYTE c: IT RETURNS 'Lib.indexByte s c'; the world is as it was. (LAID: no walk: one application.) -/
theorem Tryz.strings_Index_one (s : ByteArray) (c : UInt8) (w : World) :
    Calls Tryz.prog 112 #[.string s, .string ⟨#[c]⟩] w fun e w' => e = .returned (.int .i64 (Lib.indexByte s.data.toList c)) ∧ w' = w := Any.strings_Index_one Tryz.lays143 s c w
def Tryz.lays138_ren : Go.Shelf.Ren := ⟨fun | 138 => 111 | 195 => 123 | 218 => 125 | 143 => 112 | 219 => 126 | 217 => 133 | 225 => 134 | 224 => 135 | 267 => 136 | 266 => 139 | 314 => 140 | n => n, fun | 9 => 9 | 3 => 3 | 4 => 4 | 5 => 5 | 0 => 0 | 46 => 122 | 146 => 182 | 51 => 153 | n => n, fun | 1 => 1 | n => n⟩
theorem Tryz.lays138 : Go.Proofs.Lays.n138 Tryz.prog Tryz.lays138_ren := {
  mixed := by kernel_rfl
  f138 := Tryz.func111.trans (congrArg some (by kernel_rfl))
  f143 := Tryz.func112.trans (congrArg some (by kernel_rfl))
  f195 := Tryz.func123.trans (congrArg some (by kernel_rfl))
  f217 := Tryz.func133.trans (congrArg some (by kernel_rfl))
  f218 := Tryz.func125.trans (congrArg some (by kernel_rfl))
  f219 := Tryz.func126.trans (congrArg some (by kernel_rfl))
  f224 := Tryz.func135.trans (congrArg some (by kernel_rfl))
  f225 := Tryz.func134.trans (congrArg some (by kernel_rfl))
  f266 := Tryz.func139.trans (congrArg some (by kernel_rfl))
  f267 := Tryz.func136.trans (congrArg some (by kernel_rfl))
  f314 := Tryz.func140.trans (congrArg some (by kernel_rfl))
  t0 := Tryz.underlying0
  a0 := Tryz.isAgg0
  z0 := Tryz.sizeOf0
  v0 := Tryz.zeroValue0
  t3 := Tryz.underlying3
  a3 := Tryz.isAgg3
  z3 := Tryz.sizeOf3
  v3 := Tryz.zeroValue3
  t4 := Tryz.underlying4
  a4 := Tryz.isAgg4
  z4 := Tryz.sizeOf4
  v4 := Tryz.zeroValue4
  t5 := Tryz.underlying5
  a5 := Tryz.isAgg5
  z5 := Tryz.sizeOf5
  v5 := Tryz.zeroValue5
  t9 := Tryz.underlying9
  a9 := Tryz.isAgg9
  z9 := Tryz.sizeOf9
  v9 := Tryz.zeroValue9
  t46 := Tryz.underlying122
  a46 := Tryz.isAgg122
  z46 := Tryz.sizeOf122
  v46 := Tryz.zeroValue122
  t51 := Tryz.underlying153
  a51 := Tryz.isAgg153
  z51 := Tryz.sizeOf153
  v51 := Tryz.zeroValue153
  t146 := Tryz.underlying182
  a146 := Tryz.isAgg182
  z146 := Tryz.sizeOf182
  v146 := Tryz.zeroValue182
  g1 := by kernel_rfl }
open Go.RowKit Go.Lib in
/-- strings.Count AT A substr OF ONE BYTE ('hp'): "Count counts the number of non-overlapping instances of substr in s.": IT RETURNS 'Lib.countByte s (that byte)'; the world is as it was. ✋ NO CONTRACT HERE YET at an empty substr (utf8.RuneCountInString) or at a longer one (a loop over strings.Index). (LAID: no walk: one application.) -/
theorem Tryz.strings_Count_one (s : ByteArray) (c : UInt8) (w : World) :
    Calls Tryz.prog 111 #[.string s, .string ⟨#[c]⟩] w fun e w' => e = .returned (.int .i64 (Lib.countByte s.data.toList c)) ∧ w' = w := Any.strings_Count_one Tryz.lays138 s c w
def Tryz.lays146_ren : Go.Shelf.Ren := ⟨fun | 146 => 86 | 221 => 95 | 268 => 110 | 138 => 111 | 143 => 112 | 195 => 123 | 197 => 124 | 218 => 125 | 219 => 126 | 260 => 132 | 217 => 133 | 225 => 134 | 224 => 135 | 267 => 136 | 266 => 139 | 314 => 140 | n => n, fun | 9 => 9 | 31 => 65 | 3 => 3 | 4 => 4 | 0 => 0 | 105 => 167 | 21 => 21 | 5 => 5 | 46 => 122 | 119 => 178 | 139 => 181 | 138 => 180 | 146 => 182 | 51 => 153 | n => n, fun | 1 => 1 | 3 => 2 | 4 => 3 | n => n⟩
theorem Tryz.lays146 : Go.Proofs.Lays.n146 Tryz.prog Tryz.lays146_ren := {
  mixed := by kernel_rfl
  f138 := Tryz.func111.trans (congrArg some (by kernel_rfl))
  f143 := Tryz.func112.trans (congrArg some (by kernel_rfl))
  f146 := Tryz.func86.trans (congrArg some (by kernel_rfl))
  f195 := Tryz.func123.trans (congrArg some (by kernel_rfl))
  f197 := Tryz.func124.trans (congrArg some (by kernel_rfl))
  f217 := Tryz.func133.trans (congrArg some (by kernel_rfl))
  f218 := Tryz.func125.trans (congrArg some (by kernel_rfl))
  f219 := Tryz.func126.trans (congrArg some (by kernel_rfl))
  f221 := Tryz.func95.trans (congrArg some (by kernel_rfl))
  f224 := Tryz.func135.trans (congrArg some (by kernel_rfl))
  f225 := Tryz.func134.trans (congrArg some (by kernel_rfl))
  f260 := Tryz.func132.trans (congrArg some (by kernel_rfl))
  f266 := Tryz.func139.trans (congrArg some (by kernel_rfl))
  f267 := Tryz.func136.trans (congrArg some (by kernel_rfl))
  f268 := Tryz.func110.trans (congrArg some (by kernel_rfl))
  f314 := Tryz.func140.trans (congrArg some (by kernel_rfl))
  t0 := Tryz.underlying0
  a0 := Tryz.isAgg0
  z0 := Tryz.sizeOf0
  v0 := Tryz.zeroValue0
  t3 := Tryz.underlying3
  a3 := Tryz.isAgg3
  z3 := Tryz.sizeOf3
  v3 := Tryz.zeroValue3
  t4 := Tryz.underlying4
  a4 := Tryz.isAgg4
  z4 := Tryz.sizeOf4
  v4 := Tryz.zeroValue4
  t5 := Tryz.underlying5
  a5 := Tryz.isAgg5
  z5 := Tryz.sizeOf5
  v5 := Tryz.zeroValue5
  t9 := Tryz.underlying9
  a9 := Tryz.isAgg9
  z9 := Tryz.sizeOf9
  v9 := Tryz.zeroValue9
  t21 := Tryz.underlying21
  a21 := Tryz.isAgg21
  z21 := Tryz.sizeOf21
  v21 := Tryz.zeroValue21
  t31 := Tryz.underlying65
  a31 := Tryz.isAgg65
  z31 := Tryz.sizeOf65
  v31 := Tryz.zeroValue65
  t46 := Tryz.underlying122
  a46 := Tryz.isAgg122
  z46 := Tryz.sizeOf122
  v46 := Tryz.zeroValue122
  t51 := Tryz.underlying153
  a51 := Tryz.isAgg153
  z51 := Tryz.sizeOf153
  v51 := Tryz.zeroValue153
  t105 := Tryz.underlying167
  a105 := Tryz.isAgg167
  z105 := Tryz.sizeOf167
  v105 := Tryz.zeroValue167
  t119 := Tryz.underlying178
  a119 := Tryz.isAgg178
  z119 := Tryz.sizeOf178
  t138 := Tryz.underlying180
  a138 := Tryz.isAgg180
  z138 := Tryz.sizeOf180
  v138 := Tryz.zeroValue180
  t139 := Tryz.underlying181
  a139 := Tryz.isAgg181
  z139 := Tryz.sizeOf181
  v139 := Tryz.zeroValue181
  t146 := Tryz.underlying182
  a146 := Tryz.isAgg182
  z146 := Tryz.sizeOf182
  v146 := Tryz.zeroValue182
  g1 := by kernel_rfl
  g3 := by kernel_rfl
  g4 := by kernel_rfl }
end Go.Proofs
