/-
  NARROWER THAN 'FOR EVERY INPUT', by the rows' own cells (each row's printed sentence says how): PathAny: laid · PathTwo: laid · PathFolders: laid · PathParts: laid · PatchAny: laid · PatchMoved: laid · ShelfFull: laid · StatFresh: laid · StatSmudged: laid · StatNever: laid.
  DERIVED. THE GIVEN ROWS OF THIS SEAT. 10 by the template 'for every input the law returns true; each argument reads behind the call as it read before'; 0 by the template 'total and deterministic' (their statements: YtcgfjmfbfildpaaRDoorTotals.lean).
  GIVEN WITH THE SEED: the statements are not yours to turn. If you find one false, say at which input.
  Laid BY PROGRAM, IN A SANDBOX (cutbox-rows.mjs): the forced cells as the released guide's own fill.sh prints them over the translation 3f84c566ae69aa1f… (all of the seat's roots in one cut). By AI agents, Wed Nov 11 2026. No macro, syntax, notation, axiom, sorry.
-/
import Derived.Test.YtcgfjmfbfildpaaRDoorChecked
import GoSem.PinnedTables
import GoSem.Claim
import GoSem.ClaimJoined
import GoSem.ClaimMapViews
import Derived.JoinedTies
import Derived.KernelRfl
namespace Go.Proofs.YtcgfjmfbfildpaaRDoor
/- THE CELL 'sum', in the pinned program and in every row, IS THE sha256 OF THE DUMP (.gsa) THAT YtcgfjmfbfildpaaRDoorProg.lean LOADS. Nothing in Lean hashes anything: it is a label: what it is worth is what the hold of that sum in a sandbox is worth. -/
noncomputable def Tryd.pinned : Pinned := { name := "ytcgfjmfbfildpaardoor", sum := "3f84c566ae69aa1fb0ae007d8279f494b2ebc42e04547f48b79d3e3446ea71fd", checked := Tryd.checked }
namespace Rows
def none {H : Type} : Left H := { results := [], args := [] }

/- WHAT THE LISTED PACKAGE-LEVEL VARIABLES READ AS WHEN THE CALL BEGINS. Each datum BY PROGRAM (the guide's laid-datum.mjs) off the statement by which the dump's own 'gosem.cut.vars' lays the variable. In a bare row this is a premise. The card (YtcgfjmfbfildpaaRDoorCards.lean) ties it to the program's text. -/
def laid_unicode_utf8_acceptRanges {H : Type} : DataW H := .agg [.agg [.lit (.int .u8 128), .lit (.int .u8 191)], .agg [.lit (.int .u8 160), .lit (.int .u8 191)], .agg [.lit (.int .u8 128), .lit (.int .u8 159)], .agg [.lit (.int .u8 144), .lit (.int .u8 191)], .agg [.lit (.int .u8 128), .lit (.int .u8 143)], .agg [.lit (.int .u8 0), .lit (.int .u8 0)], .agg [.lit (.int .u8 0), .lit (.int .u8 0)], .agg [.lit (.int .u8 0), .lit (.int .u8 0)], .agg [.lit (.int .u8 0), .lit (.int .u8 0)], .agg [.lit (.int .u8 0), .lit (.int .u8 0)], .agg [.lit (.int .u8 0), .lit (.int .u8 0)], .agg [.lit (.int .u8 0), .lit (.int .u8 0)], .agg [.lit (.int .u8 0), .lit (.int .u8 0)], .agg [.lit (.int .u8 0), .lit (.int .u8 0)], .agg [.lit (.int .u8 0), .lit (.int .u8 0)], .agg [.lit (.int .u8 0), .lit (.int .u8 0)]]
/-- One of Go's own tables, pinned by name: the form's constant. -/
def laid_unicode_utf8_first : DataW Unit := Go.Pinned.utf8First
def laid_math_bits_deBruijn32tab {H : Type} : DataW H := .agg [.lit (.int .u8 0), .lit (.int .u8 1), .lit (.int .u8 28), .lit (.int .u8 2), .lit (.int .u8 29), .lit (.int .u8 14), .lit (.int .u8 24), .lit (.int .u8 3), .lit (.int .u8 30), .lit (.int .u8 22), .lit (.int .u8 20), .lit (.int .u8 15), .lit (.int .u8 25), .lit (.int .u8 17), .lit (.int .u8 4), .lit (.int .u8 8), .lit (.int .u8 31), .lit (.int .u8 27), .lit (.int .u8 13), .lit (.int .u8 23), .lit (.int .u8 21), .lit (.int .u8 19), .lit (.int .u8 16), .lit (.int .u8 7), .lit (.int .u8 26), .lit (.int .u8 12), .lit (.int .u8 18), .lit (.int .u8 6), .lit (.int .u8 11), .lit (.int .u8 5), .lit (.int .u8 10), .lit (.int .u8 9)]
def laid_math_bits_deBruijn64tab {H : Type} : DataW H := .agg [.lit (.int .u8 0), .lit (.int .u8 1), .lit (.int .u8 56), .lit (.int .u8 2), .lit (.int .u8 57), .lit (.int .u8 49), .lit (.int .u8 28), .lit (.int .u8 3), .lit (.int .u8 61), .lit (.int .u8 58), .lit (.int .u8 42), .lit (.int .u8 50), .lit (.int .u8 38), .lit (.int .u8 29), .lit (.int .u8 17), .lit (.int .u8 4), .lit (.int .u8 62), .lit (.int .u8 47), .lit (.int .u8 59), .lit (.int .u8 36), .lit (.int .u8 45), .lit (.int .u8 43), .lit (.int .u8 51), .lit (.int .u8 22), .lit (.int .u8 53), .lit (.int .u8 39), .lit (.int .u8 33), .lit (.int .u8 30), .lit (.int .u8 24), .lit (.int .u8 18), .lit (.int .u8 12), .lit (.int .u8 5), .lit (.int .u8 63), .lit (.int .u8 55), .lit (.int .u8 48), .lit (.int .u8 27), .lit (.int .u8 60), .lit (.int .u8 41), .lit (.int .u8 37), .lit (.int .u8 16), .lit (.int .u8 46), .lit (.int .u8 35), .lit (.int .u8 44), .lit (.int .u8 21), .lit (.int .u8 52), .lit (.int .u8 32), .lit (.int .u8 23), .lit (.int .u8 11), .lit (.int .u8 54), .lit (.int .u8 26), .lit (.int .u8 40), .lit (.int .u8 15), .lit (.int .u8 34), .lit (.int .u8 20), .lit (.int .u8 31), .lit (.int .u8 10), .lit (.int .u8 25), .lit (.int .u8 14), .lit (.int .u8 19), .lit (.int .u8 9), .lit (.int .u8 13), .lit (.int .u8 8), .lit (.int .u8 7), .lit (.int .u8 6)]
def laid_internal_strconv_uint64pow10 {H : Type} : DataW H := .agg [.lit (.int .u64 1), .lit (.int .u64 10), .lit (.int .u64 100), .lit (.int .u64 1000), .lit (.int .u64 10000), .lit (.int .u64 100000), .lit (.int .u64 1000000), .lit (.int .u64 10000000), .lit (.int .u64 100000000), .lit (.int .u64 1000000000), .lit (.int .u64 10000000000), .lit (.int .u64 100000000000), .lit (.int .u64 1000000000000), .lit (.int .u64 10000000000000), .lit (.int .u64 100000000000000), .lit (.int .u64 1000000000000000), .lit (.int .u64 10000000000000000), .lit (.int .u64 100000000000000000), .lit (.int .u64 1000000000000000000), .lit (.int .u64 10000000000000000000)]

/-- 'rectolaw1.PathAny': WHATEVER THE INPUT: true; the input reads as it did. -/
def pathAnySpec : ChangeSpec := { name := "pathAny", fn := fun _ => fun
  | [d] => { results := [.lit (.bool true)], args := [d] }
  | _ => none }
def pathAnyRow : OpenClaim := { program := "ytcgfjmfbfildpaardoor", sum := "3f84c566ae69aa1fb0ae007d8279f494b2ebc42e04547f48b79d3e3446ea71fd", func := "recto/rectolaw1.PathAny", spec := "pathAny", inPlace := ["internal/bytealg.CountString", "internal/bytealg.IndexByteString", "internal/bytealg.IndexString"], named := ["unicode/utf8.first", "unicode/utf8.acceptRanges", "internal/bytealg.MaxLen"], apart := false, laid := [("unicode/utf8.acceptRanges", laid_unicode_utf8_acceptRanges), ("unicode/utf8.first", laid_unicode_utf8_first)] }
def PathAnySaid : Prop := pathAnyRow.holds Tryd.pinned (OpenSpec.ofChange pathAnySpec)

/-- ITS FALSE NEIGHBOUR: 'it returns false'. Refute it at one input. -/
def pathAnyWrong : ChangeSpec := { name := "pathAny", fn := fun _ => fun
  | [d] => { results := [.lit (.bool false)], args := [d] }
  | _ => none }
def PathAnyWrongFalsely : Prop := pathAnyRow.holds Tryd.pinned (OpenSpec.ofChange pathAnyWrong)

/-- 'rectolaw1.PathTwo': WHATEVER THE INPUT: true; the input reads as it did. -/
def pathTwoSpec : ChangeSpec := { name := "pathTwo", fn := fun _ => fun
  | [d1, d2] => { results := [.lit (.bool true)], args := [d1, d2] }
  | _ => none }
def pathTwoRow : OpenClaim := { program := "ytcgfjmfbfildpaardoor", sum := "3f84c566ae69aa1fb0ae007d8279f494b2ebc42e04547f48b79d3e3446ea71fd", func := "recto/rectolaw1.PathTwo", spec := "pathTwo", inPlace := ["internal/bytealg.CountString", "internal/bytealg.IndexByteString", "internal/bytealg.IndexString"], named := ["unicode/utf8.first", "unicode/utf8.acceptRanges", "internal/bytealg.MaxLen"], apart := false, laid := [("unicode/utf8.acceptRanges", laid_unicode_utf8_acceptRanges), ("unicode/utf8.first", laid_unicode_utf8_first)] }
def PathTwoSaid : Prop := pathTwoRow.holds Tryd.pinned (OpenSpec.ofChange pathTwoSpec)

/-- ITS FALSE NEIGHBOUR: 'it returns false'. Refute it at one input. -/
def pathTwoWrong : ChangeSpec := { name := "pathTwo", fn := fun _ => fun
  | [d1, d2] => { results := [.lit (.bool false)], args := [d1, d2] }
  | _ => none }
def PathTwoWrongFalsely : Prop := pathTwoRow.holds Tryd.pinned (OpenSpec.ofChange pathTwoWrong)

/-- 'rectolaw1.PathFolders': WHATEVER THE INPUT: true; the input reads as it did. -/
def pathFoldersSpec : ChangeSpec := { name := "pathFolders", fn := fun _ => fun
  | [d] => { results := [.lit (.bool true)], args := [d] }
  | _ => none }
def pathFoldersRow : OpenClaim := { program := "ytcgfjmfbfildpaardoor", sum := "3f84c566ae69aa1fb0ae007d8279f494b2ebc42e04547f48b79d3e3446ea71fd", func := "recto/rectolaw1.PathFolders", spec := "pathFolders", inPlace := ["internal/bytealg.CountString", "internal/bytealg.IndexByteString", "internal/bytealg.IndexString"], named := ["unicode/utf8.first", "unicode/utf8.acceptRanges", "internal/bytealg.MaxLen"], apart := false, laid := [("unicode/utf8.acceptRanges", laid_unicode_utf8_acceptRanges), ("unicode/utf8.first", laid_unicode_utf8_first)] }
def PathFoldersSaid : Prop := pathFoldersRow.holds Tryd.pinned (OpenSpec.ofChange pathFoldersSpec)

/-- ITS FALSE NEIGHBOUR: 'it returns false'. Refute it at one input. -/
def pathFoldersWrong : ChangeSpec := { name := "pathFolders", fn := fun _ => fun
  | [d] => { results := [.lit (.bool false)], args := [d] }
  | _ => none }
def PathFoldersWrongFalsely : Prop := pathFoldersRow.holds Tryd.pinned (OpenSpec.ofChange pathFoldersWrong)

/-- 'rectolaw1.PathParts': WHATEVER THE INPUT: true; the input reads as it did. -/
def pathPartsSpec : ChangeSpec := { name := "pathParts", fn := fun _ => fun
  | [d] => { results := [.lit (.bool true)], args := [d] }
  | _ => none }
def pathPartsRow : OpenClaim := { program := "ytcgfjmfbfildpaardoor", sum := "3f84c566ae69aa1fb0ae007d8279f494b2ebc42e04547f48b79d3e3446ea71fd", func := "recto/rectolaw1.PathParts", spec := "pathParts", inPlace := ["internal/bytealg.CountString", "internal/bytealg.IndexByteString", "internal/bytealg.IndexString"], named := ["unicode/utf8.first", "unicode/utf8.acceptRanges", "internal/bytealg.MaxLen"], apart := false, laid := [("unicode/utf8.acceptRanges", laid_unicode_utf8_acceptRanges), ("unicode/utf8.first", laid_unicode_utf8_first)] }
def PathPartsSaid : Prop := pathPartsRow.holds Tryd.pinned (OpenSpec.ofChange pathPartsSpec)

/-- ITS FALSE NEIGHBOUR: 'it returns false'. Refute it at one input. -/
def pathPartsWrong : ChangeSpec := { name := "pathParts", fn := fun _ => fun
  | [d] => { results := [.lit (.bool false)], args := [d] }
  | _ => none }
def PathPartsWrongFalsely : Prop := pathPartsRow.holds Tryd.pinned (OpenSpec.ofChange pathPartsWrong)

/-- 'rectolaw12.PatchAny': WHATEVER THE INPUT: true; the input reads as it did. -/
def patchAnySpec : ChangeSpec := { name := "patchAny", fn := fun _ => fun
  | [d1, d2, d3] => { results := [.lit (.bool true)], args := [d1, d2, d3] }
  | _ => none }
def patchAnyRow : OpenClaim := { program := "ytcgfjmfbfildpaardoor", sum := "3f84c566ae69aa1fb0ae007d8279f494b2ebc42e04547f48b79d3e3446ea71fd", func := "recto/rectolaw12.PatchAny", spec := "patchAny", inPlace := ["internal/abi.NoEscape"], recurses := true, named := ["internal/strconv.uint64pow10", "math/bits.deBruijn32tab", "math/bits.deBruijn64tab"], apart := false, laid := [("math/bits.deBruijn32tab", laid_math_bits_deBruijn32tab), ("math/bits.deBruijn64tab", laid_math_bits_deBruijn64tab), ("internal/strconv.uint64pow10", laid_internal_strconv_uint64pow10)] }
def PatchAnySaid : Prop := patchAnyRow.holds Tryd.pinned (OpenSpec.ofChange patchAnySpec)

/-- ITS FALSE NEIGHBOUR: 'it returns false'. Refute it at one input. -/
def patchAnyWrong : ChangeSpec := { name := "patchAny", fn := fun _ => fun
  | [d1, d2, d3] => { results := [.lit (.bool false)], args := [d1, d2, d3] }
  | _ => none }
def PatchAnyWrongFalsely : Prop := patchAnyRow.holds Tryd.pinned (OpenSpec.ofChange patchAnyWrong)

/-- 'rectolaw12.PatchMoved': WHATEVER THE INPUT: true; the input reads as it did. -/
def patchMovedSpec : ChangeSpec := { name := "patchMoved", fn := fun _ => fun
  | [d1, d2] => { results := [.lit (.bool true)], args := [d1, d2] }
  | _ => none }
def patchMovedRow : OpenClaim := { program := "ytcgfjmfbfildpaardoor", sum := "3f84c566ae69aa1fb0ae007d8279f494b2ebc42e04547f48b79d3e3446ea71fd", func := "recto/rectolaw12.PatchMoved", spec := "patchMoved", inPlace := ["internal/abi.NoEscape"], named := ["internal/strconv.uint64pow10", "math/bits.deBruijn32tab", "math/bits.deBruijn64tab"], apart := false, laid := [("math/bits.deBruijn32tab", laid_math_bits_deBruijn32tab), ("math/bits.deBruijn64tab", laid_math_bits_deBruijn64tab), ("internal/strconv.uint64pow10", laid_internal_strconv_uint64pow10)] }
def PatchMovedSaid : Prop := patchMovedRow.holds Tryd.pinned (OpenSpec.ofChange patchMovedSpec)

/-- ITS FALSE NEIGHBOUR: 'it returns false'. Refute it at one input. -/
def patchMovedWrong : ChangeSpec := { name := "patchMoved", fn := fun _ => fun
  | [d1, d2] => { results := [.lit (.bool false)], args := [d1, d2] }
  | _ => none }
def PatchMovedWrongFalsely : Prop := patchMovedRow.holds Tryd.pinned (OpenSpec.ofChange patchMovedWrong)

/-- 'rectolaw23.ShelfFull': WHATEVER THE INPUT: true; the input reads as it did. -/
def shelfFullSpec : ChangeSpec := { name := "shelfFull", fn := fun _ => fun
  | [d1, d2] => { results := [.lit (.bool true)], args := [d1, d2] }
  | _ => none }
def shelfFullRow : OpenClaim := { program := "ytcgfjmfbfildpaardoor", sum := "3f84c566ae69aa1fb0ae007d8279f494b2ebc42e04547f48b79d3e3446ea71fd", func := "recto/rectolaw23.ShelfFull", spec := "shelfFull", inPlace := ["slices.overlaps[recto/shelf.Shelf]", "internal/abi.NoEscape"], unfollowed := true, recurses := true, named := ["internal/strconv.uint64pow10", "math/bits.deBruijn32tab", "math/bits.deBruijn64tab"], apart := false, laid := [("math/bits.deBruijn32tab", laid_math_bits_deBruijn32tab), ("math/bits.deBruijn64tab", laid_math_bits_deBruijn64tab), ("internal/strconv.uint64pow10", laid_internal_strconv_uint64pow10)] }
def ShelfFullSaid : Prop := shelfFullRow.holds Tryd.pinned (OpenSpec.ofChange shelfFullSpec)

/-- ITS FALSE NEIGHBOUR: 'it returns false'. Refute it at one input. -/
def shelfFullWrong : ChangeSpec := { name := "shelfFull", fn := fun _ => fun
  | [d1, d2] => { results := [.lit (.bool false)], args := [d1, d2] }
  | _ => none }
def ShelfFullWrongFalsely : Prop := shelfFullRow.holds Tryd.pinned (OpenSpec.ofChange shelfFullWrong)

/-- 'rectolaw18.StatFresh': WHATEVER THE INPUT: true; the input reads as it did. -/
def statFreshSpec : ChangeSpec := { name := "statFresh", fn := fun _ => fun
  | [d1, d2, d3] => { results := [.lit (.bool true)], args := [d1, d2, d3] }
  | _ => none }
def statFreshRow : OpenClaim := { program := "ytcgfjmfbfildpaardoor", sum := "3f84c566ae69aa1fb0ae007d8279f494b2ebc42e04547f48b79d3e3446ea71fd", func := "recto/rectolaw18.StatFresh", spec := "statFresh", inPlace := ["internal/bytealg.CountString", "internal/bytealg.IndexByteString", "internal/bytealg.IndexString", "maps.clone"], named := ["unicode/utf8.first", "unicode/utf8.acceptRanges", "internal/bytealg.MaxLen"], apart := false, laid := [("unicode/utf8.acceptRanges", laid_unicode_utf8_acceptRanges), ("unicode/utf8.first", laid_unicode_utf8_first)] }
def StatFreshSaid : Prop := statFreshRow.holds Tryd.pinned (OpenSpec.ofChange statFreshSpec)

/-- ITS FALSE NEIGHBOUR: 'it returns false'. Refute it at one input. -/
def statFreshWrong : ChangeSpec := { name := "statFresh", fn := fun _ => fun
  | [d1, d2, d3] => { results := [.lit (.bool false)], args := [d1, d2, d3] }
  | _ => none }
def StatFreshWrongFalsely : Prop := statFreshRow.holds Tryd.pinned (OpenSpec.ofChange statFreshWrong)

/-- 'rectolaw18.StatSmudged': WHATEVER THE INPUT: true; the input reads as it did. -/
def statSmudgedSpec : ChangeSpec := { name := "statSmudged", fn := fun _ => fun
  | [d1, d2] => { results := [.lit (.bool true)], args := [d1, d2] }
  | _ => none }
def statSmudgedRow : OpenClaim := { program := "ytcgfjmfbfildpaardoor", sum := "3f84c566ae69aa1fb0ae007d8279f494b2ebc42e04547f48b79d3e3446ea71fd", func := "recto/rectolaw18.StatSmudged", spec := "statSmudged", inPlace := ["internal/bytealg.CountString", "internal/bytealg.IndexByteString", "internal/bytealg.IndexString", "maps.clone"], named := ["unicode/utf8.first", "unicode/utf8.acceptRanges", "internal/bytealg.MaxLen"], apart := false, laid := [("unicode/utf8.acceptRanges", laid_unicode_utf8_acceptRanges), ("unicode/utf8.first", laid_unicode_utf8_first)] }
def StatSmudgedSaid : Prop := statSmudgedRow.holds Tryd.pinned (OpenSpec.ofChange statSmudgedSpec)

/-- ITS FALSE NEIGHBOUR: 'it returns false'. Refute it at one input. -/
def statSmudgedWrong : ChangeSpec := { name := "statSmudged", fn := fun _ => fun
  | [d1, d2] => { results := [.lit (.bool false)], args := [d1, d2] }
  | _ => none }
def StatSmudgedWrongFalsely : Prop := statSmudgedRow.holds Tryd.pinned (OpenSpec.ofChange statSmudgedWrong)

/-- 'rectolaw18.StatNever': WHATEVER THE INPUT: true; the input reads as it did. -/
def statNeverSpec : ChangeSpec := { name := "statNever", fn := fun _ => fun
  | [d1, d2, d3, d4] => { results := [.lit (.bool true)], args := [d1, d2, d3, d4] }
  | _ => none }
def statNeverRow : OpenClaim := { program := "ytcgfjmfbfildpaardoor", sum := "3f84c566ae69aa1fb0ae007d8279f494b2ebc42e04547f48b79d3e3446ea71fd", func := "recto/rectolaw18.StatNever", spec := "statNever", inPlace := ["internal/bytealg.CountString", "internal/bytealg.IndexByteString", "internal/bytealg.IndexString", "maps.clone"], named := ["unicode/utf8.first", "unicode/utf8.acceptRanges", "internal/bytealg.MaxLen"], apart := false, laid := [("unicode/utf8.acceptRanges", laid_unicode_utf8_acceptRanges), ("unicode/utf8.first", laid_unicode_utf8_first)] }
def StatNeverSaid : Prop := statNeverRow.holds Tryd.pinned (OpenSpec.ofChange statNeverSpec)

/-- ITS FALSE NEIGHBOUR: 'it returns false'. Refute it at one input. -/
def statNeverWrong : ChangeSpec := { name := "statNever", fn := fun _ => fun
  | [d1, d2, d3, d4] => { results := [.lit (.bool false)], args := [d1, d2, d3, d4] }
  | _ => none }
def StatNeverWrongFalsely : Prop := statNeverRow.holds Tryd.pinned (OpenSpec.ofChange statNeverWrong)

/- THE SECOND FORM. 'bulk': how many values and letters a reading holds, each counted each time it is reached (what is shared counts as often as it is met; a slice's spare places count too). A statement '..UptoSaid' is the law's where the arguments, and the package variables that the reading takes, are together of bulk at most 1048576: NARROWER than '..Said'. Prove '..Said' where nothing that the law and all that it calls make is longer than what came in: it says more and counts as full. Else prove '..UptoSaid'. A law counts once. -/
mutual
def uptoBulk {H : Type} : DataW H → Nat
  | .lit (.string bytes) => bytes.length + 1
  | .lit _ => 1
  | .nil => 1
  | .ptr d => uptoBulk d + 1
  | .slice elems spare => uptoBulkAll elems + uptoBulkAll spare + 1
  | .agg parts => uptoBulkAll parts + 1
  | .iface _ d => uptoBulk d + 1
  | .map entries => uptoBulkEntries entries + 1
  | .held _ => 1
def uptoBulkAll {H : Type} : List (DataW H) → Nat
  | [] => 0
  | d :: r => uptoBulk d + uptoBulkAll r
def uptoBulkEntries {H : Type} : List (Lit × DataW H) → Nat
  | [] => 0
  | x :: r => uptoBulkEntry x + uptoBulkEntries r
def uptoBulkEntry {H : Type} : Lit × DataW H → Nat
  | (.string bytes, d) => bytes.length + uptoBulk d + 1
  | (_, d) => uptoBulk d + 1
 end
def uptoSmall : (H : Type) → List (DataW H) → Bool := fun _ ds => decide (uptoBulkAll ds ≤ 1048576)
def OpenSpec.upto (s : _root_.Go.ChangeSpec) : _root_.Go.OpenSpec := { _root_.Go.OpenSpec.ofChange s with cond := some uptoSmall }

/-- 'rectolaw1.PathAny', WHERE WHAT IT READS IS OF BULK AT MOST 1048576: true; the input reads as it did. -/
def pathAnyUptoRow : OpenClaim := { program := "ytcgfjmfbfildpaardoor", sum := "3f84c566ae69aa1fb0ae007d8279f494b2ebc42e04547f48b79d3e3446ea71fd", func := "recto/rectolaw1.PathAny", spec := "pathAny", inPlace := ["internal/bytealg.CountString", "internal/bytealg.IndexByteString", "internal/bytealg.IndexString"], named := ["unicode/utf8.first", "unicode/utf8.acceptRanges", "internal/bytealg.MaxLen"], apart := false, laid := [("unicode/utf8.acceptRanges", laid_unicode_utf8_acceptRanges), ("unicode/utf8.first", laid_unicode_utf8_first)], narrowed := true }
def PathAnyUptoSaid : Prop := pathAnyUptoRow.holds Tryd.pinned (OpenSpec.upto pathAnySpec)

/-- 'rectolaw1.PathTwo', WHERE WHAT IT READS IS OF BULK AT MOST 1048576: true; the input reads as it did. -/
def pathTwoUptoRow : OpenClaim := { program := "ytcgfjmfbfildpaardoor", sum := "3f84c566ae69aa1fb0ae007d8279f494b2ebc42e04547f48b79d3e3446ea71fd", func := "recto/rectolaw1.PathTwo", spec := "pathTwo", inPlace := ["internal/bytealg.CountString", "internal/bytealg.IndexByteString", "internal/bytealg.IndexString"], named := ["unicode/utf8.first", "unicode/utf8.acceptRanges", "internal/bytealg.MaxLen"], apart := false, laid := [("unicode/utf8.acceptRanges", laid_unicode_utf8_acceptRanges), ("unicode/utf8.first", laid_unicode_utf8_first)], narrowed := true }
def PathTwoUptoSaid : Prop := pathTwoUptoRow.holds Tryd.pinned (OpenSpec.upto pathTwoSpec)

/-- 'rectolaw1.PathFolders', WHERE WHAT IT READS IS OF BULK AT MOST 1048576: true; the input reads as it did. -/
def pathFoldersUptoRow : OpenClaim := { program := "ytcgfjmfbfildpaardoor", sum := "3f84c566ae69aa1fb0ae007d8279f494b2ebc42e04547f48b79d3e3446ea71fd", func := "recto/rectolaw1.PathFolders", spec := "pathFolders", inPlace := ["internal/bytealg.CountString", "internal/bytealg.IndexByteString", "internal/bytealg.IndexString"], named := ["unicode/utf8.first", "unicode/utf8.acceptRanges", "internal/bytealg.MaxLen"], apart := false, laid := [("unicode/utf8.acceptRanges", laid_unicode_utf8_acceptRanges), ("unicode/utf8.first", laid_unicode_utf8_first)], narrowed := true }
def PathFoldersUptoSaid : Prop := pathFoldersUptoRow.holds Tryd.pinned (OpenSpec.upto pathFoldersSpec)

/-- 'rectolaw1.PathParts', WHERE WHAT IT READS IS OF BULK AT MOST 1048576: true; the input reads as it did. -/
def pathPartsUptoRow : OpenClaim := { program := "ytcgfjmfbfildpaardoor", sum := "3f84c566ae69aa1fb0ae007d8279f494b2ebc42e04547f48b79d3e3446ea71fd", func := "recto/rectolaw1.PathParts", spec := "pathParts", inPlace := ["internal/bytealg.CountString", "internal/bytealg.IndexByteString", "internal/bytealg.IndexString"], named := ["unicode/utf8.first", "unicode/utf8.acceptRanges", "internal/bytealg.MaxLen"], apart := false, laid := [("unicode/utf8.acceptRanges", laid_unicode_utf8_acceptRanges), ("unicode/utf8.first", laid_unicode_utf8_first)], narrowed := true }
def PathPartsUptoSaid : Prop := pathPartsUptoRow.holds Tryd.pinned (OpenSpec.upto pathPartsSpec)

/-- 'rectolaw12.PatchAny', WHERE WHAT IT READS IS OF BULK AT MOST 1048576: true; the input reads as it did. -/
def patchAnyUptoRow : OpenClaim := { program := "ytcgfjmfbfildpaardoor", sum := "3f84c566ae69aa1fb0ae007d8279f494b2ebc42e04547f48b79d3e3446ea71fd", func := "recto/rectolaw12.PatchAny", spec := "patchAny", inPlace := ["internal/abi.NoEscape"], recurses := true, named := ["internal/strconv.uint64pow10", "math/bits.deBruijn32tab", "math/bits.deBruijn64tab"], apart := false, laid := [("math/bits.deBruijn32tab", laid_math_bits_deBruijn32tab), ("math/bits.deBruijn64tab", laid_math_bits_deBruijn64tab), ("internal/strconv.uint64pow10", laid_internal_strconv_uint64pow10)], narrowed := true }
def PatchAnyUptoSaid : Prop := patchAnyUptoRow.holds Tryd.pinned (OpenSpec.upto patchAnySpec)

/-- 'rectolaw12.PatchMoved', WHERE WHAT IT READS IS OF BULK AT MOST 1048576: true; the input reads as it did. -/
def patchMovedUptoRow : OpenClaim := { program := "ytcgfjmfbfildpaardoor", sum := "3f84c566ae69aa1fb0ae007d8279f494b2ebc42e04547f48b79d3e3446ea71fd", func := "recto/rectolaw12.PatchMoved", spec := "patchMoved", inPlace := ["internal/abi.NoEscape"], named := ["internal/strconv.uint64pow10", "math/bits.deBruijn32tab", "math/bits.deBruijn64tab"], apart := false, laid := [("math/bits.deBruijn32tab", laid_math_bits_deBruijn32tab), ("math/bits.deBruijn64tab", laid_math_bits_deBruijn64tab), ("internal/strconv.uint64pow10", laid_internal_strconv_uint64pow10)], narrowed := true }
def PatchMovedUptoSaid : Prop := patchMovedUptoRow.holds Tryd.pinned (OpenSpec.upto patchMovedSpec)

/-- 'rectolaw23.ShelfFull', WHERE WHAT IT READS IS OF BULK AT MOST 1048576: true; the input reads as it did. -/
def shelfFullUptoRow : OpenClaim := { program := "ytcgfjmfbfildpaardoor", sum := "3f84c566ae69aa1fb0ae007d8279f494b2ebc42e04547f48b79d3e3446ea71fd", func := "recto/rectolaw23.ShelfFull", spec := "shelfFull", inPlace := ["slices.overlaps[recto/shelf.Shelf]", "internal/abi.NoEscape"], unfollowed := true, recurses := true, named := ["internal/strconv.uint64pow10", "math/bits.deBruijn32tab", "math/bits.deBruijn64tab"], apart := false, laid := [("math/bits.deBruijn32tab", laid_math_bits_deBruijn32tab), ("math/bits.deBruijn64tab", laid_math_bits_deBruijn64tab), ("internal/strconv.uint64pow10", laid_internal_strconv_uint64pow10)], narrowed := true }
def ShelfFullUptoSaid : Prop := shelfFullUptoRow.holds Tryd.pinned (OpenSpec.upto shelfFullSpec)

/-- 'rectolaw18.StatFresh', WHERE WHAT IT READS IS OF BULK AT MOST 1048576: true; the input reads as it did. -/
def statFreshUptoRow : OpenClaim := { program := "ytcgfjmfbfildpaardoor", sum := "3f84c566ae69aa1fb0ae007d8279f494b2ebc42e04547f48b79d3e3446ea71fd", func := "recto/rectolaw18.StatFresh", spec := "statFresh", inPlace := ["internal/bytealg.CountString", "internal/bytealg.IndexByteString", "internal/bytealg.IndexString", "maps.clone"], named := ["unicode/utf8.first", "unicode/utf8.acceptRanges", "internal/bytealg.MaxLen"], apart := false, laid := [("unicode/utf8.acceptRanges", laid_unicode_utf8_acceptRanges), ("unicode/utf8.first", laid_unicode_utf8_first)], narrowed := true }
def StatFreshUptoSaid : Prop := statFreshUptoRow.holds Tryd.pinned (OpenSpec.upto statFreshSpec)

/-- 'rectolaw18.StatSmudged', WHERE WHAT IT READS IS OF BULK AT MOST 1048576: true; the input reads as it did. -/
def statSmudgedUptoRow : OpenClaim := { program := "ytcgfjmfbfildpaardoor", sum := "3f84c566ae69aa1fb0ae007d8279f494b2ebc42e04547f48b79d3e3446ea71fd", func := "recto/rectolaw18.StatSmudged", spec := "statSmudged", inPlace := ["internal/bytealg.CountString", "internal/bytealg.IndexByteString", "internal/bytealg.IndexString", "maps.clone"], named := ["unicode/utf8.first", "unicode/utf8.acceptRanges", "internal/bytealg.MaxLen"], apart := false, laid := [("unicode/utf8.acceptRanges", laid_unicode_utf8_acceptRanges), ("unicode/utf8.first", laid_unicode_utf8_first)], narrowed := true }
def StatSmudgedUptoSaid : Prop := statSmudgedUptoRow.holds Tryd.pinned (OpenSpec.upto statSmudgedSpec)

/-- 'rectolaw18.StatNever', WHERE WHAT IT READS IS OF BULK AT MOST 1048576: true; the input reads as it did. -/
def statNeverUptoRow : OpenClaim := { program := "ytcgfjmfbfildpaardoor", sum := "3f84c566ae69aa1fb0ae007d8279f494b2ebc42e04547f48b79d3e3446ea71fd", func := "recto/rectolaw18.StatNever", spec := "statNever", inPlace := ["internal/bytealg.CountString", "internal/bytealg.IndexByteString", "internal/bytealg.IndexString", "maps.clone"], named := ["unicode/utf8.first", "unicode/utf8.acceptRanges", "internal/bytealg.MaxLen"], apart := false, laid := [("unicode/utf8.acceptRanges", laid_unicode_utf8_acceptRanges), ("unicode/utf8.first", laid_unicode_utf8_first)], narrowed := true }
def StatNeverUptoSaid : Prop := statNeverUptoRow.holds Tryd.pinned (OpenSpec.upto statNeverSpec)

end Rows
end Go.Proofs.YtcgfjmfbfildpaaRDoor
