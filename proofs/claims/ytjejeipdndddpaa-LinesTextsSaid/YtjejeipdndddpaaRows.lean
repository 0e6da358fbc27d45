/-
  No cell of these rows narrows 'for every input' (looked for: loops, veiled, ifaces, maps, wideKeys, modest, calm, conditions, laid).
  DERIVED. THE GIVEN ROWS OF THIS SEAT. 4 by the template 'for every input the law returns true; each argument reads behind the call as it read before'; 0 by the template 'total and deterministic' (their statements: YtjejeipdndddpaaTotals.lean).
  GIVEN WITH THE SEED: the statements are not yours to turn. If you find one false, say at which input.
  Laid BY PROGRAM, IN A SANDBOX (cutbox-rows.mjs): the forced cells as the released guide's own fill.sh prints them over the translation b235a161162b6882… (all of the seat's roots in one cut). By AI agents, Wed Nov 11 2026. No macro, syntax, notation, axiom, sorry.
-/
import Derived.Test.YtjejeipdndddpaaChecked
import GoSem.Claim
import GoSem.ClaimJoined
import GoSem.ClaimMapViews
import Derived.JoinedTies
import Derived.KernelRfl
namespace Go.Proofs.Ytjejeipdndddpaa
/- THE CELL 'sum', in the pinned program and in every row, IS THE sha256 OF THE DUMP (.gsa) THAT YtjejeipdndddpaaProg.lean LOADS. Nothing in Lean hashes anything: it is a label: what it is worth is what the hold of that sum in a sandbox is worth. -/
noncomputable def Try.pinned : Pinned := { name := "ytjejeipdndddpaa", sum := "b235a161162b68829377d9afee6448070c0985f1c5649d545c014317a969b7b7", checked := Try.checked }
namespace Rows
def none {H : Type} : Left H := { results := [], args := [] }

/-- 'rectolaw2.ShaAny': WHATEVER THE INPUT: true; the input reads as it did. -/
def shaAnySpec : ChangeSpec := { name := "shaAny", fn := fun _ => fun
  | [d] => { results := [.lit (.bool true)], args := [d] }
  | _ => none }
def shaAnyRow : OpenClaim := { program := "ytjejeipdndddpaa", sum := "b235a161162b68829377d9afee6448070c0985f1c5649d545c014317a969b7b7", func := "recto/rectolaw2.ShaAny", spec := "shaAny", apart := false }
def ShaAnySaid : Prop := shaAnyRow.holds Try.pinned (OpenSpec.ofChange shaAnySpec)

/-- ITS FALSE NEIGHBOUR: 'it returns false'. Refute it at one input. -/
def shaAnyWrong : ChangeSpec := { name := "shaAny", fn := fun _ => fun
  | [d] => { results := [.lit (.bool false)], args := [d] }
  | _ => none }
def ShaAnyWrongFalsely : Prop := shaAnyRow.holds Try.pinned (OpenSpec.ofChange shaAnyWrong)

/-- 'rectolaw2.ShaShort': WHATEVER THE INPUT: true; the input reads as it did. -/
def shaShortSpec : ChangeSpec := { name := "shaShort", fn := fun _ => fun
  | [d1, d2, d3] => { results := [.lit (.bool true)], args := [d1, d2, d3] }
  | _ => none }
def shaShortRow : OpenClaim := { program := "ytjejeipdndddpaa", sum := "b235a161162b68829377d9afee6448070c0985f1c5649d545c014317a969b7b7", func := "recto/rectolaw2.ShaShort", spec := "shaShort", apart := false }
def ShaShortSaid : Prop := shaShortRow.holds Try.pinned (OpenSpec.ofChange shaShortSpec)

/-- ITS FALSE NEIGHBOUR: 'it returns false'. Refute it at one input. -/
def shaShortWrong : ChangeSpec := { name := "shaShort", fn := fun _ => fun
  | [d1, d2, d3] => { results := [.lit (.bool false)], args := [d1, d2, d3] }
  | _ => none }
def ShaShortWrongFalsely : Prop := shaShortRow.holds Try.pinned (OpenSpec.ofChange shaShortWrong)

/-- 'rectolaw2.ShaAgain': WHATEVER THE INPUT: true; the input reads as it did. -/
def shaAgainSpec : ChangeSpec := { name := "shaAgain", fn := fun _ => fun
  | [d] => { results := [.lit (.bool true)], args := [d] }
  | _ => none }
def shaAgainRow : OpenClaim := { program := "ytjejeipdndddpaa", sum := "b235a161162b68829377d9afee6448070c0985f1c5649d545c014317a969b7b7", func := "recto/rectolaw2.ShaAgain", spec := "shaAgain", apart := false }
def ShaAgainSaid : Prop := shaAgainRow.holds Try.pinned (OpenSpec.ofChange shaAgainSpec)

/-- ITS FALSE NEIGHBOUR: 'it returns false'. Refute it at one input. -/
def shaAgainWrong : ChangeSpec := { name := "shaAgain", fn := fun _ => fun
  | [d] => { results := [.lit (.bool false)], args := [d] }
  | _ => none }
def ShaAgainWrongFalsely : Prop := shaAgainRow.holds Try.pinned (OpenSpec.ofChange shaAgainWrong)

/-- 'rectolaw10.LinesTexts': WHATEVER THE INPUT: true; the input reads as it did. -/
def linesTextsSpec : ChangeSpec := { name := "linesTexts", fn := fun _ => fun
  | [d1, d2] => { results := [.lit (.bool true)], args := [d1, d2] }
  | _ => none }
def linesTextsRow : OpenClaim := { program := "ytjejeipdndddpaa", sum := "b235a161162b68829377d9afee6448070c0985f1c5649d545c014317a969b7b7", func := "recto/rectolaw10.LinesTexts", spec := "linesTexts", inPlace := ["internal/bytealg.IndexByteString", "internal/bytealg.IndexString", "internal/abi.NoEscape", "internal/bytealg.MakeNoZero"], named := ["internal/bytealg.MaxLen"], apart := false }
def LinesTextsSaid : Prop := linesTextsRow.holds Try.pinned (OpenSpec.ofChange linesTextsSpec)

/-- ITS FALSE NEIGHBOUR: 'it returns false'. Refute it at one input. -/
def linesTextsWrong : ChangeSpec := { name := "linesTexts", fn := fun _ => fun
  | [d1, d2] => { results := [.lit (.bool false)], args := [d1, d2] }
  | _ => none }
def LinesTextsWrongFalsely : Prop := linesTextsRow.holds Try.pinned (OpenSpec.ofChange linesTextsWrong)

/- THE SECOND FORM. 'bulk': how many values and letters a reading holds, each counted each time it is reached (what is shared counts as often as it is met; a slice's spare places count too). A statement '..UptoSaid' is the law's where the arguments, and the package variables that the reading takes, are together of bulk at most 1048576: NARROWER than '..Said'. Prove '..Said' where nothing that the law and all that it calls make is longer than what came in: it says more and counts as full. Else prove '..UptoSaid'. A law counts once. -/
mutual
def uptoBulk {H : Type} : DataW H → Nat
  | .lit (.string bytes) => bytes.length + 1
  | .lit _ => 1
  | .nil => 1
  | .ptr d => uptoBulk d + 1
  | .slice elems spare => uptoBulkAll elems + uptoBulkAll spare + 1
  | .agg parts => uptoBulkAll parts + 1
  | .iface _ d => uptoBulk d + 1
  | .map entries => uptoBulkEntries entries + 1
  | .held _ => 1
def uptoBulkAll {H : Type} : List (DataW H) → Nat
  | [] => 0
  | d :: r => uptoBulk d + uptoBulkAll r
def uptoBulkEntries {H : Type} : List (Lit × DataW H) → Nat
  | [] => 0
  | x :: r => uptoBulkEntry x + uptoBulkEntries r
def uptoBulkEntry {H : Type} : Lit × DataW H → Nat
  | (.string bytes, d) => bytes.length + uptoBulk d + 1
  | (_, d) => uptoBulk d + 1
 end
def uptoSmall : (H : Type) → List (DataW H) → Bool := fun _ ds => decide (uptoBulkAll ds ≤ 1048576)
def OpenSpec.upto (s : _root_.Go.ChangeSpec) : _root_.Go.OpenSpec := { _root_.Go.OpenSpec.ofChange s with cond := some uptoSmall }

/-- 'rectolaw2.ShaAny', WHERE WHAT IT READS IS OF BULK AT MOST 1048576: true; the input reads as it did. -/
def shaAnyUptoRow : OpenClaim := { program := "ytjejeipdndddpaa", sum := "b235a161162b68829377d9afee6448070c0985f1c5649d545c014317a969b7b7", func := "recto/rectolaw2.ShaAny", spec := "shaAny", apart := false, narrowed := true }
def ShaAnyUptoSaid : Prop := shaAnyUptoRow.holds Try.pinned (OpenSpec.upto shaAnySpec)

/-- 'rectolaw2.ShaShort', WHERE WHAT IT READS IS OF BULK AT MOST 1048576: true; the input reads as it did. -/
def shaShortUptoRow : OpenClaim := { program := "ytjejeipdndddpaa", sum := "b235a161162b68829377d9afee6448070c0985f1c5649d545c014317a969b7b7", func := "recto/rectolaw2.ShaShort", spec := "shaShort", apart := false, narrowed := true }
def ShaShortUptoSaid : Prop := shaShortUptoRow.holds Try.pinned (OpenSpec.upto shaShortSpec)

/-- 'rectolaw2.ShaAgain', WHERE WHAT IT READS IS OF BULK AT MOST 1048576: true; the input reads as it did. -/
def shaAgainUptoRow : OpenClaim := { program := "ytjejeipdndddpaa", sum := "b235a161162b68829377d9afee6448070c0985f1c5649d545c014317a969b7b7", func := "recto/rectolaw2.ShaAgain", spec := "shaAgain", apart := false, narrowed := true }
def ShaAgainUptoSaid : Prop := shaAgainUptoRow.holds Try.pinned (OpenSpec.upto shaAgainSpec)

/-- 'rectolaw10.LinesTexts', WHERE WHAT IT READS IS OF BULK AT MOST 1048576: true; the input reads as it did. -/
def linesTextsUptoRow : OpenClaim := { program := "ytjejeipdndddpaa", sum := "b235a161162b68829377d9afee6448070c0985f1c5649d545c014317a969b7b7", func := "recto/rectolaw10.LinesTexts", spec := "linesTexts", inPlace := ["internal/bytealg.IndexByteString", "internal/bytealg.IndexString", "internal/abi.NoEscape", "internal/bytealg.MakeNoZero"], named := ["internal/bytealg.MaxLen"], apart := false, narrowed := true }
def LinesTextsUptoSaid : Prop := linesTextsUptoRow.holds Try.pinned (OpenSpec.upto linesTextsSpec)

end Rows
end Go.Proofs.Ytjejeipdndddpaa
