/-
  No cell of these rows narrows 'for every input' (looked for: loops, veiled, ifaces, maps, wideKeys, modest, calm, conditions, laid).
  DERIVED. THE GIVEN ROWS OF THIS SEAT. 12 by the template 'for every input the law returns true; each argument reads behind the call as it read before'; 0 by the template 'total and deterministic' (their statements: YtmepomdpjlbaaaaTotals.lean).
  GIVEN WITH THE SEED: the statements are not yours to turn. If you find one false, say at which input.
  Laid BY PROGRAM, IN A SANDBOX (cutbox-rows.mjs): the forced cells as the released guide's own fill.sh prints them over the translation 85743566010680d1… (all of the seat's roots in one cut). By AI agents, Wed Nov 11 2026. No macro, syntax, notation, axiom, sorry.
-/
import Derived.Test.YtmepomdpjlbaaaaChecked
import GoSem.Claim
import GoSem.ClaimJoined
import GoSem.ClaimMapViews
import Derived.JoinedTies
import Derived.KernelRfl
namespace Go.Proofs.Ytmepomdpjlbaaaa
/- THE CELL 'sum', in the pinned program and in every row, IS THE sha256 OF THE DUMP (.gsa) THAT YtmepomdpjlbaaaaProg.lean LOADS. Nothing in Lean hashes anything: it is a label: what it is worth is what the hold of that sum in a sandbox is worth. -/
noncomputable def Try.pinned : Pinned := { name := "ytmepomdpjlbaaaa", sum := "85743566010680d14591a91466599a500972506461dfee3ab1bc94f19dd6c29f", checked := Try.checked }
namespace Rows
def none {H : Type} : Left H := { results := [], args := [] }

/-- 'rectolaw3.CodeBack': WHATEVER THE INPUT: true; the input reads as it did. -/
def codeBackSpec : ChangeSpec := { name := "codeBack", fn := fun _ => fun
  | [d] => { results := [.lit (.bool true)], args := [d] }
  | _ => none }
def codeBackRow : OpenClaim := { program := "ytmepomdpjlbaaaa", sum := "85743566010680d14591a91466599a500972506461dfee3ab1bc94f19dd6c29f", func := "recto/rectolaw3.CodeBack", spec := "codeBack", apart := false }
def CodeBackSaid : Prop := codeBackRow.holds Try.pinned (OpenSpec.ofChange codeBackSpec)

/-- ITS FALSE NEIGHBOUR: 'it returns false'. Refute it at one input. -/
def codeBackWrong : ChangeSpec := { name := "codeBack", fn := fun _ => fun
  | [d] => { results := [.lit (.bool false)], args := [d] }
  | _ => none }
def CodeBackWrongFalsely : Prop := codeBackRow.holds Try.pinned (OpenSpec.ofChange codeBackWrong)

/-- 'rectolaw11.DiffDone': WHATEVER THE INPUT: true; the input reads as it did. -/
def diffDoneSpec : ChangeSpec := { name := "diffDone", fn := fun _ => fun
  | [d1, d2] => { results := [.lit (.bool true)], args := [d1, d2] }
  | _ => none }
def diffDoneRow : OpenClaim := { program := "ytmepomdpjlbaaaa", sum := "85743566010680d14591a91466599a500972506461dfee3ab1bc94f19dd6c29f", func := "recto/rectolaw11.DiffDone", spec := "diffDone", apart := false }
def DiffDoneSaid : Prop := diffDoneRow.holds Try.pinned (OpenSpec.ofChange diffDoneSpec)

/-- ITS FALSE NEIGHBOUR: 'it returns false'. Refute it at one input. -/
def diffDoneWrong : ChangeSpec := { name := "diffDone", fn := fun _ => fun
  | [d1, d2] => { results := [.lit (.bool false)], args := [d1, d2] }
  | _ => none }
def DiffDoneWrongFalsely : Prop := diffDoneRow.holds Try.pinned (OpenSpec.ofChange diffDoneWrong)

/-- 'rectolaw11.DiffLeast': WHATEVER THE INPUT: true; the input reads as it did. -/
def diffLeastSpec : ChangeSpec := { name := "diffLeast", fn := fun _ => fun
  | [d1, d2, d3] => { results := [.lit (.bool true)], args := [d1, d2, d3] }
  | _ => none }
def diffLeastRow : OpenClaim := { program := "ytmepomdpjlbaaaa", sum := "85743566010680d14591a91466599a500972506461dfee3ab1bc94f19dd6c29f", func := "recto/rectolaw11.DiffLeast", spec := "diffLeast", apart := false }
def DiffLeastSaid : Prop := diffLeastRow.holds Try.pinned (OpenSpec.ofChange diffLeastSpec)

/-- ITS FALSE NEIGHBOUR: 'it returns false'. Refute it at one input. -/
def diffLeastWrong : ChangeSpec := { name := "diffLeast", fn := fun _ => fun
  | [d1, d2, d3] => { results := [.lit (.bool false)], args := [d1, d2, d3] }
  | _ => none }
def DiffLeastWrongFalsely : Prop := diffLeastRow.holds Try.pinned (OpenSpec.ofChange diffLeastWrong)

/-- 'rectolaw11.DiffTurned': WHATEVER THE INPUT: true; the input reads as it did. -/
def diffTurnedSpec : ChangeSpec := { name := "diffTurned", fn := fun _ => fun
  | [d1, d2] => { results := [.lit (.bool true)], args := [d1, d2] }
  | _ => none }
def diffTurnedRow : OpenClaim := { program := "ytmepomdpjlbaaaa", sum := "85743566010680d14591a91466599a500972506461dfee3ab1bc94f19dd6c29f", func := "recto/rectolaw11.DiffTurned", spec := "diffTurned", apart := false }
def DiffTurnedSaid : Prop := diffTurnedRow.holds Try.pinned (OpenSpec.ofChange diffTurnedSpec)

/-- ITS FALSE NEIGHBOUR: 'it returns false'. Refute it at one input. -/
def diffTurnedWrong : ChangeSpec := { name := "diffTurned", fn := fun _ => fun
  | [d1, d2] => { results := [.lit (.bool false)], args := [d1, d2] }
  | _ => none }
def DiffTurnedWrongFalsely : Prop := diffTurnedRow.holds Try.pinned (OpenSpec.ofChange diffTurnedWrong)

/-- 'rectolaw17.GraphAny': WHATEVER THE INPUT: true; the input reads as it did. -/
def graphAnySpec : ChangeSpec := { name := "graphAny", fn := fun _ => fun
  | [d1, d2, d3] => { results := [.lit (.bool true)], args := [d1, d2, d3] }
  | _ => none }
def graphAnyRow : OpenClaim := { program := "ytmepomdpjlbaaaa", sum := "85743566010680d14591a91466599a500972506461dfee3ab1bc94f19dd6c29f", func := "recto/rectolaw17.GraphAny", spec := "graphAny", unfollowed := true, recurses := true, apart := false }
def GraphAnySaid : Prop := graphAnyRow.holds Try.pinned (OpenSpec.ofChange graphAnySpec)

/-- ITS FALSE NEIGHBOUR: 'it returns false'. Refute it at one input. -/
def graphAnyWrong : ChangeSpec := { name := "graphAny", fn := fun _ => fun
  | [d1, d2, d3] => { results := [.lit (.bool false)], args := [d1, d2, d3] }
  | _ => none }
def GraphAnyWrongFalsely : Prop := graphAnyRow.holds Try.pinned (OpenSpec.ofChange graphAnyWrong)

/-- 'rectolaw17.GraphBases': WHATEVER THE INPUT: true; the input reads as it did. -/
def graphBasesSpec : ChangeSpec := { name := "graphBases", fn := fun _ => fun
  | [d1, d2, d3] => { results := [.lit (.bool true)], args := [d1, d2, d3] }
  | _ => none }
def graphBasesRow : OpenClaim := { program := "ytmepomdpjlbaaaa", sum := "85743566010680d14591a91466599a500972506461dfee3ab1bc94f19dd6c29f", func := "recto/rectolaw17.GraphBases", spec := "graphBases", unfollowed := true, recurses := true, apart := false }
def GraphBasesSaid : Prop := graphBasesRow.holds Try.pinned (OpenSpec.ofChange graphBasesSpec)

/-- ITS FALSE NEIGHBOUR: 'it returns false'. Refute it at one input. -/
def graphBasesWrong : ChangeSpec := { name := "graphBases", fn := fun _ => fun
  | [d1, d2, d3] => { results := [.lit (.bool false)], args := [d1, d2, d3] }
  | _ => none }
def GraphBasesWrongFalsely : Prop := graphBasesRow.holds Try.pinned (OpenSpec.ofChange graphBasesWrong)

/-- 'rectolaw17.GraphChains': WHATEVER THE INPUT: true; the input reads as it did. -/
def graphChainsSpec : ChangeSpec := { name := "graphChains", fn := fun _ => fun
  | [d1, d2, d3] => { results := [.lit (.bool true)], args := [d1, d2, d3] }
  | _ => none }
def graphChainsRow : OpenClaim := { program := "ytmepomdpjlbaaaa", sum := "85743566010680d14591a91466599a500972506461dfee3ab1bc94f19dd6c29f", func := "recto/rectolaw17.GraphChains", spec := "graphChains", unfollowed := true, recurses := true, apart := false }
def GraphChainsSaid : Prop := graphChainsRow.holds Try.pinned (OpenSpec.ofChange graphChainsSpec)

/-- ITS FALSE NEIGHBOUR: 'it returns false'. Refute it at one input. -/
def graphChainsWrong : ChangeSpec := { name := "graphChains", fn := fun _ => fun
  | [d1, d2, d3] => { results := [.lit (.bool false)], args := [d1, d2, d3] }
  | _ => none }
def GraphChainsWrongFalsely : Prop := graphChainsRow.holds Try.pinned (OpenSpec.ofChange graphChainsWrong)

/-- 'rectolaw2.ShaAny': WHATEVER THE INPUT: true; the input reads as it did. -/
def shaAnySpec : ChangeSpec := { name := "shaAny", fn := fun _ => fun
  | [d] => { results := [.lit (.bool true)], args := [d] }
  | _ => none }
def shaAnyRow : OpenClaim := { program := "ytmepomdpjlbaaaa", sum := "85743566010680d14591a91466599a500972506461dfee3ab1bc94f19dd6c29f", func := "recto/rectolaw2.ShaAny", spec := "shaAny", apart := false }
def ShaAnySaid : Prop := shaAnyRow.holds Try.pinned (OpenSpec.ofChange shaAnySpec)

/-- ITS FALSE NEIGHBOUR: 'it returns false'. Refute it at one input. -/
def shaAnyWrong : ChangeSpec := { name := "shaAny", fn := fun _ => fun
  | [d] => { results := [.lit (.bool false)], args := [d] }
  | _ => none }
def ShaAnyWrongFalsely : Prop := shaAnyRow.holds Try.pinned (OpenSpec.ofChange shaAnyWrong)

/-- 'rectolaw2.ShaShort': WHATEVER THE INPUT: true; the input reads as it did. -/
def shaShortSpec : ChangeSpec := { name := "shaShort", fn := fun _ => fun
  | [d1, d2, d3] => { results := [.lit (.bool true)], args := [d1, d2, d3] }
  | _ => none }
def shaShortRow : OpenClaim := { program := "ytmepomdpjlbaaaa", sum := "85743566010680d14591a91466599a500972506461dfee3ab1bc94f19dd6c29f", func := "recto/rectolaw2.ShaShort", spec := "shaShort", apart := false }
def ShaShortSaid : Prop := shaShortRow.holds Try.pinned (OpenSpec.ofChange shaShortSpec)

/-- ITS FALSE NEIGHBOUR: 'it returns false'. Refute it at one input. -/
def shaShortWrong : ChangeSpec := { name := "shaShort", fn := fun _ => fun
  | [d1, d2, d3] => { results := [.lit (.bool false)], args := [d1, d2, d3] }
  | _ => none }
def ShaShortWrongFalsely : Prop := shaShortRow.holds Try.pinned (OpenSpec.ofChange shaShortWrong)

/-- 'rectolaw2.ShaAgain': WHATEVER THE INPUT: true; the input reads as it did. -/
def shaAgainSpec : ChangeSpec := { name := "shaAgain", fn := fun _ => fun
  | [d] => { results := [.lit (.bool true)], args := [d] }
  | _ => none }
def shaAgainRow : OpenClaim := { program := "ytmepomdpjlbaaaa", sum := "85743566010680d14591a91466599a500972506461dfee3ab1bc94f19dd6c29f", func := "recto/rectolaw2.ShaAgain", spec := "shaAgain", apart := false }
def ShaAgainSaid : Prop := shaAgainRow.holds Try.pinned (OpenSpec.ofChange shaAgainSpec)

/-- ITS FALSE NEIGHBOUR: 'it returns false'. Refute it at one input. -/
def shaAgainWrong : ChangeSpec := { name := "shaAgain", fn := fun _ => fun
  | [d] => { results := [.lit (.bool false)], args := [d] }
  | _ => none }
def ShaAgainWrongFalsely : Prop := shaAgainRow.holds Try.pinned (OpenSpec.ofChange shaAgainWrong)

/-- 'rectolaw10.LinesAny': WHATEVER THE INPUT: true; the input reads as it did. -/
def linesAnySpec : ChangeSpec := { name := "linesAny", fn := fun _ => fun
  | [d] => { results := [.lit (.bool true)], args := [d] }
  | _ => none }
def linesAnyRow : OpenClaim := { program := "ytmepomdpjlbaaaa", sum := "85743566010680d14591a91466599a500972506461dfee3ab1bc94f19dd6c29f", func := "recto/rectolaw10.LinesAny", spec := "linesAny", inPlace := ["internal/bytealg.IndexByteString", "internal/bytealg.IndexString", "internal/abi.NoEscape", "internal/bytealg.MakeNoZero"], named := ["internal/bytealg.MaxLen"], apart := false }
def LinesAnySaid : Prop := linesAnyRow.holds Try.pinned (OpenSpec.ofChange linesAnySpec)

/-- ITS FALSE NEIGHBOUR: 'it returns false'. Refute it at one input. -/
def linesAnyWrong : ChangeSpec := { name := "linesAny", fn := fun _ => fun
  | [d] => { results := [.lit (.bool false)], args := [d] }
  | _ => none }
def LinesAnyWrongFalsely : Prop := linesAnyRow.holds Try.pinned (OpenSpec.ofChange linesAnyWrong)

/-- 'rectolaw10.LinesTwo': WHATEVER THE INPUT: true; the input reads as it did. -/
def linesTwoSpec : ChangeSpec := { name := "linesTwo", fn := fun _ => fun
  | [d1, d2] => { results := [.lit (.bool true)], args := [d1, d2] }
  | _ => none }
def linesTwoRow : OpenClaim := { program := "ytmepomdpjlbaaaa", sum := "85743566010680d14591a91466599a500972506461dfee3ab1bc94f19dd6c29f", func := "recto/rectolaw10.LinesTwo", spec := "linesTwo", inPlace := ["internal/bytealg.IndexByteString", "internal/bytealg.IndexString", "internal/abi.NoEscape", "internal/bytealg.MakeNoZero"], named := ["internal/bytealg.MaxLen"], apart := false }
def LinesTwoSaid : Prop := linesTwoRow.holds Try.pinned (OpenSpec.ofChange linesTwoSpec)

/-- ITS FALSE NEIGHBOUR: 'it returns false'. Refute it at one input. -/
def linesTwoWrong : ChangeSpec := { name := "linesTwo", fn := fun _ => fun
  | [d1, d2] => { results := [.lit (.bool false)], args := [d1, d2] }
  | _ => none }
def LinesTwoWrongFalsely : Prop := linesTwoRow.holds Try.pinned (OpenSpec.ofChange linesTwoWrong)

/- THE SECOND FORM. 'bulk': how many values and letters a reading holds, each counted each time it is reached (what is shared counts as often as it is met; a slice's spare places count too). A statement '..UptoSaid' is the law's where the arguments, and the package variables that the reading takes, are together of bulk at most 1048576: NARROWER than '..Said'. Prove '..Said' where nothing that the law and all that it calls make is longer than what came in: it says more and counts as full. Else prove '..UptoSaid'. A law counts once. -/
mutual
def uptoBulk {H : Type} : DataW H → Nat
  | .lit (.string bytes) => bytes.length + 1
  | .lit _ => 1
  | .nil => 1
  | .ptr d => uptoBulk d + 1
  | .slice elems spare => uptoBulkAll elems + uptoBulkAll spare + 1
  | .agg parts => uptoBulkAll parts + 1
  | .iface _ d => uptoBulk d + 1
  | .map entries => uptoBulkEntries entries + 1
  | .held _ => 1
def uptoBulkAll {H : Type} : List (DataW H) → Nat
  | [] => 0
  | d :: r => uptoBulk d + uptoBulkAll r
def uptoBulkEntries {H : Type} : List (Lit × DataW H) → Nat
  | [] => 0
  | x :: r => uptoBulkEntry x + uptoBulkEntries r
def uptoBulkEntry {H : Type} : Lit × DataW H → Nat
  | (.string bytes, d) => bytes.length + uptoBulk d + 1
  | (_, d) => uptoBulk d + 1
 end
def uptoSmall : (H : Type) → List (DataW H) → Bool := fun _ ds => decide (uptoBulkAll ds ≤ 1048576)
def OpenSpec.upto (s : _root_.Go.ChangeSpec) : _root_.Go.OpenSpec := { _root_.Go.OpenSpec.ofChange s with cond := some uptoSmall }

/-- 'rectolaw3.CodeBack', WHERE WHAT IT READS IS OF BULK AT MOST 1048576: true; the input reads as it did. -/
def codeBackUptoRow : OpenClaim := { program := "ytmepomdpjlbaaaa", sum := "85743566010680d14591a91466599a500972506461dfee3ab1bc94f19dd6c29f", func := "recto/rectolaw3.CodeBack", spec := "codeBack", apart := false, narrowed := true }
def CodeBackUptoSaid : Prop := codeBackUptoRow.holds Try.pinned (OpenSpec.upto codeBackSpec)

/-- 'rectolaw11.DiffDone', WHERE WHAT IT READS IS OF BULK AT MOST 1048576: true; the input reads as it did. -/
def diffDoneUptoRow : OpenClaim := { program := "ytmepomdpjlbaaaa", sum := "85743566010680d14591a91466599a500972506461dfee3ab1bc94f19dd6c29f", func := "recto/rectolaw11.DiffDone", spec := "diffDone", apart := false, narrowed := true }
def DiffDoneUptoSaid : Prop := diffDoneUptoRow.holds Try.pinned (OpenSpec.upto diffDoneSpec)

/-- 'rectolaw11.DiffLeast', WHERE WHAT IT READS IS OF BULK AT MOST 1048576: true; the input reads as it did. -/
def diffLeastUptoRow : OpenClaim := { program := "ytmepomdpjlbaaaa", sum := "85743566010680d14591a91466599a500972506461dfee3ab1bc94f19dd6c29f", func := "recto/rectolaw11.DiffLeast", spec := "diffLeast", apart := false, narrowed := true }
def DiffLeastUptoSaid : Prop := diffLeastUptoRow.holds Try.pinned (OpenSpec.upto diffLeastSpec)

/-- 'rectolaw11.DiffTurned', WHERE WHAT IT READS IS OF BULK AT MOST 1048576: true; the input reads as it did. -/
def diffTurnedUptoRow : OpenClaim := { program := "ytmepomdpjlbaaaa", sum := "85743566010680d14591a91466599a500972506461dfee3ab1bc94f19dd6c29f", func := "recto/rectolaw11.DiffTurned", spec := "diffTurned", apart := false, narrowed := true }
def DiffTurnedUptoSaid : Prop := diffTurnedUptoRow.holds Try.pinned (OpenSpec.upto diffTurnedSpec)

/-- 'rectolaw17.GraphAny', WHERE WHAT IT READS IS OF BULK AT MOST 1048576: true; the input reads as it did. -/
def graphAnyUptoRow : OpenClaim := { program := "ytmepomdpjlbaaaa", sum := "85743566010680d14591a91466599a500972506461dfee3ab1bc94f19dd6c29f", func := "recto/rectolaw17.GraphAny", spec := "graphAny", unfollowed := true, recurses := true, apart := false, narrowed := true }
def GraphAnyUptoSaid : Prop := graphAnyUptoRow.holds Try.pinned (OpenSpec.upto graphAnySpec)

/-- 'rectolaw17.GraphBases', WHERE WHAT IT READS IS OF BULK AT MOST 1048576: true; the input reads as it did. -/
def graphBasesUptoRow : OpenClaim := { program := "ytmepomdpjlbaaaa", sum := "85743566010680d14591a91466599a500972506461dfee3ab1bc94f19dd6c29f", func := "recto/rectolaw17.GraphBases", spec := "graphBases", unfollowed := true, recurses := true, apart := false, narrowed := true }
def GraphBasesUptoSaid : Prop := graphBasesUptoRow.holds Try.pinned (OpenSpec.upto graphBasesSpec)

/-- 'rectolaw17.GraphChains', WHERE WHAT IT READS IS OF BULK AT MOST 1048576: true; the input reads as it did. -/
def graphChainsUptoRow : OpenClaim := { program := "ytmepomdpjlbaaaa", sum := "85743566010680d14591a91466599a500972506461dfee3ab1bc94f19dd6c29f", func := "recto/rectolaw17.GraphChains", spec := "graphChains", unfollowed := true, recurses := true, apart := false, narrowed := true }
def GraphChainsUptoSaid : Prop := graphChainsUptoRow.holds Try.pinned (OpenSpec.upto graphChainsSpec)

/-- 'rectolaw2.ShaAny', WHERE WHAT IT READS IS OF BULK AT MOST 1048576: true; the input reads as it did. -/
def shaAnyUptoRow : OpenClaim := { program := "ytmepomdpjlbaaaa", sum := "85743566010680d14591a91466599a500972506461dfee3ab1bc94f19dd6c29f", func := "recto/rectolaw2.ShaAny", spec := "shaAny", apart := false, narrowed := true }
def ShaAnyUptoSaid : Prop := shaAnyUptoRow.holds Try.pinned (OpenSpec.upto shaAnySpec)

/-- 'rectolaw2.ShaShort', WHERE WHAT IT READS IS OF BULK AT MOST 1048576: true; the input reads as it did. -/
def shaShortUptoRow : OpenClaim := { program := "ytmepomdpjlbaaaa", sum := "85743566010680d14591a91466599a500972506461dfee3ab1bc94f19dd6c29f", func := "recto/rectolaw2.ShaShort", spec := "shaShort", apart := false, narrowed := true }
def ShaShortUptoSaid : Prop := shaShortUptoRow.holds Try.pinned (OpenSpec.upto shaShortSpec)

/-- 'rectolaw2.ShaAgain', WHERE WHAT IT READS IS OF BULK AT MOST 1048576: true; the input reads as it did. -/
def shaAgainUptoRow : OpenClaim := { program := "ytmepomdpjlbaaaa", sum := "85743566010680d14591a91466599a500972506461dfee3ab1bc94f19dd6c29f", func := "recto/rectolaw2.ShaAgain", spec := "shaAgain", apart := false, narrowed := true }
def ShaAgainUptoSaid : Prop := shaAgainUptoRow.holds Try.pinned (OpenSpec.upto shaAgainSpec)

/-- 'rectolaw10.LinesAny', WHERE WHAT IT READS IS OF BULK AT MOST 1048576: true; the input reads as it did. -/
def linesAnyUptoRow : OpenClaim := { program := "ytmepomdpjlbaaaa", sum := "85743566010680d14591a91466599a500972506461dfee3ab1bc94f19dd6c29f", func := "recto/rectolaw10.LinesAny", spec := "linesAny", inPlace := ["internal/bytealg.IndexByteString", "internal/bytealg.IndexString", "internal/abi.NoEscape", "internal/bytealg.MakeNoZero"], named := ["internal/bytealg.MaxLen"], apart := false, narrowed := true }
def LinesAnyUptoSaid : Prop := linesAnyUptoRow.holds Try.pinned (OpenSpec.upto linesAnySpec)

/-- 'rectolaw10.LinesTwo', WHERE WHAT IT READS IS OF BULK AT MOST 1048576: true; the input reads as it did. -/
def linesTwoUptoRow : OpenClaim := { program := "ytmepomdpjlbaaaa", sum := "85743566010680d14591a91466599a500972506461dfee3ab1bc94f19dd6c29f", func := "recto/rectolaw10.LinesTwo", spec := "linesTwo", inPlace := ["internal/bytealg.IndexByteString", "internal/bytealg.IndexString", "internal/abi.NoEscape", "internal/bytealg.MakeNoZero"], named := ["internal/bytealg.MaxLen"], apart := false, narrowed := true }
def LinesTwoUptoSaid : Prop := linesTwoUptoRow.holds Try.pinned (OpenSpec.upto linesTwoSpec)

end Rows
end Go.Proofs.Ytmepomdpjlbaaaa
