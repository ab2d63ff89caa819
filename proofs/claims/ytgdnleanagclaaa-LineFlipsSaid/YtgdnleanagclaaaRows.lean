/-
  No cell of these rows narrows 'for every input' (looked for: loops, veiled, ifaces, maps, wideKeys, modest, calm, conditions, laid).
  DERIVED. THE GIVEN ROWS OF THIS SEAT. 4 by the template 'for every input the law returns true; each argument reads behind the call as it read before'; 0 by the template 'total and deterministic' (their statements: YtgdnleanagclaaaTotals.lean).
  GIVEN WITH THE SEED: the statements are not yours to turn. If you find one false, say at which input.
  Laid BY PROGRAM, IN A SANDBOX (cutbox-rows.mjs): the forced cells as the released guide's own fill.sh prints them over the translation 990c20d8bab5fcbc… (all of the seat's roots in one cut). By AI agents, Wed Nov 11 2026. No macro, syntax, notation, axiom, sorry.
-/
import Derived.Test.YtgdnleanagclaaaChecked
import GoSem.Claim
import GoSem.ClaimJoined
import GoSem.ClaimMapViews
import Derived.JoinedTies
import Derived.KernelRfl
namespace Go.Proofs.Ytgdnleanagclaaa
/- THE CELL 'sum', in the pinned program and in every row, IS THE sha256 OF THE DUMP (.gsa) THAT YtgdnleanagclaaaProg.lean LOADS. Nothing in Lean hashes anything: it is a label: what it is worth is what the hold of that sum in a sandbox is worth. -/
noncomputable def Try.pinned : Pinned := { name := "ytgdnleanagclaaa", sum := "990c20d8bab5fcbce18cffa6ddc1ce27b20a28367d884bca7da5a678db265b60", checked := Try.checked }
namespace Rows
def none {H : Type} : Left H := { results := [], args := [] }

/-- 'octroilaw11.LineValues': WHATEVER THE INPUT: true; the input reads as it did. -/
def lineValuesSpec : ChangeSpec := { name := "lineValues", fn := fun _ => fun
  | [d1, d2, d3] => { results := [.lit (.bool true)], args := [d1, d2, d3] }
  | _ => none }
def lineValuesRow : OpenClaim := { program := "ytgdnleanagclaaa", sum := "990c20d8bab5fcbce18cffa6ddc1ce27b20a28367d884bca7da5a678db265b60", func := "octroi/octroilaw11.LineValues", spec := "lineValues", inPlace := ["math/bits.Sub64", "math/bits.Add64"], named := ["math/bits.divideError", "math/bits.overflowError"], apart := false }
def LineValuesSaid : Prop := lineValuesRow.holds Try.pinned (OpenSpec.ofChange lineValuesSpec)

/-- ITS FALSE NEIGHBOUR: 'it returns false'. Refute it at one input. -/
def lineValuesWrong : ChangeSpec := { name := "lineValues", fn := fun _ => fun
  | [d1, d2, d3] => { results := [.lit (.bool false)], args := [d1, d2, d3] }
  | _ => none }
def LineValuesWrongFalsely : Prop := lineValuesRow.holds Try.pinned (OpenSpec.ofChange lineValuesWrong)

/-- 'octroilaw11.LineTurns': WHATEVER THE INPUT: true; the input reads as it did. -/
def lineTurnsSpec : ChangeSpec := { name := "lineTurns", fn := fun _ => fun
  | [d1, d2, d3] => { results := [.lit (.bool true)], args := [d1, d2, d3] }
  | _ => none }
def lineTurnsRow : OpenClaim := { program := "ytgdnleanagclaaa", sum := "990c20d8bab5fcbce18cffa6ddc1ce27b20a28367d884bca7da5a678db265b60", func := "octroi/octroilaw11.LineTurns", spec := "lineTurns", inPlace := ["math/bits.Sub64", "math/bits.Add64"], named := ["math/bits.divideError", "math/bits.overflowError"], apart := false }
def LineTurnsSaid : Prop := lineTurnsRow.holds Try.pinned (OpenSpec.ofChange lineTurnsSpec)

/-- ITS FALSE NEIGHBOUR: 'it returns false'. Refute it at one input. -/
def lineTurnsWrong : ChangeSpec := { name := "lineTurns", fn := fun _ => fun
  | [d1, d2, d3] => { results := [.lit (.bool false)], args := [d1, d2, d3] }
  | _ => none }
def LineTurnsWrongFalsely : Prop := lineTurnsRow.holds Try.pinned (OpenSpec.ofChange lineTurnsWrong)

/-- 'octroilaw11.LineFlips': WHATEVER THE INPUT: true; the input reads as it did. -/
def lineFlipsSpec : ChangeSpec := { name := "lineFlips", fn := fun _ => fun
  | [d1, d2, d3, d4] => { results := [.lit (.bool true)], args := [d1, d2, d3, d4] }
  | _ => none }
def lineFlipsRow : OpenClaim := { program := "ytgdnleanagclaaa", sum := "990c20d8bab5fcbce18cffa6ddc1ce27b20a28367d884bca7da5a678db265b60", func := "octroi/octroilaw11.LineFlips", spec := "lineFlips", inPlace := ["math/bits.Sub64", "math/bits.Add64"], named := ["math/bits.divideError", "math/bits.overflowError"], apart := false }
def LineFlipsSaid : Prop := lineFlipsRow.holds Try.pinned (OpenSpec.ofChange lineFlipsSpec)

/-- ITS FALSE NEIGHBOUR: 'it returns false'. Refute it at one input. -/
def lineFlipsWrong : ChangeSpec := { name := "lineFlips", fn := fun _ => fun
  | [d1, d2, d3, d4] => { results := [.lit (.bool false)], args := [d1, d2, d3, d4] }
  | _ => none }
def LineFlipsWrongFalsely : Prop := lineFlipsRow.holds Try.pinned (OpenSpec.ofChange lineFlipsWrong)

/-- 'octroilaw11.LineSums': WHATEVER THE INPUT: true; the input reads as it did. -/
def lineSumsSpec : ChangeSpec := { name := "lineSums", fn := fun _ => fun
  | [d1, d2, d3] => { results := [.lit (.bool true)], args := [d1, d2, d3] }
  | _ => none }
def lineSumsRow : OpenClaim := { program := "ytgdnleanagclaaa", sum := "990c20d8bab5fcbce18cffa6ddc1ce27b20a28367d884bca7da5a678db265b60", func := "octroi/octroilaw11.LineSums", spec := "lineSums", inPlace := ["math/bits.Sub64", "math/bits.Add64"], named := ["math/bits.divideError", "math/bits.overflowError"], apart := false }
def LineSumsSaid : Prop := lineSumsRow.holds Try.pinned (OpenSpec.ofChange lineSumsSpec)

/-- ITS FALSE NEIGHBOUR: 'it returns false'. Refute it at one input. -/
def lineSumsWrong : ChangeSpec := { name := "lineSums", fn := fun _ => fun
  | [d1, d2, d3] => { results := [.lit (.bool false)], args := [d1, d2, d3] }
  | _ => none }
def LineSumsWrongFalsely : Prop := lineSumsRow.holds Try.pinned (OpenSpec.ofChange lineSumsWrong)

/- THE SECOND FORM. 'bulk': how many values and letters a reading holds, each counted each time it is reached (what is shared counts as often as it is met; a slice's spare places count too). A statement '..UptoSaid' is the law's where the arguments, and the package variables that the reading takes, are together of bulk at most 1048576: NARROWER than '..Said'. Prove '..Said' where nothing that the law and all that it calls make is longer than what came in: it says more and counts as full. Else prove '..UptoSaid'. A law counts once. -/
mutual
def uptoBulk {H : Type} : DataW H → Nat
  | .lit (.string bytes) => bytes.length + 1
  | .lit _ => 1
  | .nil => 1
  | .ptr d => uptoBulk d + 1
  | .slice elems spare => uptoBulkAll elems + uptoBulkAll spare + 1
  | .agg parts => uptoBulkAll parts + 1
  | .iface _ d => uptoBulk d + 1
  | .map entries => uptoBulkEntries entries + 1
  | .held _ => 1
def uptoBulkAll {H : Type} : List (DataW H) → Nat
  | [] => 0
  | d :: r => uptoBulk d + uptoBulkAll r
def uptoBulkEntries {H : Type} : List (Lit × DataW H) → Nat
  | [] => 0
  | x :: r => uptoBulkEntry x + uptoBulkEntries r
def uptoBulkEntry {H : Type} : Lit × DataW H → Nat
  | (.string bytes, d) => bytes.length + uptoBulk d + 1
  | (_, d) => uptoBulk d + 1
 end
def uptoSmall : (H : Type) → List (DataW H) → Bool := fun _ ds => decide (uptoBulkAll ds ≤ 1048576)
def OpenSpec.upto (s : _root_.Go.ChangeSpec) : _root_.Go.OpenSpec := { _root_.Go.OpenSpec.ofChange s with cond := some uptoSmall }

/-- 'octroilaw11.LineValues', WHERE WHAT IT READS IS OF BULK AT MOST 1048576: true; the input reads as it did. -/
def lineValuesUptoRow : OpenClaim := { program := "ytgdnleanagclaaa", sum := "990c20d8bab5fcbce18cffa6ddc1ce27b20a28367d884bca7da5a678db265b60", func := "octroi/octroilaw11.LineValues", spec := "lineValues", inPlace := ["math/bits.Sub64", "math/bits.Add64"], named := ["math/bits.divideError", "math/bits.overflowError"], apart := false, narrowed := true }
def LineValuesUptoSaid : Prop := lineValuesUptoRow.holds Try.pinned (OpenSpec.upto lineValuesSpec)

/-- 'octroilaw11.LineTurns', WHERE WHAT IT READS IS OF BULK AT MOST 1048576: true; the input reads as it did. -/
def lineTurnsUptoRow : OpenClaim := { program := "ytgdnleanagclaaa", sum := "990c20d8bab5fcbce18cffa6ddc1ce27b20a28367d884bca7da5a678db265b60", func := "octroi/octroilaw11.LineTurns", spec := "lineTurns", inPlace := ["math/bits.Sub64", "math/bits.Add64"], named := ["math/bits.divideError", "math/bits.overflowError"], apart := false, narrowed := true }
def LineTurnsUptoSaid : Prop := lineTurnsUptoRow.holds Try.pinned (OpenSpec.upto lineTurnsSpec)

/-- 'octroilaw11.LineFlips', WHERE WHAT IT READS IS OF BULK AT MOST 1048576: true; the input reads as it did. -/
def lineFlipsUptoRow : OpenClaim := { program := "ytgdnleanagclaaa", sum := "990c20d8bab5fcbce18cffa6ddc1ce27b20a28367d884bca7da5a678db265b60", func := "octroi/octroilaw11.LineFlips", spec := "lineFlips", inPlace := ["math/bits.Sub64", "math/bits.Add64"], named := ["math/bits.divideError", "math/bits.overflowError"], apart := false, narrowed := true }
def LineFlipsUptoSaid : Prop := lineFlipsUptoRow.holds Try.pinned (OpenSpec.upto lineFlipsSpec)

/-- 'octroilaw11.LineSums', WHERE WHAT IT READS IS OF BULK AT MOST 1048576: true; the input reads as it did. -/
def lineSumsUptoRow : OpenClaim := { program := "ytgdnleanagclaaa", sum := "990c20d8bab5fcbce18cffa6ddc1ce27b20a28367d884bca7da5a678db265b60", func := "octroi/octroilaw11.LineSums", spec := "lineSums", inPlace := ["math/bits.Sub64", "math/bits.Add64"], named := ["math/bits.divideError", "math/bits.overflowError"], apart := false, narrowed := true }
def LineSumsUptoSaid : Prop := lineSumsUptoRow.holds Try.pinned (OpenSpec.upto lineSumsSpec)

end Rows
end Go.Proofs.Ytgdnleanagclaaa
