/-
  No cell of these rows narrows 'for every input' (looked for: loops, veiled, ifaces, maps, wideKeys, modest, calm, conditions, laid).
  DERIVED. THE GIVEN ROWS OF THIS SEAT. 4 by the template 'for every input the law returns true; each argument reads behind the call as it read before'; 0 by the template 'total and deterministic' (their statements: YtnlajjeppdchiaaTotals.lean).
  GIVEN WITH THE SEED: the statements are not yours to turn. If you find one false, say at which input.
  Laid BY PROGRAM, IN A SANDBOX (cutbox-rows.mjs): the forced cells as the released guide's own fill.sh prints them over the translation 8ab971712e70b6c9… (all of the seat's roots in one cut). By AI agents, Wed Nov 11 2026. No macro, syntax, notation, axiom, sorry.
-/
import Derived.Test.YtnlajjeppdchiaaChecked
import GoSem.Claim
import GoSem.ClaimJoined
import GoSem.ClaimMapViews
import Derived.JoinedTies
import Derived.KernelRfl
namespace Go.Proofs.Ytnlajjeppdchiaa
/- THE CELL 'sum', in the pinned program and in every row, IS THE sha256 OF THE DUMP (.gsa) THAT YtnlajjeppdchiaaProg.lean LOADS. Nothing in Lean hashes anything: it is a label: what it is worth is what the hold of that sum in a sandbox is worth. -/
noncomputable def Try.pinned : Pinned := { name := "ytnlajjeppdchiaa", sum := "8ab971712e70b6c96b1de67f885a77664058452919d1faf849f4b2247abe7663", checked := Try.checked }
namespace Rows
def none {H : Type} : Left H := { results := [], args := [] }

/-- 'octroilaw13.WeaveSums': WHATEVER THE INPUT: true; the input reads as it did. -/
def weaveSumsSpec : ChangeSpec := { name := "weaveSums", fn := fun _ => fun
  | [d] => { results := [.lit (.bool true)], args := [d] }
  | _ => none }
def weaveSumsRow : OpenClaim := { program := "ytnlajjeppdchiaa", sum := "8ab971712e70b6c96b1de67f885a77664058452919d1faf849f4b2247abe7663", func := "octroi/octroilaw13.WeaveSums", spec := "weaveSums", inPlace := ["math/bits.Add64"], unfollowed := true, recurses := true, apart := false }
def WeaveSumsSaid : Prop := weaveSumsRow.holds Try.pinned (OpenSpec.ofChange weaveSumsSpec)

/-- ITS FALSE NEIGHBOUR: 'it returns false'. Refute it at one input. -/
def weaveSumsWrong : ChangeSpec := { name := "weaveSums", fn := fun _ => fun
  | [d] => { results := [.lit (.bool false)], args := [d] }
  | _ => none }
def WeaveSumsWrongFalsely : Prop := weaveSumsRow.holds Try.pinned (OpenSpec.ofChange weaveSumsWrong)

/-- 'octroilaw13.WeaveCuts': WHATEVER THE INPUT: true; the input reads as it did. -/
def weaveCutsSpec : ChangeSpec := { name := "weaveCuts", fn := fun _ => fun
  | [d] => { results := [.lit (.bool true)], args := [d] }
  | _ => none }
def weaveCutsRow : OpenClaim := { program := "ytnlajjeppdchiaa", sum := "8ab971712e70b6c96b1de67f885a77664058452919d1faf849f4b2247abe7663", func := "octroi/octroilaw13.WeaveCuts", spec := "weaveCuts", inPlace := ["math/bits.Add64"], unfollowed := true, recurses := true, apart := false }
def WeaveCutsSaid : Prop := weaveCutsRow.holds Try.pinned (OpenSpec.ofChange weaveCutsSpec)

/-- ITS FALSE NEIGHBOUR: 'it returns false'. Refute it at one input. -/
def weaveCutsWrong : ChangeSpec := { name := "weaveCuts", fn := fun _ => fun
  | [d] => { results := [.lit (.bool false)], args := [d] }
  | _ => none }
def WeaveCutsWrongFalsely : Prop := weaveCutsRow.holds Try.pinned (OpenSpec.ofChange weaveCutsWrong)

/-- 'octroilaw13.WeaveOrder': WHATEVER THE INPUT: true; the input reads as it did. -/
def weaveOrderSpec : ChangeSpec := { name := "weaveOrder", fn := fun _ => fun
  | [d1, d2] => { results := [.lit (.bool true)], args := [d1, d2] }
  | _ => none }
def weaveOrderRow : OpenClaim := { program := "ytnlajjeppdchiaa", sum := "8ab971712e70b6c96b1de67f885a77664058452919d1faf849f4b2247abe7663", func := "octroi/octroilaw13.WeaveOrder", spec := "weaveOrder", inPlace := ["math/bits.Add64"], unfollowed := true, recurses := true, apart := false }
def WeaveOrderSaid : Prop := weaveOrderRow.holds Try.pinned (OpenSpec.ofChange weaveOrderSpec)

/-- ITS FALSE NEIGHBOUR: 'it returns false'. Refute it at one input. -/
def weaveOrderWrong : ChangeSpec := { name := "weaveOrder", fn := fun _ => fun
  | [d1, d2] => { results := [.lit (.bool false)], args := [d1, d2] }
  | _ => none }
def WeaveOrderWrongFalsely : Prop := weaveOrderRow.holds Try.pinned (OpenSpec.ofChange weaveOrderWrong)

/-- 'octroilaw13.WeaveMeans': WHATEVER THE INPUT: true; the input reads as it did. -/
def weaveMeansSpec : ChangeSpec := { name := "weaveMeans", fn := fun _ => fun
  | [d1, d2] => { results := [.lit (.bool true)], args := [d1, d2] }
  | _ => none }
def weaveMeansRow : OpenClaim := { program := "ytnlajjeppdchiaa", sum := "8ab971712e70b6c96b1de67f885a77664058452919d1faf849f4b2247abe7663", func := "octroi/octroilaw13.WeaveMeans", spec := "weaveMeans", inPlace := ["math/bits.Add64", "math/bits.Sub64"], unfollowed := true, recurses := true, apart := false }
def WeaveMeansSaid : Prop := weaveMeansRow.holds Try.pinned (OpenSpec.ofChange weaveMeansSpec)

/-- ITS FALSE NEIGHBOUR: 'it returns false'. Refute it at one input. -/
def weaveMeansWrong : ChangeSpec := { name := "weaveMeans", fn := fun _ => fun
  | [d1, d2] => { results := [.lit (.bool false)], args := [d1, d2] }
  | _ => none }
def WeaveMeansWrongFalsely : Prop := weaveMeansRow.holds Try.pinned (OpenSpec.ofChange weaveMeansWrong)

/- THE SECOND FORM. 'bulk': how many values and letters a reading holds, each counted each time it is reached (what is shared counts as often as it is met; a slice's spare places count too). A statement '..UptoSaid' is the law's where the arguments, and the package variables that the reading takes, are together of bulk at most 1048576: NARROWER than '..Said'. Prove '..Said' where nothing that the law and all that it calls make is longer than what came in: it says more and counts as full. Else prove '..UptoSaid'. A law counts once. -/
mutual
def uptoBulk {H : Type} : DataW H → Nat
  | .lit (.string bytes) => bytes.length + 1
  | .lit _ => 1
  | .nil => 1
  | .ptr d => uptoBulk d + 1
  | .slice elems spare => uptoBulkAll elems + uptoBulkAll spare + 1
  | .agg parts => uptoBulkAll parts + 1
  | .iface _ d => uptoBulk d + 1
  | .map entries => uptoBulkEntries entries + 1
  | .held _ => 1
def uptoBulkAll {H : Type} : List (DataW H) → Nat
  | [] => 0
  | d :: r => uptoBulk d + uptoBulkAll r
def uptoBulkEntries {H : Type} : List (Lit × DataW H) → Nat
  | [] => 0
  | x :: r => uptoBulkEntry x + uptoBulkEntries r
def uptoBulkEntry {H : Type} : Lit × DataW H → Nat
  | (.string bytes, d) => bytes.length + uptoBulk d + 1
  | (_, d) => uptoBulk d + 1
 end
def uptoSmall : (H : Type) → List (DataW H) → Bool := fun _ ds => decide (uptoBulkAll ds ≤ 1048576)
def OpenSpec.upto (s : _root_.Go.ChangeSpec) : _root_.Go.OpenSpec := { _root_.Go.OpenSpec.ofChange s with cond := some uptoSmall }

/-- 'octroilaw13.WeaveSums', WHERE WHAT IT READS IS OF BULK AT MOST 1048576: true; the input reads as it did. -/
def weaveSumsUptoRow : OpenClaim := { program := "ytnlajjeppdchiaa", sum := "8ab971712e70b6c96b1de67f885a77664058452919d1faf849f4b2247abe7663", func := "octroi/octroilaw13.WeaveSums", spec := "weaveSums", inPlace := ["math/bits.Add64"], unfollowed := true, recurses := true, apart := false, narrowed := true }
def WeaveSumsUptoSaid : Prop := weaveSumsUptoRow.holds Try.pinned (OpenSpec.upto weaveSumsSpec)

/-- 'octroilaw13.WeaveCuts', WHERE WHAT IT READS IS OF BULK AT MOST 1048576: true; the input reads as it did. -/
def weaveCutsUptoRow : OpenClaim := { program := "ytnlajjeppdchiaa", sum := "8ab971712e70b6c96b1de67f885a77664058452919d1faf849f4b2247abe7663", func := "octroi/octroilaw13.WeaveCuts", spec := "weaveCuts", inPlace := ["math/bits.Add64"], unfollowed := true, recurses := true, apart := false, narrowed := true }
def WeaveCutsUptoSaid : Prop := weaveCutsUptoRow.holds Try.pinned (OpenSpec.upto weaveCutsSpec)

/-- 'octroilaw13.WeaveOrder', WHERE WHAT IT READS IS OF BULK AT MOST 1048576: true; the input reads as it did. -/
def weaveOrderUptoRow : OpenClaim := { program := "ytnlajjeppdchiaa", sum := "8ab971712e70b6c96b1de67f885a77664058452919d1faf849f4b2247abe7663", func := "octroi/octroilaw13.WeaveOrder", spec := "weaveOrder", inPlace := ["math/bits.Add64"], unfollowed := true, recurses := true, apart := false, narrowed := true }
def WeaveOrderUptoSaid : Prop := weaveOrderUptoRow.holds Try.pinned (OpenSpec.upto weaveOrderSpec)

/-- 'octroilaw13.WeaveMeans', WHERE WHAT IT READS IS OF BULK AT MOST 1048576: true; the input reads as it did. -/
def weaveMeansUptoRow : OpenClaim := { program := "ytnlajjeppdchiaa", sum := "8ab971712e70b6c96b1de67f885a77664058452919d1faf849f4b2247abe7663", func := "octroi/octroilaw13.WeaveMeans", spec := "weaveMeans", inPlace := ["math/bits.Add64", "math/bits.Sub64"], unfollowed := true, recurses := true, apart := false, narrowed := true }
def WeaveMeansUptoSaid : Prop := weaveMeansUptoRow.holds Try.pinned (OpenSpec.upto weaveMeansSpec)

end Rows
end Go.Proofs.Ytnlajjeppdchiaa
