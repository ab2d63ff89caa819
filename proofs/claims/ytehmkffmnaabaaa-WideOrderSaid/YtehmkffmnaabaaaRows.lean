/-
  No cell of these rows narrows 'for every input' (looked for: loops, veiled, ifaces, maps, wideKeys, modest, calm, conditions, laid).
  DERIVED. THE GIVEN ROWS OF THIS SEAT. 8 by the template 'for every input the law returns true; each argument reads behind the call as it read before'; 0 by the template 'total and deterministic' (their statements: YtehmkffmnaabaaaTotals.lean).
  GIVEN WITH THE SEED: the statements are not yours to turn. If you find one false, say at which input.
  Laid BY PROGRAM, IN A SANDBOX (cutbox-rows.mjs): the forced cells as the released guide's own fill.sh prints them over the translation 086ce4791e0e1609… (all of the seat's roots in one cut). By AI agents, Wed Nov 11 2026. No macro, syntax, notation, axiom, sorry.
-/
import Derived.Test.YtehmkffmnaabaaaChecked
import GoSem.Claim
import GoSem.ClaimJoined
import GoSem.ClaimMapViews
import Derived.JoinedTies
import Derived.KernelRfl
namespace Go.Proofs.Ytehmkffmnaabaaa
/- THE CELL 'sum', in the pinned program and in every row, IS THE sha256 OF THE DUMP (.gsa) THAT YtehmkffmnaabaaaProg.lean LOADS. Nothing in Lean hashes anything: it is a label: what it is worth is what the hold of that sum in a sandbox is worth. -/
noncomputable def Try.pinned : Pinned := { name := "ytehmkffmnaabaaa", sum := "086ce4791e0e16095b56defd3e5e90d57bd669ba57f485ab277883fdf501ce25", checked := Try.checked }
namespace Rows
def none {H : Type} : Left H := { results := [], args := [] }

/-- 'octroilaw01.WideSums': WHATEVER THE INPUT: true; the input reads as it did. -/
def wideSumsSpec : ChangeSpec := { name := "wideSums", fn := fun _ => fun
  | [d] => { results := [.lit (.bool true)], args := [d] }
  | _ => none }
def wideSumsRow : OpenClaim := { program := "ytehmkffmnaabaaa", sum := "086ce4791e0e16095b56defd3e5e90d57bd669ba57f485ab277883fdf501ce25", func := "octroi/octroilaw01.WideSums", spec := "wideSums", inPlace := ["math/bits.Add64", "math/bits.Sub64"], apart := false }
def WideSumsSaid : Prop := wideSumsRow.holds Try.pinned (OpenSpec.ofChange wideSumsSpec)

/-- ITS FALSE NEIGHBOUR: 'it returns false'. Refute it at one input. -/
def wideSumsWrong : ChangeSpec := { name := "wideSums", fn := fun _ => fun
  | [d] => { results := [.lit (.bool false)], args := [d] }
  | _ => none }
def WideSumsWrongFalsely : Prop := wideSumsRow.holds Try.pinned (OpenSpec.ofChange wideSumsWrong)

/-- 'octroilaw01.WideGroup': WHATEVER THE INPUT: true; the input reads as it did. -/
def wideGroupSpec : ChangeSpec := { name := "wideGroup", fn := fun _ => fun
  | [d1, d2] => { results := [.lit (.bool true)], args := [d1, d2] }
  | _ => none }
def wideGroupRow : OpenClaim := { program := "ytehmkffmnaabaaa", sum := "086ce4791e0e16095b56defd3e5e90d57bd669ba57f485ab277883fdf501ce25", func := "octroi/octroilaw01.WideGroup", spec := "wideGroup", inPlace := ["math/bits.Add64", "math/bits.Sub64"], apart := false }
def WideGroupSaid : Prop := wideGroupRow.holds Try.pinned (OpenSpec.ofChange wideGroupSpec)

/-- ITS FALSE NEIGHBOUR: 'it returns false'. Refute it at one input. -/
def wideGroupWrong : ChangeSpec := { name := "wideGroup", fn := fun _ => fun
  | [d1, d2] => { results := [.lit (.bool false)], args := [d1, d2] }
  | _ => none }
def WideGroupWrongFalsely : Prop := wideGroupRow.holds Try.pinned (OpenSpec.ofChange wideGroupWrong)

/-- 'octroilaw01.WideGrows': WHATEVER THE INPUT: true; the input reads as it did. -/
def wideGrowsSpec : ChangeSpec := { name := "wideGrows", fn := fun _ => fun
  | [d1, d2, d3] => { results := [.lit (.bool true)], args := [d1, d2, d3] }
  | _ => none }
def wideGrowsRow : OpenClaim := { program := "ytehmkffmnaabaaa", sum := "086ce4791e0e16095b56defd3e5e90d57bd669ba57f485ab277883fdf501ce25", func := "octroi/octroilaw01.WideGrows", spec := "wideGrows", inPlace := ["math/bits.Add64", "math/bits.Sub64"], apart := false }
def WideGrowsSaid : Prop := wideGrowsRow.holds Try.pinned (OpenSpec.ofChange wideGrowsSpec)

/-- ITS FALSE NEIGHBOUR: 'it returns false'. Refute it at one input. -/
def wideGrowsWrong : ChangeSpec := { name := "wideGrows", fn := fun _ => fun
  | [d1, d2, d3] => { results := [.lit (.bool false)], args := [d1, d2, d3] }
  | _ => none }
def WideGrowsWrongFalsely : Prop := wideGrowsRow.holds Try.pinned (OpenSpec.ofChange wideGrowsWrong)

/-- 'octroilaw01.WideSmall': WHATEVER THE INPUT: true; the input reads as it did. -/
def wideSmallSpec : ChangeSpec := { name := "wideSmall", fn := fun _ => fun
  | [d1, d2] => { results := [.lit (.bool true)], args := [d1, d2] }
  | _ => none }
def wideSmallRow : OpenClaim := { program := "ytehmkffmnaabaaa", sum := "086ce4791e0e16095b56defd3e5e90d57bd669ba57f485ab277883fdf501ce25", func := "octroi/octroilaw01.WideSmall", spec := "wideSmall", inPlace := ["math/bits.Add64", "math/bits.Sub64"], apart := false }
def WideSmallSaid : Prop := wideSmallRow.holds Try.pinned (OpenSpec.ofChange wideSmallSpec)

/-- ITS FALSE NEIGHBOUR: 'it returns false'. Refute it at one input. -/
def wideSmallWrong : ChangeSpec := { name := "wideSmall", fn := fun _ => fun
  | [d1, d2] => { results := [.lit (.bool false)], args := [d1, d2] }
  | _ => none }
def WideSmallWrongFalsely : Prop := wideSmallRow.holds Try.pinned (OpenSpec.ofChange wideSmallWrong)

/-- 'octroilaw01.WideTotals': WHATEVER THE INPUT: true; the input reads as it did. -/
def wideTotalsSpec : ChangeSpec := { name := "wideTotals", fn := fun _ => fun
  | [d] => { results := [.lit (.bool true)], args := [d] }
  | _ => none }
def wideTotalsRow : OpenClaim := { program := "ytehmkffmnaabaaa", sum := "086ce4791e0e16095b56defd3e5e90d57bd669ba57f485ab277883fdf501ce25", func := "octroi/octroilaw01.WideTotals", spec := "wideTotals", inPlace := ["math/bits.Add64", "math/bits.Sub64"], apart := false }
def WideTotalsSaid : Prop := wideTotalsRow.holds Try.pinned (OpenSpec.ofChange wideTotalsSpec)

/-- ITS FALSE NEIGHBOUR: 'it returns false'. Refute it at one input. -/
def wideTotalsWrong : ChangeSpec := { name := "wideTotals", fn := fun _ => fun
  | [d] => { results := [.lit (.bool false)], args := [d] }
  | _ => none }
def WideTotalsWrongFalsely : Prop := wideTotalsRow.holds Try.pinned (OpenSpec.ofChange wideTotalsWrong)

/-- 'octroilaw01.WideOrderless': WHATEVER THE INPUT: true; the input reads as it did. -/
def wideOrderlessSpec : ChangeSpec := { name := "wideOrderless", fn := fun _ => fun
  | [d1, d2] => { results := [.lit (.bool true)], args := [d1, d2] }
  | _ => none }
def wideOrderlessRow : OpenClaim := { program := "ytehmkffmnaabaaa", sum := "086ce4791e0e16095b56defd3e5e90d57bd669ba57f485ab277883fdf501ce25", func := "octroi/octroilaw01.WideOrderless", spec := "wideOrderless", inPlace := ["math/bits.Add64", "math/bits.Sub64"], apart := false }
def WideOrderlessSaid : Prop := wideOrderlessRow.holds Try.pinned (OpenSpec.ofChange wideOrderlessSpec)

/-- ITS FALSE NEIGHBOUR: 'it returns false'. Refute it at one input. -/
def wideOrderlessWrong : ChangeSpec := { name := "wideOrderless", fn := fun _ => fun
  | [d1, d2] => { results := [.lit (.bool false)], args := [d1, d2] }
  | _ => none }
def WideOrderlessWrongFalsely : Prop := wideOrderlessRow.holds Try.pinned (OpenSpec.ofChange wideOrderlessWrong)

/-- 'octroilaw01.WideOrder': WHATEVER THE INPUT: true; the input reads as it did. -/
def wideOrderSpec : ChangeSpec := { name := "wideOrder", fn := fun _ => fun
  | [d] => { results := [.lit (.bool true)], args := [d] }
  | _ => none }
def wideOrderRow : OpenClaim := { program := "ytehmkffmnaabaaa", sum := "086ce4791e0e16095b56defd3e5e90d57bd669ba57f485ab277883fdf501ce25", func := "octroi/octroilaw01.WideOrder", spec := "wideOrder", inPlace := ["math/bits.Add64", "math/bits.Sub64"], apart := false }
def WideOrderSaid : Prop := wideOrderRow.holds Try.pinned (OpenSpec.ofChange wideOrderSpec)

/-- ITS FALSE NEIGHBOUR: 'it returns false'. Refute it at one input. -/
def wideOrderWrong : ChangeSpec := { name := "wideOrder", fn := fun _ => fun
  | [d] => { results := [.lit (.bool false)], args := [d] }
  | _ => none }
def WideOrderWrongFalsely : Prop := wideOrderRow.holds Try.pinned (OpenSpec.ofChange wideOrderWrong)

/-- 'octroilaw01.WideHalves': WHATEVER THE INPUT: true; the input reads as it did. -/
def wideHalvesSpec : ChangeSpec := { name := "wideHalves", fn := fun _ => fun
  | [d1, d2] => { results := [.lit (.bool true)], args := [d1, d2] }
  | _ => none }
def wideHalvesRow : OpenClaim := { program := "ytehmkffmnaabaaa", sum := "086ce4791e0e16095b56defd3e5e90d57bd669ba57f485ab277883fdf501ce25", func := "octroi/octroilaw01.WideHalves", spec := "wideHalves", inPlace := ["math/bits.Add64", "math/bits.Sub64"], apart := false }
def WideHalvesSaid : Prop := wideHalvesRow.holds Try.pinned (OpenSpec.ofChange wideHalvesSpec)

/-- ITS FALSE NEIGHBOUR: 'it returns false'. Refute it at one input. -/
def wideHalvesWrong : ChangeSpec := { name := "wideHalves", fn := fun _ => fun
  | [d1, d2] => { results := [.lit (.bool false)], args := [d1, d2] }
  | _ => none }
def WideHalvesWrongFalsely : Prop := wideHalvesRow.holds Try.pinned (OpenSpec.ofChange wideHalvesWrong)

/- THE SECOND FORM. 'bulk': how many values and letters a reading holds, each counted each time it is reached (what is shared counts as often as it is met; a slice's spare places count too). A statement '..UptoSaid' is the law's where the arguments, and the package variables that the reading takes, are together of bulk at most 1048576: NARROWER than '..Said'. Prove '..Said' where nothing that the law and all that it calls make is longer than what came in: it says more and counts as full. Else prove '..UptoSaid'. A law counts once. -/
mutual
def uptoBulk {H : Type} : DataW H → Nat
  | .lit (.string bytes) => bytes.length + 1
  | .lit _ => 1
  | .nil => 1
  | .ptr d => uptoBulk d + 1
  | .slice elems spare => uptoBulkAll elems + uptoBulkAll spare + 1
  | .agg parts => uptoBulkAll parts + 1
  | .iface _ d => uptoBulk d + 1
  | .map entries => uptoBulkEntries entries + 1
  | .held _ => 1
def uptoBulkAll {H : Type} : List (DataW H) → Nat
  | [] => 0
  | d :: r => uptoBulk d + uptoBulkAll r
def uptoBulkEntries {H : Type} : List (Lit × DataW H) → Nat
  | [] => 0
  | x :: r => uptoBulkEntry x + uptoBulkEntries r
def uptoBulkEntry {H : Type} : Lit × DataW H → Nat
  | (.string bytes, d) => bytes.length + uptoBulk d + 1
  | (_, d) => uptoBulk d + 1
 end
def uptoSmall : (H : Type) → List (DataW H) → Bool := fun _ ds => decide (uptoBulkAll ds ≤ 1048576)
def OpenSpec.upto (s : _root_.Go.ChangeSpec) : _root_.Go.OpenSpec := { _root_.Go.OpenSpec.ofChange s with cond := some uptoSmall }

/-- 'octroilaw01.WideSums', WHERE WHAT IT READS IS OF BULK AT MOST 1048576: true; the input reads as it did. -/
def wideSumsUptoRow : OpenClaim := { program := "ytehmkffmnaabaaa", sum := "086ce4791e0e16095b56defd3e5e90d57bd669ba57f485ab277883fdf501ce25", func := "octroi/octroilaw01.WideSums", spec := "wideSums", inPlace := ["math/bits.Add64", "math/bits.Sub64"], apart := false, narrowed := true }
def WideSumsUptoSaid : Prop := wideSumsUptoRow.holds Try.pinned (OpenSpec.upto wideSumsSpec)

/-- 'octroilaw01.WideGroup', WHERE WHAT IT READS IS OF BULK AT MOST 1048576: true; the input reads as it did. -/
def wideGroupUptoRow : OpenClaim := { program := "ytehmkffmnaabaaa", sum := "086ce4791e0e16095b56defd3e5e90d57bd669ba57f485ab277883fdf501ce25", func := "octroi/octroilaw01.WideGroup", spec := "wideGroup", inPlace := ["math/bits.Add64", "math/bits.Sub64"], apart := false, narrowed := true }
def WideGroupUptoSaid : Prop := wideGroupUptoRow.holds Try.pinned (OpenSpec.upto wideGroupSpec)

/-- 'octroilaw01.WideGrows', WHERE WHAT IT READS IS OF BULK AT MOST 1048576: true; the input reads as it did. -/
def wideGrowsUptoRow : OpenClaim := { program := "ytehmkffmnaabaaa", sum := "086ce4791e0e16095b56defd3e5e90d57bd669ba57f485ab277883fdf501ce25", func := "octroi/octroilaw01.WideGrows", spec := "wideGrows", inPlace := ["math/bits.Add64", "math/bits.Sub64"], apart := false, narrowed := true }
def WideGrowsUptoSaid : Prop := wideGrowsUptoRow.holds Try.pinned (OpenSpec.upto wideGrowsSpec)

/-- 'octroilaw01.WideSmall', WHERE WHAT IT READS IS OF BULK AT MOST 1048576: true; the input reads as it did. -/
def wideSmallUptoRow : OpenClaim := { program := "ytehmkffmnaabaaa", sum := "086ce4791e0e16095b56defd3e5e90d57bd669ba57f485ab277883fdf501ce25", func := "octroi/octroilaw01.WideSmall", spec := "wideSmall", inPlace := ["math/bits.Add64", "math/bits.Sub64"], apart := false, narrowed := true }
def WideSmallUptoSaid : Prop := wideSmallUptoRow.holds Try.pinned (OpenSpec.upto wideSmallSpec)

/-- 'octroilaw01.WideTotals', WHERE WHAT IT READS IS OF BULK AT MOST 1048576: true; the input reads as it did. -/
def wideTotalsUptoRow : OpenClaim := { program := "ytehmkffmnaabaaa", sum := "086ce4791e0e16095b56defd3e5e90d57bd669ba57f485ab277883fdf501ce25", func := "octroi/octroilaw01.WideTotals", spec := "wideTotals", inPlace := ["math/bits.Add64", "math/bits.Sub64"], apart := false, narrowed := true }
def WideTotalsUptoSaid : Prop := wideTotalsUptoRow.holds Try.pinned (OpenSpec.upto wideTotalsSpec)

/-- 'octroilaw01.WideOrderless', WHERE WHAT IT READS IS OF BULK AT MOST 1048576: true; the input reads as it did. -/
def wideOrderlessUptoRow : OpenClaim := { program := "ytehmkffmnaabaaa", sum := "086ce4791e0e16095b56defd3e5e90d57bd669ba57f485ab277883fdf501ce25", func := "octroi/octroilaw01.WideOrderless", spec := "wideOrderless", inPlace := ["math/bits.Add64", "math/bits.Sub64"], apart := false, narrowed := true }
def WideOrderlessUptoSaid : Prop := wideOrderlessUptoRow.holds Try.pinned (OpenSpec.upto wideOrderlessSpec)

/-- 'octroilaw01.WideOrder', WHERE WHAT IT READS IS OF BULK AT MOST 1048576: true; the input reads as it did. -/
def wideOrderUptoRow : OpenClaim := { program := "ytehmkffmnaabaaa", sum := "086ce4791e0e16095b56defd3e5e90d57bd669ba57f485ab277883fdf501ce25", func := "octroi/octroilaw01.WideOrder", spec := "wideOrder", inPlace := ["math/bits.Add64", "math/bits.Sub64"], apart := false, narrowed := true }
def WideOrderUptoSaid : Prop := wideOrderUptoRow.holds Try.pinned (OpenSpec.upto wideOrderSpec)

/-- 'octroilaw01.WideHalves', WHERE WHAT IT READS IS OF BULK AT MOST 1048576: true; the input reads as it did. -/
def wideHalvesUptoRow : OpenClaim := { program := "ytehmkffmnaabaaa", sum := "086ce4791e0e16095b56defd3e5e90d57bd669ba57f485ab277883fdf501ce25", func := "octroi/octroilaw01.WideHalves", spec := "wideHalves", inPlace := ["math/bits.Add64", "math/bits.Sub64"], apart := false, narrowed := true }
def WideHalvesUptoSaid : Prop := wideHalvesUptoRow.holds Try.pinned (OpenSpec.upto wideHalvesSpec)

end Rows
end Go.Proofs.Ytehmkffmnaabaaa
