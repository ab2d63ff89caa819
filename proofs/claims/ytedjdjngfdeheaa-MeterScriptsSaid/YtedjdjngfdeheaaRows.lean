/-
  No cell of these rows narrows 'for every input' (looked for: loops, veiled, ifaces, maps, wideKeys, modest, calm, conditions, laid).
  DERIVED. THE GIVEN ROWS OF THIS SEAT. 4 by the template 'for every input the law returns true; each argument reads behind the call as it read before'; 0 by the template 'total and deterministic' (their statements: YtedjdjngfdeheaaTotals.lean).
  GIVEN WITH THE SEED: the statements are not yours to turn. If you find one false, say at which input.
  Laid BY PROGRAM, IN A SANDBOX (cutbox-rows.mjs): the forced cells as the released guide's own fill.sh prints them over the translation 338415306dd09b05… (all of the seat's roots in one cut). By AI agents, Wed Nov 11 2026. No macro, syntax, notation, axiom, sorry.
-/
import Derived.Test.YtedjdjngfdeheaaChecked
import GoSem.Claim
import GoSem.ClaimJoined
import GoSem.ClaimMapViews
import Derived.JoinedTies
import Derived.KernelRfl
namespace Go.Proofs.Ytedjdjngfdeheaa
/- THE CELL 'sum', in the pinned program and in every row, IS THE sha256 OF THE DUMP (.gsa) THAT YtedjdjngfdeheaaProg.lean LOADS. Nothing in Lean hashes anything: it is a label: what it is worth is what the hold of that sum in a sandbox is worth. -/
noncomputable def Try.pinned : Pinned := { name := "ytedjdjngfdeheaa", sum := "338415306dd09b0512e08489c9c34c59b524ea0d4660da9f2b4d848b0e68b053", checked := Try.checked }
namespace Rows
def none {H : Type} : Left H := { results := [], args := [] }

/-- 'octroilaw23.MeterDays': WHATEVER THE INPUT: true; the input reads as it did. -/
def meterDaysSpec : ChangeSpec := { name := "meterDays", fn := fun _ => fun
  | [d1, d2, d3, d4, d5, d6] => { results := [.lit (.bool true)], args := [d1, d2, d3, d4, d5, d6] }
  | _ => none }
def meterDaysRow : OpenClaim := { program := "ytedjdjngfdeheaa", sum := "338415306dd09b0512e08489c9c34c59b524ea0d4660da9f2b4d848b0e68b053", func := "octroi/octroilaw23.MeterDays", spec := "meterDays", unfollowed := true, recurses := true, apart := false }
def MeterDaysSaid : Prop := meterDaysRow.holds Try.pinned (OpenSpec.ofChange meterDaysSpec)

/-- ITS FALSE NEIGHBOUR: 'it returns false'. Refute it at one input. -/
def meterDaysWrong : ChangeSpec := { name := "meterDays", fn := fun _ => fun
  | [d1, d2, d3, d4, d5, d6] => { results := [.lit (.bool false)], args := [d1, d2, d3, d4, d5, d6] }
  | _ => none }
def MeterDaysWrongFalsely : Prop := meterDaysRow.holds Try.pinned (OpenSpec.ofChange meterDaysWrong)

/-- 'octroilaw23.MeterOrder': WHATEVER THE INPUT: true; the input reads as it did. -/
def meterOrderSpec : ChangeSpec := { name := "meterOrder", fn := fun _ => fun
  | [d1, d2, d3, d4, d5] => { results := [.lit (.bool true)], args := [d1, d2, d3, d4, d5] }
  | _ => none }
def meterOrderRow : OpenClaim := { program := "ytedjdjngfdeheaa", sum := "338415306dd09b0512e08489c9c34c59b524ea0d4660da9f2b4d848b0e68b053", func := "octroi/octroilaw23.MeterOrder", spec := "meterOrder", unfollowed := true, recurses := true, apart := false }
def MeterOrderSaid : Prop := meterOrderRow.holds Try.pinned (OpenSpec.ofChange meterOrderSpec)

/-- ITS FALSE NEIGHBOUR: 'it returns false'. Refute it at one input. -/
def meterOrderWrong : ChangeSpec := { name := "meterOrder", fn := fun _ => fun
  | [d1, d2, d3, d4, d5] => { results := [.lit (.bool false)], args := [d1, d2, d3, d4, d5] }
  | _ => none }
def MeterOrderWrongFalsely : Prop := meterOrderRow.holds Try.pinned (OpenSpec.ofChange meterOrderWrong)

/-- 'octroilaw23.MeterApart': WHATEVER THE INPUT: true; the input reads as it did. -/
def meterApartSpec : ChangeSpec := { name := "meterApart", fn := fun _ => fun
  | [d] => { results := [.lit (.bool true)], args := [d] }
  | _ => none }
def meterApartRow : OpenClaim := { program := "ytedjdjngfdeheaa", sum := "338415306dd09b0512e08489c9c34c59b524ea0d4660da9f2b4d848b0e68b053", func := "octroi/octroilaw23.MeterApart", spec := "meterApart", unfollowed := true, recurses := true, apart := false }
def MeterApartSaid : Prop := meterApartRow.holds Try.pinned (OpenSpec.ofChange meterApartSpec)

/-- ITS FALSE NEIGHBOUR: 'it returns false'. Refute it at one input. -/
def meterApartWrong : ChangeSpec := { name := "meterApart", fn := fun _ => fun
  | [d] => { results := [.lit (.bool false)], args := [d] }
  | _ => none }
def MeterApartWrongFalsely : Prop := meterApartRow.holds Try.pinned (OpenSpec.ofChange meterApartWrong)

/-- 'octroilaw23.MeterScripts': WHATEVER THE INPUT: true; the input reads as it did. -/
def meterScriptsSpec : ChangeSpec := { name := "meterScripts", fn := fun _ => fun
  | [d] => { results := [.lit (.bool true)], args := [d] }
  | _ => none }
def meterScriptsRow : OpenClaim := { program := "ytedjdjngfdeheaa", sum := "338415306dd09b0512e08489c9c34c59b524ea0d4660da9f2b4d848b0e68b053", func := "octroi/octroilaw23.MeterScripts", spec := "meterScripts", unfollowed := true, recurses := true, apart := false }
def MeterScriptsSaid : Prop := meterScriptsRow.holds Try.pinned (OpenSpec.ofChange meterScriptsSpec)

/-- ITS FALSE NEIGHBOUR: 'it returns false'. Refute it at one input. -/
def meterScriptsWrong : ChangeSpec := { name := "meterScripts", fn := fun _ => fun
  | [d] => { results := [.lit (.bool false)], args := [d] }
  | _ => none }
def MeterScriptsWrongFalsely : Prop := meterScriptsRow.holds Try.pinned (OpenSpec.ofChange meterScriptsWrong)

/- THE SECOND FORM. 'bulk': how many values and letters a reading holds, each counted each time it is reached (what is shared counts as often as it is met; a slice's spare places count too). A statement '..UptoSaid' is the law's where the arguments, and the package variables that the reading takes, are together of bulk at most 1048576: NARROWER than '..Said'. Prove '..Said' where nothing that the law and all that it calls make is longer than what came in: it says more and counts as full. Else prove '..UptoSaid'. A law counts once. -/
mutual
def uptoBulk {H : Type} : DataW H → Nat
  | .lit (.string bytes) => bytes.length + 1
  | .lit _ => 1
  | .nil => 1
  | .ptr d => uptoBulk d + 1
  | .slice elems spare => uptoBulkAll elems + uptoBulkAll spare + 1
  | .agg parts => uptoBulkAll parts + 1
  | .iface _ d => uptoBulk d + 1
  | .map entries => uptoBulkEntries entries + 1
  | .held _ => 1
def uptoBulkAll {H : Type} : List (DataW H) → Nat
  | [] => 0
  | d :: r => uptoBulk d + uptoBulkAll r
def uptoBulkEntries {H : Type} : List (Lit × DataW H) → Nat
  | [] => 0
  | x :: r => uptoBulkEntry x + uptoBulkEntries r
def uptoBulkEntry {H : Type} : Lit × DataW H → Nat
  | (.string bytes, d) => bytes.length + uptoBulk d + 1
  | (_, d) => uptoBulk d + 1
 end
def uptoSmall : (H : Type) → List (DataW H) → Bool := fun _ ds => decide (uptoBulkAll ds ≤ 1048576)
def OpenSpec.upto (s : _root_.Go.ChangeSpec) : _root_.Go.OpenSpec := { _root_.Go.OpenSpec.ofChange s with cond := some uptoSmall }

/-- 'octroilaw23.MeterDays', WHERE WHAT IT READS IS OF BULK AT MOST 1048576: true; the input reads as it did. -/
def meterDaysUptoRow : OpenClaim := { program := "ytedjdjngfdeheaa", sum := "338415306dd09b0512e08489c9c34c59b524ea0d4660da9f2b4d848b0e68b053", func := "octroi/octroilaw23.MeterDays", spec := "meterDays", unfollowed := true, recurses := true, apart := false, narrowed := true }
def MeterDaysUptoSaid : Prop := meterDaysUptoRow.holds Try.pinned (OpenSpec.upto meterDaysSpec)

/-- 'octroilaw23.MeterOrder', WHERE WHAT IT READS IS OF BULK AT MOST 1048576: true; the input reads as it did. -/
def meterOrderUptoRow : OpenClaim := { program := "ytedjdjngfdeheaa", sum := "338415306dd09b0512e08489c9c34c59b524ea0d4660da9f2b4d848b0e68b053", func := "octroi/octroilaw23.MeterOrder", spec := "meterOrder", unfollowed := true, recurses := true, apart := false, narrowed := true }
def MeterOrderUptoSaid : Prop := meterOrderUptoRow.holds Try.pinned (OpenSpec.upto meterOrderSpec)

/-- 'octroilaw23.MeterApart', WHERE WHAT IT READS IS OF BULK AT MOST 1048576: true; the input reads as it did. -/
def meterApartUptoRow : OpenClaim := { program := "ytedjdjngfdeheaa", sum := "338415306dd09b0512e08489c9c34c59b524ea0d4660da9f2b4d848b0e68b053", func := "octroi/octroilaw23.MeterApart", spec := "meterApart", unfollowed := true, recurses := true, apart := false, narrowed := true }
def MeterApartUptoSaid : Prop := meterApartUptoRow.holds Try.pinned (OpenSpec.upto meterApartSpec)

/-- 'octroilaw23.MeterScripts', WHERE WHAT IT READS IS OF BULK AT MOST 1048576: true; the input reads as it did. -/
def meterScriptsUptoRow : OpenClaim := { program := "ytedjdjngfdeheaa", sum := "338415306dd09b0512e08489c9c34c59b524ea0d4660da9f2b4d848b0e68b053", func := "octroi/octroilaw23.MeterScripts", spec := "meterScripts", unfollowed := true, recurses := true, apart := false, narrowed := true }
def MeterScriptsUptoSaid : Prop := meterScriptsUptoRow.holds Try.pinned (OpenSpec.upto meterScriptsSpec)

end Rows
end Go.Proofs.Ytedjdjngfdeheaa
