/-
  No cell of these rows narrows 'for every input' (looked for: loops, veiled, ifaces, maps, wideKeys, modest, calm, conditions, laid).
  DERIVED. THE GIVEN ROWS OF THIS SEAT. 4 by the template 'for every input the law returns true; each argument reads behind the call as it read before'; 0 by the template 'total and deterministic' (their statements: YtdcfpgkgaaobhaaTotals.lean).
  GIVEN WITH THE SEED: the statements are not yours to turn. If you find one false, say at which input.
  Laid BY PROGRAM, IN A SANDBOX (cutbox-rows.mjs): the forced cells as the released guide's own fill.sh prints them over the translation 1a5ba6b2817d09df… (all of the seat's roots in one cut). By AI agents, Wed Nov 11 2026. No macro, syntax, notation, axiom, sorry.
-/
import Derived.Test.YtdcfpgkgaaobhaaChecked
import GoSem.Claim
import GoSem.ClaimJoined
import GoSem.ClaimMapViews
import Derived.JoinedTies
import Derived.KernelRfl
namespace Go.Proofs.Ytdcfpgkgaaobhaa
/- THE CELL 'sum', in the pinned program and in every row, IS THE sha256 OF THE DUMP (.gsa) THAT YtdcfpgkgaaobhaaProg.lean LOADS. Nothing in Lean hashes anything: it is a label: what it is worth is what the hold of that sum in a sandbox is worth. -/
noncomputable def Try.pinned : Pinned := { name := "ytdcfpgkgaaobhaa", sum := "1a5ba6b2817d09dfe2b8a7fdd7cc10fdc5adc75d40c2a0f0cea0021c9c9df0c6", checked := Try.checked }
namespace Rows
def none {H : Type} : Left H := { results := [], args := [] }

/-- 'octroilaw24.AgendaSorted': WHATEVER THE INPUT: true; the input reads as it did. -/
def agendaSortedSpec : ChangeSpec := { name := "agendaSorted", fn := fun _ => fun
  | [d] => { results := [.lit (.bool true)], args := [d] }
  | _ => none }
def agendaSortedRow : OpenClaim := { program := "ytdcfpgkgaaobhaa", sum := "1a5ba6b2817d09dfe2b8a7fdd7cc10fdc5adc75d40c2a0f0cea0021c9c9df0c6", func := "octroi/octroilaw24.AgendaSorted", spec := "agendaSorted", unfollowed := true, recurses := true, apart := false }
def AgendaSortedSaid : Prop := agendaSortedRow.holds Try.pinned (OpenSpec.ofChange agendaSortedSpec)

/-- ITS FALSE NEIGHBOUR: 'it returns false'. Refute it at one input. -/
def agendaSortedWrong : ChangeSpec := { name := "agendaSorted", fn := fun _ => fun
  | [d] => { results := [.lit (.bool false)], args := [d] }
  | _ => none }
def AgendaSortedWrongFalsely : Prop := agendaSortedRow.holds Try.pinned (OpenSpec.ofChange agendaSortedWrong)

/-- 'octroilaw24.AgendaScripts': WHATEVER THE INPUT: true; the input reads as it did. -/
def agendaScriptsSpec : ChangeSpec := { name := "agendaScripts", fn := fun _ => fun
  | [d] => { results := [.lit (.bool true)], args := [d] }
  | _ => none }
def agendaScriptsRow : OpenClaim := { program := "ytdcfpgkgaaobhaa", sum := "1a5ba6b2817d09dfe2b8a7fdd7cc10fdc5adc75d40c2a0f0cea0021c9c9df0c6", func := "octroi/octroilaw24.AgendaScripts", spec := "agendaScripts", unfollowed := true, recurses := true, apart := false }
def AgendaScriptsSaid : Prop := agendaScriptsRow.holds Try.pinned (OpenSpec.ofChange agendaScriptsSpec)

/-- ITS FALSE NEIGHBOUR: 'it returns false'. Refute it at one input. -/
def agendaScriptsWrong : ChangeSpec := { name := "agendaScripts", fn := fun _ => fun
  | [d] => { results := [.lit (.bool false)], args := [d] }
  | _ => none }
def AgendaScriptsWrongFalsely : Prop := agendaScriptsRow.holds Try.pinned (OpenSpec.ofChange agendaScriptsWrong)

/-- 'octroilaw24.AgendaOrder': WHATEVER THE INPUT: true; the input reads as it did. -/
def agendaOrderSpec : ChangeSpec := { name := "agendaOrder", fn := fun _ => fun
  | [d1, d2] => { results := [.lit (.bool true)], args := [d1, d2] }
  | _ => none }
def agendaOrderRow : OpenClaim := { program := "ytdcfpgkgaaobhaa", sum := "1a5ba6b2817d09dfe2b8a7fdd7cc10fdc5adc75d40c2a0f0cea0021c9c9df0c6", func := "octroi/octroilaw24.AgendaOrder", spec := "agendaOrder", unfollowed := true, recurses := true, apart := false }
def AgendaOrderSaid : Prop := agendaOrderRow.holds Try.pinned (OpenSpec.ofChange agendaOrderSpec)

/-- ITS FALSE NEIGHBOUR: 'it returns false'. Refute it at one input. -/
def agendaOrderWrong : ChangeSpec := { name := "agendaOrder", fn := fun _ => fun
  | [d1, d2] => { results := [.lit (.bool false)], args := [d1, d2] }
  | _ => none }
def AgendaOrderWrongFalsely : Prop := agendaOrderRow.holds Try.pinned (OpenSpec.ofChange agendaOrderWrong)

/-- 'octroilaw24.AgendaApart': WHATEVER THE INPUT: true; the input reads as it did. -/
def agendaApartSpec : ChangeSpec := { name := "agendaApart", fn := fun _ => fun
  | [d] => { results := [.lit (.bool true)], args := [d] }
  | _ => none }
def agendaApartRow : OpenClaim := { program := "ytdcfpgkgaaobhaa", sum := "1a5ba6b2817d09dfe2b8a7fdd7cc10fdc5adc75d40c2a0f0cea0021c9c9df0c6", func := "octroi/octroilaw24.AgendaApart", spec := "agendaApart", unfollowed := true, recurses := true, apart := false }
def AgendaApartSaid : Prop := agendaApartRow.holds Try.pinned (OpenSpec.ofChange agendaApartSpec)

/-- ITS FALSE NEIGHBOUR: 'it returns false'. Refute it at one input. -/
def agendaApartWrong : ChangeSpec := { name := "agendaApart", fn := fun _ => fun
  | [d] => { results := [.lit (.bool false)], args := [d] }
  | _ => none }
def AgendaApartWrongFalsely : Prop := agendaApartRow.holds Try.pinned (OpenSpec.ofChange agendaApartWrong)

/- THE SECOND FORM. 'bulk': how many values and letters a reading holds, each counted each time it is reached (what is shared counts as often as it is met; a slice's spare places count too). A statement '..UptoSaid' is the law's where the arguments, and the package variables that the reading takes, are together of bulk at most 1048576: NARROWER than '..Said'. Prove '..Said' where nothing that the law and all that it calls make is longer than what came in: it says more and counts as full. Else prove '..UptoSaid'. A law counts once. -/
mutual
def uptoBulk {H : Type} : DataW H → Nat
  | .lit (.string bytes) => bytes.length + 1
  | .lit _ => 1
  | .nil => 1
  | .ptr d => uptoBulk d + 1
  | .slice elems spare => uptoBulkAll elems + uptoBulkAll spare + 1
  | .agg parts => uptoBulkAll parts + 1
  | .iface _ d => uptoBulk d + 1
  | .map entries => uptoBulkEntries entries + 1
  | .held _ => 1
def uptoBulkAll {H : Type} : List (DataW H) → Nat
  | [] => 0
  | d :: r => uptoBulk d + uptoBulkAll r
def uptoBulkEntries {H : Type} : List (Lit × DataW H) → Nat
  | [] => 0
  | x :: r => uptoBulkEntry x + uptoBulkEntries r
def uptoBulkEntry {H : Type} : Lit × DataW H → Nat
  | (.string bytes, d) => bytes.length + uptoBulk d + 1
  | (_, d) => uptoBulk d + 1
 end
def uptoSmall : (H : Type) → List (DataW H) → Bool := fun _ ds => decide (uptoBulkAll ds ≤ 1048576)
def OpenSpec.upto (s : _root_.Go.ChangeSpec) : _root_.Go.OpenSpec := { _root_.Go.OpenSpec.ofChange s with cond := some uptoSmall }

/-- 'octroilaw24.AgendaSorted', WHERE WHAT IT READS IS OF BULK AT MOST 1048576: true; the input reads as it did. -/
def agendaSortedUptoRow : OpenClaim := { program := "ytdcfpgkgaaobhaa", sum := "1a5ba6b2817d09dfe2b8a7fdd7cc10fdc5adc75d40c2a0f0cea0021c9c9df0c6", func := "octroi/octroilaw24.AgendaSorted", spec := "agendaSorted", unfollowed := true, recurses := true, apart := false, narrowed := true }
def AgendaSortedUptoSaid : Prop := agendaSortedUptoRow.holds Try.pinned (OpenSpec.upto agendaSortedSpec)

/-- 'octroilaw24.AgendaScripts', WHERE WHAT IT READS IS OF BULK AT MOST 1048576: true; the input reads as it did. -/
def agendaScriptsUptoRow : OpenClaim := { program := "ytdcfpgkgaaobhaa", sum := "1a5ba6b2817d09dfe2b8a7fdd7cc10fdc5adc75d40c2a0f0cea0021c9c9df0c6", func := "octroi/octroilaw24.AgendaScripts", spec := "agendaScripts", unfollowed := true, recurses := true, apart := false, narrowed := true }
def AgendaScriptsUptoSaid : Prop := agendaScriptsUptoRow.holds Try.pinned (OpenSpec.upto agendaScriptsSpec)

/-- 'octroilaw24.AgendaOrder', WHERE WHAT IT READS IS OF BULK AT MOST 1048576: true; the input reads as it did. -/
def agendaOrderUptoRow : OpenClaim := { program := "ytdcfpgkgaaobhaa", sum := "1a5ba6b2817d09dfe2b8a7fdd7cc10fdc5adc75d40c2a0f0cea0021c9c9df0c6", func := "octroi/octroilaw24.AgendaOrder", spec := "agendaOrder", unfollowed := true, recurses := true, apart := false, narrowed := true }
def AgendaOrderUptoSaid : Prop := agendaOrderUptoRow.holds Try.pinned (OpenSpec.upto agendaOrderSpec)

/-- 'octroilaw24.AgendaApart', WHERE WHAT IT READS IS OF BULK AT MOST 1048576: true; the input reads as it did. -/
def agendaApartUptoRow : OpenClaim := { program := "ytdcfpgkgaaobhaa", sum := "1a5ba6b2817d09dfe2b8a7fdd7cc10fdc5adc75d40c2a0f0cea0021c9c9df0c6", func := "octroi/octroilaw24.AgendaApart", spec := "agendaApart", unfollowed := true, recurses := true, apart := false, narrowed := true }
def AgendaApartUptoSaid : Prop := agendaApartUptoRow.holds Try.pinned (OpenSpec.upto agendaApartSpec)

end Rows
end Go.Proofs.Ytdcfpgkgaaobhaa
