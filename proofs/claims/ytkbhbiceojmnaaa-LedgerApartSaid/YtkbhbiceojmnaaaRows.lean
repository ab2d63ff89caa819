/-
  No cell of these rows narrows 'for every input' (looked for: loops, veiled, ifaces, maps, wideKeys, modest, calm, conditions, laid).
  DERIVED. THE GIVEN ROWS OF THIS SEAT. 4 by the template 'for every input the law returns true; each argument reads behind the call as it read before'; 0 by the template 'total and deterministic' (their statements: YtkbhbiceojmnaaaTotals.lean).
  GIVEN WITH THE SEED: the statements are not yours to turn. If you find one false, say at which input.
  Laid BY PROGRAM, IN A SANDBOX (cutbox-rows.mjs): the forced cells as the released guide's own fill.sh prints them over the translation 8c6ade4369221cf4… (all of the seat's roots in one cut). By AI agents, Wed Nov 11 2026. No macro, syntax, notation, axiom, sorry.
-/
import Derived.Test.YtkbhbiceojmnaaaChecked
import GoSem.Claim
import GoSem.ClaimJoined
import GoSem.ClaimMapViews
import Derived.JoinedTies
import Derived.KernelRfl
namespace Go.Proofs.Ytkbhbiceojmnaaa
/- THE CELL 'sum', in the pinned program and in every row, IS THE sha256 OF THE DUMP (.gsa) THAT YtkbhbiceojmnaaaProg.lean LOADS. Nothing in Lean hashes anything: it is a label: what it is worth is what the hold of that sum in a sandbox is worth. -/
noncomputable def Try.pinned : Pinned := { name := "ytkbhbiceojmnaaa", sum := "8c6ade4369221cf4dfe5ca805790ec58def81f01a8380aa2da3415e068328cd1", checked := Try.checked }
namespace Rows
def none {H : Type} : Left H := { results := [], args := [] }

/-- 'octroilaw26.LedgerScripts': WHATEVER THE INPUT: true; the input reads as it did. -/
def ledgerScriptsSpec : ChangeSpec := { name := "ledgerScripts", fn := fun _ => fun
  | [d] => { results := [.lit (.bool true)], args := [d] }
  | _ => none }
def ledgerScriptsRow : OpenClaim := { program := "ytkbhbiceojmnaaa", sum := "8c6ade4369221cf4dfe5ca805790ec58def81f01a8380aa2da3415e068328cd1", func := "octroi/octroilaw26.LedgerScripts", spec := "ledgerScripts", unfollowed := true, recurses := true, apart := false }
def LedgerScriptsSaid : Prop := ledgerScriptsRow.holds Try.pinned (OpenSpec.ofChange ledgerScriptsSpec)

/-- ITS FALSE NEIGHBOUR: 'it returns false'. Refute it at one input. -/
def ledgerScriptsWrong : ChangeSpec := { name := "ledgerScripts", fn := fun _ => fun
  | [d] => { results := [.lit (.bool false)], args := [d] }
  | _ => none }
def LedgerScriptsWrongFalsely : Prop := ledgerScriptsRow.holds Try.pinned (OpenSpec.ofChange ledgerScriptsWrong)

/-- 'octroilaw26.LedgerBalances': WHATEVER THE INPUT: true; the input reads as it did. -/
def ledgerBalancesSpec : ChangeSpec := { name := "ledgerBalances", fn := fun _ => fun
  | [d1, d2] => { results := [.lit (.bool true)], args := [d1, d2] }
  | _ => none }
def ledgerBalancesRow : OpenClaim := { program := "ytkbhbiceojmnaaa", sum := "8c6ade4369221cf4dfe5ca805790ec58def81f01a8380aa2da3415e068328cd1", func := "octroi/octroilaw26.LedgerBalances", spec := "ledgerBalances", unfollowed := true, recurses := true, apart := false }
def LedgerBalancesSaid : Prop := ledgerBalancesRow.holds Try.pinned (OpenSpec.ofChange ledgerBalancesSpec)

/-- ITS FALSE NEIGHBOUR: 'it returns false'. Refute it at one input. -/
def ledgerBalancesWrong : ChangeSpec := { name := "ledgerBalances", fn := fun _ => fun
  | [d1, d2] => { results := [.lit (.bool false)], args := [d1, d2] }
  | _ => none }
def LedgerBalancesWrongFalsely : Prop := ledgerBalancesRow.holds Try.pinned (OpenSpec.ofChange ledgerBalancesWrong)

/-- 'octroilaw26.LedgerSplits': WHATEVER THE INPUT: true; the input reads as it did. -/
def ledgerSplitsSpec : ChangeSpec := { name := "ledgerSplits", fn := fun _ => fun
  | [d1, d2, d3, d4] => { results := [.lit (.bool true)], args := [d1, d2, d3, d4] }
  | _ => none }
def ledgerSplitsRow : OpenClaim := { program := "ytkbhbiceojmnaaa", sum := "8c6ade4369221cf4dfe5ca805790ec58def81f01a8380aa2da3415e068328cd1", func := "octroi/octroilaw26.LedgerSplits", spec := "ledgerSplits", unfollowed := true, recurses := true, apart := false }
def LedgerSplitsSaid : Prop := ledgerSplitsRow.holds Try.pinned (OpenSpec.ofChange ledgerSplitsSpec)

/-- ITS FALSE NEIGHBOUR: 'it returns false'. Refute it at one input. -/
def ledgerSplitsWrong : ChangeSpec := { name := "ledgerSplits", fn := fun _ => fun
  | [d1, d2, d3, d4] => { results := [.lit (.bool false)], args := [d1, d2, d3, d4] }
  | _ => none }
def LedgerSplitsWrongFalsely : Prop := ledgerSplitsRow.holds Try.pinned (OpenSpec.ofChange ledgerSplitsWrong)

/-- 'octroilaw26.LedgerApart': WHATEVER THE INPUT: true; the input reads as it did. -/
def ledgerApartSpec : ChangeSpec := { name := "ledgerApart", fn := fun _ => fun
  | [d] => { results := [.lit (.bool true)], args := [d] }
  | _ => none }
def ledgerApartRow : OpenClaim := { program := "ytkbhbiceojmnaaa", sum := "8c6ade4369221cf4dfe5ca805790ec58def81f01a8380aa2da3415e068328cd1", func := "octroi/octroilaw26.LedgerApart", spec := "ledgerApart", unfollowed := true, recurses := true, apart := false }
def LedgerApartSaid : Prop := ledgerApartRow.holds Try.pinned (OpenSpec.ofChange ledgerApartSpec)

/-- ITS FALSE NEIGHBOUR: 'it returns false'. Refute it at one input. -/
def ledgerApartWrong : ChangeSpec := { name := "ledgerApart", fn := fun _ => fun
  | [d] => { results := [.lit (.bool false)], args := [d] }
  | _ => none }
def LedgerApartWrongFalsely : Prop := ledgerApartRow.holds Try.pinned (OpenSpec.ofChange ledgerApartWrong)

/- THE SECOND FORM. 'bulk': how many values and letters a reading holds, each counted each time it is reached (what is shared counts as often as it is met; a slice's spare places count too). A statement '..UptoSaid' is the law's where the arguments, and the package variables that the reading takes, are together of bulk at most 1048576: NARROWER than '..Said'. Prove '..Said' where nothing that the law and all that it calls make is longer than what came in: it says more and counts as full. Else prove '..UptoSaid'. A law counts once. -/
mutual
def uptoBulk {H : Type} : DataW H → Nat
  | .lit (.string bytes) => bytes.length + 1
  | .lit _ => 1
  | .nil => 1
  | .ptr d => uptoBulk d + 1
  | .slice elems spare => uptoBulkAll elems + uptoBulkAll spare + 1
  | .agg parts => uptoBulkAll parts + 1
  | .iface _ d => uptoBulk d + 1
  | .map entries => uptoBulkEntries entries + 1
  | .held _ => 1
def uptoBulkAll {H : Type} : List (DataW H) → Nat
  | [] => 0
  | d :: r => uptoBulk d + uptoBulkAll r
def uptoBulkEntries {H : Type} : List (Lit × DataW H) → Nat
  | [] => 0
  | x :: r => uptoBulkEntry x + uptoBulkEntries r
def uptoBulkEntry {H : Type} : Lit × DataW H → Nat
  | (.string bytes, d) => bytes.length + uptoBulk d + 1
  | (_, d) => uptoBulk d + 1
 end
def uptoSmall : (H : Type) → List (DataW H) → Bool := fun _ ds => decide (uptoBulkAll ds ≤ 1048576)
def OpenSpec.upto (s : _root_.Go.ChangeSpec) : _root_.Go.OpenSpec := { _root_.Go.OpenSpec.ofChange s with cond := some uptoSmall }

/-- 'octroilaw26.LedgerScripts', WHERE WHAT IT READS IS OF BULK AT MOST 1048576: true; the input reads as it did. -/
def ledgerScriptsUptoRow : OpenClaim := { program := "ytkbhbiceojmnaaa", sum := "8c6ade4369221cf4dfe5ca805790ec58def81f01a8380aa2da3415e068328cd1", func := "octroi/octroilaw26.LedgerScripts", spec := "ledgerScripts", unfollowed := true, recurses := true, apart := false, narrowed := true }
def LedgerScriptsUptoSaid : Prop := ledgerScriptsUptoRow.holds Try.pinned (OpenSpec.upto ledgerScriptsSpec)

/-- 'octroilaw26.LedgerBalances', WHERE WHAT IT READS IS OF BULK AT MOST 1048576: true; the input reads as it did. -/
def ledgerBalancesUptoRow : OpenClaim := { program := "ytkbhbiceojmnaaa", sum := "8c6ade4369221cf4dfe5ca805790ec58def81f01a8380aa2da3415e068328cd1", func := "octroi/octroilaw26.LedgerBalances", spec := "ledgerBalances", unfollowed := true, recurses := true, apart := false, narrowed := true }
def LedgerBalancesUptoSaid : Prop := ledgerBalancesUptoRow.holds Try.pinned (OpenSpec.upto ledgerBalancesSpec)

/-- 'octroilaw26.LedgerSplits', WHERE WHAT IT READS IS OF BULK AT MOST 1048576: true; the input reads as it did. -/
def ledgerSplitsUptoRow : OpenClaim := { program := "ytkbhbiceojmnaaa", sum := "8c6ade4369221cf4dfe5ca805790ec58def81f01a8380aa2da3415e068328cd1", func := "octroi/octroilaw26.LedgerSplits", spec := "ledgerSplits", unfollowed := true, recurses := true, apart := false, narrowed := true }
def LedgerSplitsUptoSaid : Prop := ledgerSplitsUptoRow.holds Try.pinned (OpenSpec.upto ledgerSplitsSpec)

/-- 'octroilaw26.LedgerApart', WHERE WHAT IT READS IS OF BULK AT MOST 1048576: true; the input reads as it did. -/
def ledgerApartUptoRow : OpenClaim := { program := "ytkbhbiceojmnaaa", sum := "8c6ade4369221cf4dfe5ca805790ec58def81f01a8380aa2da3415e068328cd1", func := "octroi/octroilaw26.LedgerApart", spec := "ledgerApart", unfollowed := true, recurses := true, apart := false, narrowed := true }
def LedgerApartUptoSaid : Prop := ledgerApartUptoRow.holds Try.pinned (OpenSpec.upto ledgerApartSpec)

end Rows
end Go.Proofs.Ytkbhbiceojmnaaa
