/-
  No cell of these rows narrows 'for every input' (looked for: loops, veiled, ifaces, maps, wideKeys, modest, calm, conditions, laid).
  DERIVED. THE GIVEN ROWS OF THIS SEAT. 4 by the template 'for every input the law returns true; each argument reads behind the call as it read before'; 0 by the template 'total and deterministic' (their statements: YtikmbcpglmcefaaTotals.lean).
  GIVEN WITH THE SEED: the statements are not yours to turn. If you find one false, say at which input.
  Laid BY PROGRAM, IN A SANDBOX (cutbox-rows.mjs): the forced cells as the released guide's own fill.sh prints them over the translation 47ac665c5a79a2ec… (all of the seat's roots in one cut). By AI agents, Wed Nov 11 2026. No macro, syntax, notation, axiom, sorry.
-/
import Derived.Test.YtikmbcpglmcefaaChecked
import GoSem.Claim
import GoSem.ClaimJoined
import GoSem.ClaimMapViews
import Derived.JoinedTies
import Derived.KernelRfl
namespace Go.Proofs.Ytikmbcpglmcefaa
/- THE CELL 'sum', in the pinned program and in every row, IS THE sha256 OF THE DUMP (.gsa) THAT YtikmbcpglmcefaaProg.lean LOADS. Nothing in Lean hashes anything: it is a label: what it is worth is what the hold of that sum in a sandbox is worth. -/
noncomputable def Try.pinned : Pinned := { name := "ytikmbcpglmcefaa", sum := "47ac665c5a79a2eca9981a16fc9136fe4a1f8dfe5a9574388651c09c598b5a95", checked := Try.checked }
namespace Rows
def none {H : Type} : Left H := { results := [], args := [] }

/-- 'octroilaw16.IsaBytes': WHATEVER THE INPUT: true; the input reads as it did. -/
def isaBytesSpec : ChangeSpec := { name := "isaBytes", fn := fun _ => fun
  | [d] => { results := [.lit (.bool true)], args := [d] }
  | _ => none }
def isaBytesRow : OpenClaim := { program := "ytikmbcpglmcefaa", sum := "47ac665c5a79a2eca9981a16fc9136fe4a1f8dfe5a9574388651c09c598b5a95", func := "octroi/octroilaw16.IsaBytes", spec := "isaBytes", apart := false }
def IsaBytesSaid : Prop := isaBytesRow.holds Try.pinned (OpenSpec.ofChange isaBytesSpec)

/-- ITS FALSE NEIGHBOUR: 'it returns false'. Refute it at one input. -/
def isaBytesWrong : ChangeSpec := { name := "isaBytes", fn := fun _ => fun
  | [d] => { results := [.lit (.bool false)], args := [d] }
  | _ => none }
def IsaBytesWrongFalsely : Prop := isaBytesRow.holds Try.pinned (OpenSpec.ofChange isaBytesWrong)

/-- 'octroilaw16.IsaReads': WHATEVER THE INPUT: true; the input reads as it did. -/
def isaReadsSpec : ChangeSpec := { name := "isaReads", fn := fun _ => fun
  | [d] => { results := [.lit (.bool true)], args := [d] }
  | _ => none }
def isaReadsRow : OpenClaim := { program := "ytikmbcpglmcefaa", sum := "47ac665c5a79a2eca9981a16fc9136fe4a1f8dfe5a9574388651c09c598b5a95", func := "octroi/octroilaw16.IsaReads", spec := "isaReads", apart := false }
def IsaReadsSaid : Prop := isaReadsRow.holds Try.pinned (OpenSpec.ofChange isaReadsSpec)

/-- ITS FALSE NEIGHBOUR: 'it returns false'. Refute it at one input. -/
def isaReadsWrong : ChangeSpec := { name := "isaReads", fn := fun _ => fun
  | [d] => { results := [.lit (.bool false)], args := [d] }
  | _ => none }
def IsaReadsWrongFalsely : Prop := isaReadsRow.holds Try.pinned (OpenSpec.ofChange isaReadsWrong)

/-- 'octroilaw16.IsaBack': WHATEVER THE INPUT: true; the input reads as it did. -/
def isaBackSpec : ChangeSpec := { name := "isaBack", fn := fun _ => fun
  | [d1, d2] => { results := [.lit (.bool true)], args := [d1, d2] }
  | _ => none }
def isaBackRow : OpenClaim := { program := "ytikmbcpglmcefaa", sum := "47ac665c5a79a2eca9981a16fc9136fe4a1f8dfe5a9574388651c09c598b5a95", func := "octroi/octroilaw16.IsaBack", spec := "isaBack", apart := false }
def IsaBackSaid : Prop := isaBackRow.holds Try.pinned (OpenSpec.ofChange isaBackSpec)

/-- ITS FALSE NEIGHBOUR: 'it returns false'. Refute it at one input. -/
def isaBackWrong : ChangeSpec := { name := "isaBack", fn := fun _ => fun
  | [d1, d2] => { results := [.lit (.bool false)], args := [d1, d2] }
  | _ => none }
def IsaBackWrongFalsely : Prop := isaBackRow.holds Try.pinned (OpenSpec.ofChange isaBackWrong)

/-- 'octroilaw16.IsaCut': WHATEVER THE INPUT: true; the input reads as it did. -/
def isaCutSpec : ChangeSpec := { name := "isaCut", fn := fun _ => fun
  | [d1, d2, d3, d4] => { results := [.lit (.bool true)], args := [d1, d2, d3, d4] }
  | _ => none }
def isaCutRow : OpenClaim := { program := "ytikmbcpglmcefaa", sum := "47ac665c5a79a2eca9981a16fc9136fe4a1f8dfe5a9574388651c09c598b5a95", func := "octroi/octroilaw16.IsaCut", spec := "isaCut", apart := false }
def IsaCutSaid : Prop := isaCutRow.holds Try.pinned (OpenSpec.ofChange isaCutSpec)

/-- ITS FALSE NEIGHBOUR: 'it returns false'. Refute it at one input. -/
def isaCutWrong : ChangeSpec := { name := "isaCut", fn := fun _ => fun
  | [d1, d2, d3, d4] => { results := [.lit (.bool false)], args := [d1, d2, d3, d4] }
  | _ => none }
def IsaCutWrongFalsely : Prop := isaCutRow.holds Try.pinned (OpenSpec.ofChange isaCutWrong)

/- THE SECOND FORM. 'bulk': how many values and letters a reading holds, each counted each time it is reached (what is shared counts as often as it is met; a slice's spare places count too). A statement '..UptoSaid' is the law's where the arguments, and the package variables that the reading takes, are together of bulk at most 1048576: NARROWER than '..Said'. Prove '..Said' where nothing that the law and all that it calls make is longer than what came in: it says more and counts as full. Else prove '..UptoSaid'. A law counts once. -/
mutual
def uptoBulk {H : Type} : DataW H → Nat
  | .lit (.string bytes) => bytes.length + 1
  | .lit _ => 1
  | .nil => 1
  | .ptr d => uptoBulk d + 1
  | .slice elems spare => uptoBulkAll elems + uptoBulkAll spare + 1
  | .agg parts => uptoBulkAll parts + 1
  | .iface _ d => uptoBulk d + 1
  | .map entries => uptoBulkEntries entries + 1
  | .held _ => 1
def uptoBulkAll {H : Type} : List (DataW H) → Nat
  | [] => 0
  | d :: r => uptoBulk d + uptoBulkAll r
def uptoBulkEntries {H : Type} : List (Lit × DataW H) → Nat
  | [] => 0
  | x :: r => uptoBulkEntry x + uptoBulkEntries r
def uptoBulkEntry {H : Type} : Lit × DataW H → Nat
  | (.string bytes, d) => bytes.length + uptoBulk d + 1
  | (_, d) => uptoBulk d + 1
 end
def uptoSmall : (H : Type) → List (DataW H) → Bool := fun _ ds => decide (uptoBulkAll ds ≤ 1048576)
def OpenSpec.upto (s : _root_.Go.ChangeSpec) : _root_.Go.OpenSpec := { _root_.Go.OpenSpec.ofChange s with cond := some uptoSmall }

/-- 'octroilaw16.IsaBytes', WHERE WHAT IT READS IS OF BULK AT MOST 1048576: true; the input reads as it did. -/
def isaBytesUptoRow : OpenClaim := { program := "ytikmbcpglmcefaa", sum := "47ac665c5a79a2eca9981a16fc9136fe4a1f8dfe5a9574388651c09c598b5a95", func := "octroi/octroilaw16.IsaBytes", spec := "isaBytes", apart := false, narrowed := true }
def IsaBytesUptoSaid : Prop := isaBytesUptoRow.holds Try.pinned (OpenSpec.upto isaBytesSpec)

/-- 'octroilaw16.IsaReads', WHERE WHAT IT READS IS OF BULK AT MOST 1048576: true; the input reads as it did. -/
def isaReadsUptoRow : OpenClaim := { program := "ytikmbcpglmcefaa", sum := "47ac665c5a79a2eca9981a16fc9136fe4a1f8dfe5a9574388651c09c598b5a95", func := "octroi/octroilaw16.IsaReads", spec := "isaReads", apart := false, narrowed := true }
def IsaReadsUptoSaid : Prop := isaReadsUptoRow.holds Try.pinned (OpenSpec.upto isaReadsSpec)

/-- 'octroilaw16.IsaBack', WHERE WHAT IT READS IS OF BULK AT MOST 1048576: true; the input reads as it did. -/
def isaBackUptoRow : OpenClaim := { program := "ytikmbcpglmcefaa", sum := "47ac665c5a79a2eca9981a16fc9136fe4a1f8dfe5a9574388651c09c598b5a95", func := "octroi/octroilaw16.IsaBack", spec := "isaBack", apart := false, narrowed := true }
def IsaBackUptoSaid : Prop := isaBackUptoRow.holds Try.pinned (OpenSpec.upto isaBackSpec)

/-- 'octroilaw16.IsaCut', WHERE WHAT IT READS IS OF BULK AT MOST 1048576: true; the input reads as it did. -/
def isaCutUptoRow : OpenClaim := { program := "ytikmbcpglmcefaa", sum := "47ac665c5a79a2eca9981a16fc9136fe4a1f8dfe5a9574388651c09c598b5a95", func := "octroi/octroilaw16.IsaCut", spec := "isaCut", apart := false, narrowed := true }
def IsaCutUptoSaid : Prop := isaCutUptoRow.holds Try.pinned (OpenSpec.upto isaCutSpec)

end Rows
end Go.Proofs.Ytikmbcpglmcefaa
