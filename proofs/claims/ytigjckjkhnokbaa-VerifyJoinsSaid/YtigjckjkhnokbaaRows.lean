/-
  No cell of these rows narrows 'for every input' (looked for: loops, veiled, ifaces, maps, wideKeys, modest, calm, conditions, laid).
  DERIVED. THE GIVEN ROWS OF THIS SEAT. 4 by the template 'for every input the law returns true; each argument reads behind the call as it read before'; 0 by the template 'total and deterministic' (their statements: YtigjckjkhnokbaaTotals.lean).
  GIVEN WITH THE SEED: the statements are not yours to turn. If you find one false, say at which input.
  Laid BY PROGRAM, IN A SANDBOX (cutbox-rows.mjs): the forced cells as the released guide's own fill.sh prints them over the translation 6c850a33502a4b73… (all of the seat's roots in one cut). By AI agents, Wed Nov 11 2026. No macro, syntax, notation, axiom, sorry.
-/
import Derived.Test.YtigjckjkhnokbaaChecked
import GoSem.Claim
import GoSem.ClaimJoined
import GoSem.ClaimMapViews
import Derived.JoinedTies
import Derived.KernelRfl
namespace Go.Proofs.Ytigjckjkhnokbaa
/- THE CELL 'sum', in the pinned program and in every row, IS THE sha256 OF THE DUMP (.gsa) THAT YtigjckjkhnokbaaProg.lean LOADS. Nothing in Lean hashes anything: it is a label: what it is worth is what the hold of that sum in a sandbox is worth. -/
noncomputable def Try.pinned : Pinned := { name := "ytigjckjkhnokbaa", sum := "6c850a33502a4b739c9751225ae29d394bbba0fe71a7b1d54444e75d29b2ed64", checked := Try.checked }
namespace Rows
def none {H : Type} : Left H := { results := [], args := [] }

/-- 'octroilaw18.VerifyBytes': WHATEVER THE INPUT: true; the input reads as it did. -/
def verifyBytesSpec : ChangeSpec := { name := "verifyBytes", fn := fun _ => fun
  | [d] => { results := [.lit (.bool true)], args := [d] }
  | _ => none }
def verifyBytesRow : OpenClaim := { program := "ytigjckjkhnokbaa", sum := "6c850a33502a4b739c9751225ae29d394bbba0fe71a7b1d54444e75d29b2ed64", func := "octroi/octroilaw18.VerifyBytes", spec := "verifyBytes", apart := false }
def VerifyBytesSaid : Prop := verifyBytesRow.holds Try.pinned (OpenSpec.ofChange verifyBytesSpec)

/-- ITS FALSE NEIGHBOUR: 'it returns false'. Refute it at one input. -/
def verifyBytesWrong : ChangeSpec := { name := "verifyBytes", fn := fun _ => fun
  | [d] => { results := [.lit (.bool false)], args := [d] }
  | _ => none }
def VerifyBytesWrongFalsely : Prop := verifyBytesRow.holds Try.pinned (OpenSpec.ofChange verifyBytesWrong)

/-- 'octroilaw18.VerifyPrograms': WHATEVER THE INPUT: true; the input reads as it did. -/
def verifyProgramsSpec : ChangeSpec := { name := "verifyPrograms", fn := fun _ => fun
  | [d] => { results := [.lit (.bool true)], args := [d] }
  | _ => none }
def verifyProgramsRow : OpenClaim := { program := "ytigjckjkhnokbaa", sum := "6c850a33502a4b739c9751225ae29d394bbba0fe71a7b1d54444e75d29b2ed64", func := "octroi/octroilaw18.VerifyPrograms", spec := "verifyPrograms", apart := false }
def VerifyProgramsSaid : Prop := verifyProgramsRow.holds Try.pinned (OpenSpec.ofChange verifyProgramsSpec)

/-- ITS FALSE NEIGHBOUR: 'it returns false'. Refute it at one input. -/
def verifyProgramsWrong : ChangeSpec := { name := "verifyPrograms", fn := fun _ => fun
  | [d] => { results := [.lit (.bool false)], args := [d] }
  | _ => none }
def VerifyProgramsWrongFalsely : Prop := verifyProgramsRow.holds Try.pinned (OpenSpec.ofChange verifyProgramsWrong)

/-- 'octroilaw18.VerifyWalks': WHATEVER THE INPUT: true; the input reads as it did. -/
def verifyWalksSpec : ChangeSpec := { name := "verifyWalks", fn := fun _ => fun
  | [d1, d2] => { results := [.lit (.bool true)], args := [d1, d2] }
  | _ => none }
def verifyWalksRow : OpenClaim := { program := "ytigjckjkhnokbaa", sum := "6c850a33502a4b739c9751225ae29d394bbba0fe71a7b1d54444e75d29b2ed64", func := "octroi/octroilaw18.VerifyWalks", spec := "verifyWalks", apart := false }
def VerifyWalksSaid : Prop := verifyWalksRow.holds Try.pinned (OpenSpec.ofChange verifyWalksSpec)

/-- ITS FALSE NEIGHBOUR: 'it returns false'. Refute it at one input. -/
def verifyWalksWrong : ChangeSpec := { name := "verifyWalks", fn := fun _ => fun
  | [d1, d2] => { results := [.lit (.bool false)], args := [d1, d2] }
  | _ => none }
def VerifyWalksWrongFalsely : Prop := verifyWalksRow.holds Try.pinned (OpenSpec.ofChange verifyWalksWrong)

/-- 'octroilaw18.VerifyJoins': WHATEVER THE INPUT: true; the input reads as it did. -/
def verifyJoinsSpec : ChangeSpec := { name := "verifyJoins", fn := fun _ => fun
  | [d1, d2, d3] => { results := [.lit (.bool true)], args := [d1, d2, d3] }
  | _ => none }
def verifyJoinsRow : OpenClaim := { program := "ytigjckjkhnokbaa", sum := "6c850a33502a4b739c9751225ae29d394bbba0fe71a7b1d54444e75d29b2ed64", func := "octroi/octroilaw18.VerifyJoins", spec := "verifyJoins", apart := false }
def VerifyJoinsSaid : Prop := verifyJoinsRow.holds Try.pinned (OpenSpec.ofChange verifyJoinsSpec)

/-- ITS FALSE NEIGHBOUR: 'it returns false'. Refute it at one input. -/
def verifyJoinsWrong : ChangeSpec := { name := "verifyJoins", fn := fun _ => fun
  | [d1, d2, d3] => { results := [.lit (.bool false)], args := [d1, d2, d3] }
  | _ => none }
def VerifyJoinsWrongFalsely : Prop := verifyJoinsRow.holds Try.pinned (OpenSpec.ofChange verifyJoinsWrong)

/- THE SECOND FORM. 'bulk': how many values and letters a reading holds, each counted each time it is reached (what is shared counts as often as it is met; a slice's spare places count too). A statement '..UptoSaid' is the law's where the arguments, and the package variables that the reading takes, are together of bulk at most 1048576: NARROWER than '..Said'. Prove '..Said' where nothing that the law and all that it calls make is longer than what came in: it says more and counts as full. Else prove '..UptoSaid'. A law counts once. -/
mutual
def uptoBulk {H : Type} : DataW H → Nat
  | .lit (.string bytes) => bytes.length + 1
  | .lit _ => 1
  | .nil => 1
  | .ptr d => uptoBulk d + 1
  | .slice elems spare => uptoBulkAll elems + uptoBulkAll spare + 1
  | .agg parts => uptoBulkAll parts + 1
  | .iface _ d => uptoBulk d + 1
  | .map entries => uptoBulkEntries entries + 1
  | .held _ => 1
def uptoBulkAll {H : Type} : List (DataW H) → Nat
  | [] => 0
  | d :: r => uptoBulk d + uptoBulkAll r
def uptoBulkEntries {H : Type} : List (Lit × DataW H) → Nat
  | [] => 0
  | x :: r => uptoBulkEntry x + uptoBulkEntries r
def uptoBulkEntry {H : Type} : Lit × DataW H → Nat
  | (.string bytes, d) => bytes.length + uptoBulk d + 1
  | (_, d) => uptoBulk d + 1
 end
def uptoSmall : (H : Type) → List (DataW H) → Bool := fun _ ds => decide (uptoBulkAll ds ≤ 1048576)
def OpenSpec.upto (s : _root_.Go.ChangeSpec) : _root_.Go.OpenSpec := { _root_.Go.OpenSpec.ofChange s with cond := some uptoSmall }

/-- 'octroilaw18.VerifyBytes', WHERE WHAT IT READS IS OF BULK AT MOST 1048576: true; the input reads as it did. -/
def verifyBytesUptoRow : OpenClaim := { program := "ytigjckjkhnokbaa", sum := "6c850a33502a4b739c9751225ae29d394bbba0fe71a7b1d54444e75d29b2ed64", func := "octroi/octroilaw18.VerifyBytes", spec := "verifyBytes", apart := false, narrowed := true }
def VerifyBytesUptoSaid : Prop := verifyBytesUptoRow.holds Try.pinned (OpenSpec.upto verifyBytesSpec)

/-- 'octroilaw18.VerifyPrograms', WHERE WHAT IT READS IS OF BULK AT MOST 1048576: true; the input reads as it did. -/
def verifyProgramsUptoRow : OpenClaim := { program := "ytigjckjkhnokbaa", sum := "6c850a33502a4b739c9751225ae29d394bbba0fe71a7b1d54444e75d29b2ed64", func := "octroi/octroilaw18.VerifyPrograms", spec := "verifyPrograms", apart := false, narrowed := true }
def VerifyProgramsUptoSaid : Prop := verifyProgramsUptoRow.holds Try.pinned (OpenSpec.upto verifyProgramsSpec)

/-- 'octroilaw18.VerifyWalks', WHERE WHAT IT READS IS OF BULK AT MOST 1048576: true; the input reads as it did. -/
def verifyWalksUptoRow : OpenClaim := { program := "ytigjckjkhnokbaa", sum := "6c850a33502a4b739c9751225ae29d394bbba0fe71a7b1d54444e75d29b2ed64", func := "octroi/octroilaw18.VerifyWalks", spec := "verifyWalks", apart := false, narrowed := true }
def VerifyWalksUptoSaid : Prop := verifyWalksUptoRow.holds Try.pinned (OpenSpec.upto verifyWalksSpec)

/-- 'octroilaw18.VerifyJoins', WHERE WHAT IT READS IS OF BULK AT MOST 1048576: true; the input reads as it did. -/
def verifyJoinsUptoRow : OpenClaim := { program := "ytigjckjkhnokbaa", sum := "6c850a33502a4b739c9751225ae29d394bbba0fe71a7b1d54444e75d29b2ed64", func := "octroi/octroilaw18.VerifyJoins", spec := "verifyJoins", apart := false, narrowed := true }
def VerifyJoinsUptoSaid : Prop := verifyJoinsUptoRow.holds Try.pinned (OpenSpec.upto verifyJoinsSpec)

end Rows
end Go.Proofs.Ytigjckjkhnokbaa
