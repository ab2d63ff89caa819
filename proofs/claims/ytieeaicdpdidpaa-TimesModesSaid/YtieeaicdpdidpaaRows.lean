/-
  No cell of these rows narrows 'for every input' (looked for: loops, veiled, ifaces, maps, wideKeys, modest, calm, conditions, laid).
  DERIVED. THE GIVEN ROWS OF THIS SEAT. 8 by the template 'for every input the law returns true; each argument reads behind the call as it read before'; 0 by the template 'total and deterministic' (their statements: YtieeaicdpdidpaaTotals.lean).
  GIVEN WITH THE SEED: the statements are not yours to turn. If you find one false, say at which input.
  Laid BY PROGRAM, IN A SANDBOX (cutbox-rows.mjs): the forced cells as the released guide's own fill.sh prints them over the translation ea15b6ceca656775… (all of the seat's roots in one cut). By AI agents, Wed Nov 11 2026. No macro, syntax, notation, axiom, sorry.
-/
import Derived.Test.YtieeaicdpdidpaaChecked
import GoSem.Claim
import GoSem.ClaimJoined
import GoSem.ClaimMapViews
import Derived.JoinedTies
import Derived.KernelRfl
namespace Go.Proofs.Ytieeaicdpdidpaa
/- THE CELL 'sum', in the pinned program and in every row, IS THE sha256 OF THE DUMP (.gsa) THAT YtieeaicdpdidpaaProg.lean LOADS. Nothing in Lean hashes anything: it is a label: what it is worth is what the hold of that sum in a sandbox is worth. -/
noncomputable def Try.pinned : Pinned := { name := "ytieeaicdpdidpaa", sum := "ea15b6ceca656775823b5ac2121002125455d6e5de8355579a80c60229cef86d", checked := Try.checked }
namespace Rows
def none {H : Type} : Left H := { results := [], args := [] }

/-- 'octroilaw02.TimesProducts': WHATEVER THE INPUT: true; the input reads as it did. -/
def timesProductsSpec : ChangeSpec := { name := "timesProducts", fn := fun _ => fun
  | [d] => { results := [.lit (.bool true)], args := [d] }
  | _ => none }
def timesProductsRow : OpenClaim := { program := "ytieeaicdpdidpaa", sum := "ea15b6ceca656775823b5ac2121002125455d6e5de8355579a80c60229cef86d", func := "octroi/octroilaw02.TimesProducts", spec := "timesProducts", inPlace := ["math/bits.Sub64", "math/bits.Add64"], named := ["math/bits.divideError", "math/bits.overflowError"], apart := false }
def TimesProductsSaid : Prop := timesProductsRow.holds Try.pinned (OpenSpec.ofChange timesProductsSpec)

/-- ITS FALSE NEIGHBOUR: 'it returns false'. Refute it at one input. -/
def timesProductsWrong : ChangeSpec := { name := "timesProducts", fn := fun _ => fun
  | [d] => { results := [.lit (.bool false)], args := [d] }
  | _ => none }
def TimesProductsWrongFalsely : Prop := timesProductsRow.holds Try.pinned (OpenSpec.ofChange timesProductsWrong)

/-- 'octroilaw02.TimesQuotients': WHATEVER THE INPUT: true; the input reads as it did. -/
def timesQuotientsSpec : ChangeSpec := { name := "timesQuotients", fn := fun _ => fun
  | [d] => { results := [.lit (.bool true)], args := [d] }
  | _ => none }
def timesQuotientsRow : OpenClaim := { program := "ytieeaicdpdidpaa", sum := "ea15b6ceca656775823b5ac2121002125455d6e5de8355579a80c60229cef86d", func := "octroi/octroilaw02.TimesQuotients", spec := "timesQuotients", inPlace := ["math/bits.Sub64", "math/bits.Add64"], named := ["math/bits.divideError", "math/bits.overflowError"], apart := false }
def TimesQuotientsSaid : Prop := timesQuotientsRow.holds Try.pinned (OpenSpec.ofChange timesQuotientsSpec)

/-- ITS FALSE NEIGHBOUR: 'it returns false'. Refute it at one input. -/
def timesQuotientsWrong : ChangeSpec := { name := "timesQuotients", fn := fun _ => fun
  | [d] => { results := [.lit (.bool false)], args := [d] }
  | _ => none }
def TimesQuotientsWrongFalsely : Prop := timesQuotientsRow.holds Try.pinned (OpenSpec.ofChange timesQuotientsWrong)

/-- 'octroilaw02.TimesRounded': WHATEVER THE INPUT: true; the input reads as it did. -/
def timesRoundedSpec : ChangeSpec := { name := "timesRounded", fn := fun _ => fun
  | [d1, d2] => { results := [.lit (.bool true)], args := [d1, d2] }
  | _ => none }
def timesRoundedRow : OpenClaim := { program := "ytieeaicdpdidpaa", sum := "ea15b6ceca656775823b5ac2121002125455d6e5de8355579a80c60229cef86d", func := "octroi/octroilaw02.TimesRounded", spec := "timesRounded", inPlace := ["math/bits.Sub64", "math/bits.Add64"], named := ["math/bits.divideError", "math/bits.overflowError"], apart := false }
def TimesRoundedSaid : Prop := timesRoundedRow.holds Try.pinned (OpenSpec.ofChange timesRoundedSpec)

/-- ITS FALSE NEIGHBOUR: 'it returns false'. Refute it at one input. -/
def timesRoundedWrong : ChangeSpec := { name := "timesRounded", fn := fun _ => fun
  | [d1, d2] => { results := [.lit (.bool false)], args := [d1, d2] }
  | _ => none }
def TimesRoundedWrongFalsely : Prop := timesRoundedRow.holds Try.pinned (OpenSpec.ofChange timesRoundedWrong)

/-- 'octroilaw02.TimesPowers': WHATEVER THE INPUT: true; the input reads as it did. -/
def timesPowersSpec : ChangeSpec := { name := "timesPowers", fn := fun _ => fun
  | [d] => { results := [.lit (.bool true)], args := [d] }
  | _ => none }
def timesPowersRow : OpenClaim := { program := "ytieeaicdpdidpaa", sum := "ea15b6ceca656775823b5ac2121002125455d6e5de8355579a80c60229cef86d", func := "octroi/octroilaw02.TimesPowers", spec := "timesPowers", inPlace := ["math/bits.Sub64", "math/bits.Add64"], named := ["math/bits.divideError", "math/bits.overflowError"], apart := false }
def TimesPowersSaid : Prop := timesPowersRow.holds Try.pinned (OpenSpec.ofChange timesPowersSpec)

/-- ITS FALSE NEIGHBOUR: 'it returns false'. Refute it at one input. -/
def timesPowersWrong : ChangeSpec := { name := "timesPowers", fn := fun _ => fun
  | [d] => { results := [.lit (.bool false)], args := [d] }
  | _ => none }
def TimesPowersWrongFalsely : Prop := timesPowersRow.holds Try.pinned (OpenSpec.ofChange timesPowersWrong)

/-- 'octroilaw02.TimesSums': WHATEVER THE INPUT: true; the input reads as it did. -/
def timesSumsSpec : ChangeSpec := { name := "timesSums", fn := fun _ => fun
  | [d1, d2, d3] => { results := [.lit (.bool true)], args := [d1, d2, d3] }
  | _ => none }
def timesSumsRow : OpenClaim := { program := "ytieeaicdpdidpaa", sum := "ea15b6ceca656775823b5ac2121002125455d6e5de8355579a80c60229cef86d", func := "octroi/octroilaw02.TimesSums", spec := "timesSums", inPlace := ["math/bits.Sub64", "math/bits.Add64"], named := ["math/bits.divideError", "math/bits.overflowError"], apart := false }
def TimesSumsSaid : Prop := timesSumsRow.holds Try.pinned (OpenSpec.ofChange timesSumsSpec)

/-- ITS FALSE NEIGHBOUR: 'it returns false'. Refute it at one input. -/
def timesSumsWrong : ChangeSpec := { name := "timesSums", fn := fun _ => fun
  | [d1, d2, d3] => { results := [.lit (.bool false)], args := [d1, d2, d3] }
  | _ => none }
def TimesSumsWrongFalsely : Prop := timesSumsRow.holds Try.pinned (OpenSpec.ofChange timesSumsWrong)

/-- 'octroilaw02.TimesBack': WHATEVER THE INPUT: true; the input reads as it did. -/
def timesBackSpec : ChangeSpec := { name := "timesBack", fn := fun _ => fun
  | [d1, d2] => { results := [.lit (.bool true)], args := [d1, d2] }
  | _ => none }
def timesBackRow : OpenClaim := { program := "ytieeaicdpdidpaa", sum := "ea15b6ceca656775823b5ac2121002125455d6e5de8355579a80c60229cef86d", func := "octroi/octroilaw02.TimesBack", spec := "timesBack", inPlace := ["math/bits.Sub64", "math/bits.Add64"], named := ["math/bits.divideError", "math/bits.overflowError"], apart := false }
def TimesBackSaid : Prop := timesBackRow.holds Try.pinned (OpenSpec.ofChange timesBackSpec)

/-- ITS FALSE NEIGHBOUR: 'it returns false'. Refute it at one input. -/
def timesBackWrong : ChangeSpec := { name := "timesBack", fn := fun _ => fun
  | [d1, d2] => { results := [.lit (.bool false)], args := [d1, d2] }
  | _ => none }
def TimesBackWrongFalsely : Prop := timesBackRow.holds Try.pinned (OpenSpec.ofChange timesBackWrong)

/-- 'octroilaw02.TimesModes': WHATEVER THE INPUT: true; the input reads as it did. -/
def timesModesSpec : ChangeSpec := { name := "timesModes", fn := fun _ => fun
  | [d1, d2] => { results := [.lit (.bool true)], args := [d1, d2] }
  | _ => none }
def timesModesRow : OpenClaim := { program := "ytieeaicdpdidpaa", sum := "ea15b6ceca656775823b5ac2121002125455d6e5de8355579a80c60229cef86d", func := "octroi/octroilaw02.TimesModes", spec := "timesModes", inPlace := ["math/bits.Sub64", "math/bits.Add64"], named := ["math/bits.divideError", "math/bits.overflowError"], apart := false }
def TimesModesSaid : Prop := timesModesRow.holds Try.pinned (OpenSpec.ofChange timesModesSpec)

/-- ITS FALSE NEIGHBOUR: 'it returns false'. Refute it at one input. -/
def timesModesWrong : ChangeSpec := { name := "timesModes", fn := fun _ => fun
  | [d1, d2] => { results := [.lit (.bool false)], args := [d1, d2] }
  | _ => none }
def TimesModesWrongFalsely : Prop := timesModesRow.holds Try.pinned (OpenSpec.ofChange timesModesWrong)

/-- 'octroilaw02.TimesRefused': WHATEVER THE INPUT: true; the input reads as it did. -/
def timesRefusedSpec : ChangeSpec := { name := "timesRefused", fn := fun _ => fun
  | [d1, d2] => { results := [.lit (.bool true)], args := [d1, d2] }
  | _ => none }
def timesRefusedRow : OpenClaim := { program := "ytieeaicdpdidpaa", sum := "ea15b6ceca656775823b5ac2121002125455d6e5de8355579a80c60229cef86d", func := "octroi/octroilaw02.TimesRefused", spec := "timesRefused", inPlace := ["math/bits.Sub64", "math/bits.Add64"], named := ["math/bits.divideError", "math/bits.overflowError"], apart := false }
def TimesRefusedSaid : Prop := timesRefusedRow.holds Try.pinned (OpenSpec.ofChange timesRefusedSpec)

/-- ITS FALSE NEIGHBOUR: 'it returns false'. Refute it at one input. -/
def timesRefusedWrong : ChangeSpec := { name := "timesRefused", fn := fun _ => fun
  | [d1, d2] => { results := [.lit (.bool false)], args := [d1, d2] }
  | _ => none }
def TimesRefusedWrongFalsely : Prop := timesRefusedRow.holds Try.pinned (OpenSpec.ofChange timesRefusedWrong)

/- THE SECOND FORM. 'bulk': how many values and letters a reading holds, each counted each time it is reached (what is shared counts as often as it is met; a slice's spare places count too). A statement '..UptoSaid' is the law's where the arguments, and the package variables that the reading takes, are together of bulk at most 1048576: NARROWER than '..Said'. Prove '..Said' where nothing that the law and all that it calls make is longer than what came in: it says more and counts as full. Else prove '..UptoSaid'. A law counts once. -/
mutual
def uptoBulk {H : Type} : DataW H → Nat
  | .lit (.string bytes) => bytes.length + 1
  | .lit _ => 1
  | .nil => 1
  | .ptr d => uptoBulk d + 1
  | .slice elems spare => uptoBulkAll elems + uptoBulkAll spare + 1
  | .agg parts => uptoBulkAll parts + 1
  | .iface _ d => uptoBulk d + 1
  | .map entries => uptoBulkEntries entries + 1
  | .held _ => 1
def uptoBulkAll {H : Type} : List (DataW H) → Nat
  | [] => 0
  | d :: r => uptoBulk d + uptoBulkAll r
def uptoBulkEntries {H : Type} : List (Lit × DataW H) → Nat
  | [] => 0
  | x :: r => uptoBulkEntry x + uptoBulkEntries r
def uptoBulkEntry {H : Type} : Lit × DataW H → Nat
  | (.string bytes, d) => bytes.length + uptoBulk d + 1
  | (_, d) => uptoBulk d + 1
 end
def uptoSmall : (H : Type) → List (DataW H) → Bool := fun _ ds => decide (uptoBulkAll ds ≤ 1048576)
def OpenSpec.upto (s : _root_.Go.ChangeSpec) : _root_.Go.OpenSpec := { _root_.Go.OpenSpec.ofChange s with cond := some uptoSmall }

/-- 'octroilaw02.TimesProducts', WHERE WHAT IT READS IS OF BULK AT MOST 1048576: true; the input reads as it did. -/
def timesProductsUptoRow : OpenClaim := { program := "ytieeaicdpdidpaa", sum := "ea15b6ceca656775823b5ac2121002125455d6e5de8355579a80c60229cef86d", func := "octroi/octroilaw02.TimesProducts", spec := "timesProducts", inPlace := ["math/bits.Sub64", "math/bits.Add64"], named := ["math/bits.divideError", "math/bits.overflowError"], apart := false, narrowed := true }
def TimesProductsUptoSaid : Prop := timesProductsUptoRow.holds Try.pinned (OpenSpec.upto timesProductsSpec)

/-- 'octroilaw02.TimesQuotients', WHERE WHAT IT READS IS OF BULK AT MOST 1048576: true; the input reads as it did. -/
def timesQuotientsUptoRow : OpenClaim := { program := "ytieeaicdpdidpaa", sum := "ea15b6ceca656775823b5ac2121002125455d6e5de8355579a80c60229cef86d", func := "octroi/octroilaw02.TimesQuotients", spec := "timesQuotients", inPlace := ["math/bits.Sub64", "math/bits.Add64"], named := ["math/bits.divideError", "math/bits.overflowError"], apart := false, narrowed := true }
def TimesQuotientsUptoSaid : Prop := timesQuotientsUptoRow.holds Try.pinned (OpenSpec.upto timesQuotientsSpec)

/-- 'octroilaw02.TimesRounded', WHERE WHAT IT READS IS OF BULK AT MOST 1048576: true; the input reads as it did. -/
def timesRoundedUptoRow : OpenClaim := { program := "ytieeaicdpdidpaa", sum := "ea15b6ceca656775823b5ac2121002125455d6e5de8355579a80c60229cef86d", func := "octroi/octroilaw02.TimesRounded", spec := "timesRounded", inPlace := ["math/bits.Sub64", "math/bits.Add64"], named := ["math/bits.divideError", "math/bits.overflowError"], apart := false, narrowed := true }
def TimesRoundedUptoSaid : Prop := timesRoundedUptoRow.holds Try.pinned (OpenSpec.upto timesRoundedSpec)

/-- 'octroilaw02.TimesPowers', WHERE WHAT IT READS IS OF BULK AT MOST 1048576: true; the input reads as it did. -/
def timesPowersUptoRow : OpenClaim := { program := "ytieeaicdpdidpaa", sum := "ea15b6ceca656775823b5ac2121002125455d6e5de8355579a80c60229cef86d", func := "octroi/octroilaw02.TimesPowers", spec := "timesPowers", inPlace := ["math/bits.Sub64", "math/bits.Add64"], named := ["math/bits.divideError", "math/bits.overflowError"], apart := false, narrowed := true }
def TimesPowersUptoSaid : Prop := timesPowersUptoRow.holds Try.pinned (OpenSpec.upto timesPowersSpec)

/-- 'octroilaw02.TimesSums', WHERE WHAT IT READS IS OF BULK AT MOST 1048576: true; the input reads as it did. -/
def timesSumsUptoRow : OpenClaim := { program := "ytieeaicdpdidpaa", sum := "ea15b6ceca656775823b5ac2121002125455d6e5de8355579a80c60229cef86d", func := "octroi/octroilaw02.TimesSums", spec := "timesSums", inPlace := ["math/bits.Sub64", "math/bits.Add64"], named := ["math/bits.divideError", "math/bits.overflowError"], apart := false, narrowed := true }
def TimesSumsUptoSaid : Prop := timesSumsUptoRow.holds Try.pinned (OpenSpec.upto timesSumsSpec)

/-- 'octroilaw02.TimesBack', WHERE WHAT IT READS IS OF BULK AT MOST 1048576: true; the input reads as it did. -/
def timesBackUptoRow : OpenClaim := { program := "ytieeaicdpdidpaa", sum := "ea15b6ceca656775823b5ac2121002125455d6e5de8355579a80c60229cef86d", func := "octroi/octroilaw02.TimesBack", spec := "timesBack", inPlace := ["math/bits.Sub64", "math/bits.Add64"], named := ["math/bits.divideError", "math/bits.overflowError"], apart := false, narrowed := true }
def TimesBackUptoSaid : Prop := timesBackUptoRow.holds Try.pinned (OpenSpec.upto timesBackSpec)

/-- 'octroilaw02.TimesModes', WHERE WHAT IT READS IS OF BULK AT MOST 1048576: true; the input reads as it did. -/
def timesModesUptoRow : OpenClaim := { program := "ytieeaicdpdidpaa", sum := "ea15b6ceca656775823b5ac2121002125455d6e5de8355579a80c60229cef86d", func := "octroi/octroilaw02.TimesModes", spec := "timesModes", inPlace := ["math/bits.Sub64", "math/bits.Add64"], named := ["math/bits.divideError", "math/bits.overflowError"], apart := false, narrowed := true }
def TimesModesUptoSaid : Prop := timesModesUptoRow.holds Try.pinned (OpenSpec.upto timesModesSpec)

/-- 'octroilaw02.TimesRefused', WHERE WHAT IT READS IS OF BULK AT MOST 1048576: true; the input reads as it did. -/
def timesRefusedUptoRow : OpenClaim := { program := "ytieeaicdpdidpaa", sum := "ea15b6ceca656775823b5ac2121002125455d6e5de8355579a80c60229cef86d", func := "octroi/octroilaw02.TimesRefused", spec := "timesRefused", inPlace := ["math/bits.Sub64", "math/bits.Add64"], named := ["math/bits.divideError", "math/bits.overflowError"], apart := false, narrowed := true }
def TimesRefusedUptoSaid : Prop := timesRefusedUptoRow.holds Try.pinned (OpenSpec.upto timesRefusedSpec)

end Rows
end Go.Proofs.Ytieeaicdpdidpaa
