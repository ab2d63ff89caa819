-- Written by a program of this session (a changed scratch copy of the print tool): an own text, not the kit's print.
/- What the arguments of WideSmall are known to be, and its pure statement: for all of them the printed function answers true. -/
import Derived.Test.YtehmkffmnaabaaaPWideSmallx2
namespace Go.Proofs.Ytehmkffmnaabaaa.PWideSmall
open Go.RowKit
def WideSmall.Pure : Prop := ∀ (a0 : Int) (a1 : Int), (-9223372036854775808 ≤ a0 ∧ a0 ≤ 9223372036854775807) → (-9223372036854775808 ≤ a1 ∧ a1 ≤ 9223372036854775807) → ∃ k, octroilaw01_WideSmall.f k a0 a1 = some true
end Go.Proofs.Ytehmkffmnaabaaa.PWideSmall
