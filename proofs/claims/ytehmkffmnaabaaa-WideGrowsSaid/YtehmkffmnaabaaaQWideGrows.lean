-- Written by a program of this session (a changed scratch copy of the print tool): an own text, not the kit's print.
/- What the arguments of WideGrows are known to be, and its pure statement: for all of them the printed function answers true. -/
import Derived.Test.YtehmkffmnaabaaaPWideGrowsx2
namespace Go.Proofs.Ytehmkffmnaabaaa.PWideGrows
open Go.RowKit
def Q26 (x : S26) : Prop := (-9223372036854775808 ≤ x.f0 ∧ x.f0 ≤ 9223372036854775807) ∧ (0 ≤ x.f1 ∧ x.f1 ≤ 18446744073709551615)
def WideGrows.Pure : Prop := ∀ (a0 : S26) (a1 : S26) (a2 : S26), Q26 a0 → Q26 a1 → Q26 a2 → ∃ k, octroilaw01_WideGrows.f k a0.f0 a0.f1 a1.f0 a1.f1 a2.f0 a2.f1 = some true
end Go.Proofs.Ytehmkffmnaabaaa.PWideGrows
