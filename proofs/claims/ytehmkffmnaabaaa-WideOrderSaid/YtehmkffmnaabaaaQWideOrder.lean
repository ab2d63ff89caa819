-- Written by a program of this session (a changed scratch copy of the print tool): an own text, not the kit's print.
/- What the arguments of WideOrder are known to be, and its pure statement: for all of them the printed function answers true. -/
import Derived.Test.YtehmkffmnaabaaaPWideOrderx5
namespace Go.Proofs.Ytehmkffmnaabaaa.PWideOrder
open Go.RowKit
def Q26 (x : S26) : Prop := (-9223372036854775808 ≤ x.f0 ∧ x.f0 ≤ 9223372036854775807) ∧ (0 ≤ x.f1 ∧ x.f1 ≤ 18446744073709551615)
def Q28 (x : S28) : Prop := Q26 x.f0 ∧ Q26 x.f1
def WideOrder.Pure : Prop := ∀ (l0 : List (S28)), (l0.length * 32 ≤ 140737488351232 ∧ ∀ x ∈ l0, Q28 x) → ∃ k, octroilaw01_WideOrder.f k l0 = some true
end Go.Proofs.Ytehmkffmnaabaaa.PWideOrder
