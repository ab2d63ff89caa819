-- Written by a program of this session (a changed scratch copy of the print tool): an own text, not the kit's print.
/- What the arguments of WideOrderless are known to be, and its pure statement: for all of them the printed function answers true. -/
import Derived.Test.YtehmkffmnaabaaaPWideOrderlessx3
namespace Go.Proofs.Ytehmkffmnaabaaa.PWideOrderless
open Go.RowKit
def Q26 (x : S26) : Prop := (-9223372036854775808 ≤ x.f0 ∧ x.f0 ≤ 9223372036854775807) ∧ (0 ≤ x.f1 ∧ x.f1 ≤ 18446744073709551615)
def WideOrderless.Pure : Prop := ∀ (l0 : List (S26)) (l1 : List (S26)), (l0.length * 16 ≤ 140737488351232 ∧ ∀ x ∈ l0, Q26 x) → (l1.length * 16 ≤ 140737488351232 ∧ ∀ x ∈ l1, Q26 x) → ∃ k, octroilaw01_WideOrderless.f k l0 l1 = some true
end Go.Proofs.Ytehmkffmnaabaaa.PWideOrderless
