-- Written by a program of this session (a changed scratch copy of the print tool): an own text, not the kit's print.
/- What the arguments of TimesRefused are known to be, and its pure statement: for all of them the printed function answers true. -/
import Derived.Test.YtieeaicdpdidpaaPTimesRefusedx0
namespace Go.Proofs.Ytieeaicdpdidpaa.PTimesRefused
open Go.RowKit
def Q26 (x : S26) : Prop := (-9223372036854775808 ≤ x.f0 ∧ x.f0 ≤ 9223372036854775807) ∧ (0 ≤ x.f1 ∧ x.f1 ≤ 18446744073709551615)
def TimesRefused.Pure : Prop := ∀ (a0 : S26) (a1 : S26), Q26 a0 → Q26 a1 → TF.TimesRefused.f a0.f0 a0.f1 a1.f0 a1.f1 = some true
end Go.Proofs.Ytieeaicdpdidpaa.PTimesRefused
