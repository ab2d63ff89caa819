-- Written by a program of this session (a changed scratch copy of the print tool): an own text, not the kit's print.
import Derived.Test.YtieeaicdpdidpaaPTPx0
import Derived.Test.YtieeaicdpdidpaaPTPx1
namespace Go.Proofs.Ytieeaicdpdidpaa.PTP
open Go.RowKit Go.Proofs.YtieeaicdpdidpaaW.PrintWords Go.Proofs.YtieeaicdpdidpaaW.PrintLast Go.Proofs.YtieeaicdpdidpaaW.PrintMore
attribute [local go_sem] run_add64 run_sub64
attribute [local go_sem] max2_int min2_int max_two min_two max_three min_three max_four min_four   -- for this text's walks alone
set_option linter.unusedVariables false
set_option linter.unusedSimpArgs false

end Go.Proofs.Ytieeaicdpdidpaa.PTP
