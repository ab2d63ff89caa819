-- Written by a program of this session (a changed scratch copy of the print tool): an own text, not the kit's print.
import Derived.Test.YtieeaicdpdidpaaProg
import Derived.Below
import Derived.Deep.Draws
import Derived.Deep.AppendLies
import Derived.Maps.AppendAt
import Derived.OwnWalk
import Derived.Laws.BytesArg
import Derived.Laws.MakeOwn
import Derived.Laws.OwnMore
import Derived.Deep.OwnRows
import Derived.Tactics
import Derived.Lib.ConvBytes
import Derived.Laws.Slices
import Derived.WalkKit
import Derived.KernelRfl
import Derived.RowKit3
import Derived.Deep.LoopGhost
import Derived.Deep.QuietTactic
import Derived.BigQuiet
import Derived.WideLaws
import Derived.Deep.DeepCutAuto
import Derived.Deep.CutBlock
import Derived.Deep.RegionHeld3
import Derived.Laws.Rows
import Derived.Lib.AppendStr
import Derived.ArgAppend
import Derived.Laws.IdiomCopy
import Derived.OrdersHeld
import Derived.Laws.BitsLemmas
import Derived.RowKit
import Derived.Test.YtieeaicdpdidpaaExt
import Derived.Test.YtieeaicdpdidpaaWF
import Derived.Test.YtieeaicdpdidpaaBF
import Derived.Test.YtieeaicdpdidpaaWWords
import Derived.Test.YtieeaicdpdidpaaWLast
import Derived.Test.YtieeaicdpdidpaaWTab
import Derived.Test.YtieeaicdpdidpaaWFour
import Derived.Test.YtieeaicdpdidpaaWQPut
import Derived.Test.YtieeaicdpdidpaaWApart
import Derived.Test.YtieeaicdpdidpaaWArr
import Derived.Test.YtieeaicdpdidpaaWZeros
import Derived.Test.YtieeaicdpdidpaaWFoot
import Derived.Test.YtieeaicdpdidpaaWKept
import Derived.Test.YtieeaicdpdidpaaWShare
import Derived.Test.YtieeaicdpdidpaaWN
import Derived.Test.YtieeaicdpdidpaaWFootNe
import Derived.Test.YtieeaicdpdidpaaWAt
import Derived.Test.YtieeaicdpdidpaaWEqStruct
import Derived.Test.YtieeaicdpdidpaaWRepsOne
import Derived.Test.YtieeaicdpdidpaaWInv
import Derived.Test.YtieeaicdpdidpaaWInvWords
import Derived.Test.YtieeaicdpdidpaaWGuard
import Derived.Test.YtieeaicdpdidpaaWNEv
import Derived.Test.YtieeaicdpdidpaaWMore
namespace Go.Proofs.Ytieeaicdpdidpaa.PTF
open Go.RowKit Go.Proofs.YtieeaicdpdidpaaW.PrintWords Go.Proofs.YtieeaicdpdidpaaW.PrintLast Go.Proofs.YtieeaicdpdidpaaW.PrintMore
attribute [local go_sem] run_add64 run_sub64
attribute [local go_sem] max2_int min2_int max_two min_two max_three min_three max_four min_four   -- for this text's walks alone
set_option linter.unusedVariables false
set_option linter.unusedSimpArgs false



def errW : Option Int → Value
  | none => .nilIface
  | some c => .iface 0 (.int .i64 c)
theorem errW_none : errW none = .nilIface := rfl
theorem errW_some (c : Int) : errW (some c) = .iface 0 (.int .i64 c) := rfl

-- the values' own types

end Go.Proofs.Ytieeaicdpdidpaa.PTF
