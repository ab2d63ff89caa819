-- Written by a program of this session (a changed scratch copy of the print tool): an own text, not the kit's print.
import Derived.Test.YtehmkffmnaabaaaProg
import Derived.Below
import Derived.Deep.Draws
import Derived.Deep.AppendLies
import Derived.Maps.AppendAt
import Derived.OwnWalk
import Derived.Laws.BytesArg
import Derived.Laws.MakeOwn
import Derived.Laws.OwnMore
import Derived.Deep.OwnRows
import Derived.Tactics
import Derived.Lib.ConvBytes
import Derived.Laws.Slices
import Derived.WalkKit
import Derived.KernelRfl
import Derived.RowKit3
import Derived.Deep.LoopGhost
import Derived.Deep.QuietTactic
import Derived.BigQuiet
import Derived.WideLaws
import Derived.Deep.DeepCutAuto
import Derived.Deep.CutBlock
import Derived.Deep.RegionHeld3
import Derived.Laws.Rows
import Derived.Lib.AppendStr
import Derived.ArgAppend
import Derived.Laws.IdiomCopy
import Derived.OrdersHeld
import Derived.Laws.BitsLemmas
import Derived.RowKit
import Derived.Test.YtehmkffmnaabaaaExt
import Derived.Test.YtehmkffmnaabaaaWWords
import Derived.Test.YtehmkffmnaabaaaWLast
import Derived.Test.YtehmkffmnaabaaaWTab
import Derived.Test.YtehmkffmnaabaaaWFour
import Derived.Test.YtehmkffmnaabaaaWQPut
import Derived.Test.YtehmkffmnaabaaaWApart
import Derived.Test.YtehmkffmnaabaaaWArr
import Derived.Test.YtehmkffmnaabaaaWZeros
import Derived.Test.YtehmkffmnaabaaaWFoot
import Derived.Test.YtehmkffmnaabaaaWKept
import Derived.Test.YtehmkffmnaabaaaWShare
import Derived.Test.YtehmkffmnaabaaaWN
import Derived.Test.YtehmkffmnaabaaaWFootNe
import Derived.Test.YtehmkffmnaabaaaWAt
import Derived.Test.YtehmkffmnaabaaaWEqStruct
import Derived.Test.YtehmkffmnaabaaaWRepsOne
import Derived.Test.YtehmkffmnaabaaaWInv
import Derived.Test.YtehmkffmnaabaaaWInvWords
import Derived.Test.YtehmkffmnaabaaaWGuard
import Derived.Test.YtehmkffmnaabaaaWNEv
import Derived.Test.YtehmkffmnaabaaaWMore
namespace Go.Proofs.Ytehmkffmnaabaaa.PWideSmall
open Go.RowKit Go.Proofs.YtehmkffmnaabaaaW.PrintWords Go.Proofs.YtehmkffmnaabaaaW.PrintLast Go.Proofs.YtehmkffmnaabaaaW.PrintMore
attribute [local go_sem] run_add64 run_sub64 max2_int min2_int max_two min_two max_three min_three max_four min_four   -- for this text's walks alone
set_option linter.unusedVariables false
set_option linter.unusedSimpArgs false



def errW : Option Int → Value
  | none => .nilIface
  | some c => .iface 0 (.int .i64 c)
theorem errW_none : errW none = .nilIface := rfl
theorem errW_some (c : Int) : errW (some c) = .iface 0 (.int .i64 c) := rfl

-- the values' own types

end Go.Proofs.Ytehmkffmnaabaaa.PWideSmall
