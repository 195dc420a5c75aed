/- What this text proves: the functions that a law reaches, as functions on numbers and lists, and that Go's come to their answers; no condition. Written by the kit's print program, turned (wip/tools/patch_print.py). -/
import Derived.Test.YtjkkkmgeolfhfaaProg
import Derived.Below
import Derived.Deep.Draws
import Derived.Deep.AppendLies
import Derived.Maps.AppendAt
import Derived.OwnWalk
import Derived.Laws.BytesArg
import Derived.Laws.MakeOwn
import Derived.Laws.OwnMore
import Derived.Deep.OwnRows
import Derived.Tactics
import Derived.Lib.ConvBytes
import Derived.Laws.Slices
import Derived.WalkKit
import Derived.KernelRfl
import Derived.RowKit3
import Derived.Deep.LoopGhost
import Derived.Deep.QuietTactic
import Derived.BigQuiet
import Derived.WideLaws
import Derived.Deep.DeepCutAuto
import Derived.Deep.CutBlock
import Derived.Deep.RegionHeld3
import Derived.Laws.Rows
import Derived.Lib.AppendStr
import Derived.ArgAppend
import Derived.Laws.IdiomCopy
import Derived.OrdersHeld
import Derived.Laws.BitsLemmas
import Derived.RowKit
import Derived.Test.YtjkkkmgeolfhfaaCrcOwn
import Derived.Lib.SlBytesConst
import Derived.OpenShut
import Derived.Test.YtjkkkmgeolfhfaaWWords
import Derived.Test.YtjkkkmgeolfhfaaWLast
import Derived.Test.YtjkkkmgeolfhfaaWTab
import Derived.Test.YtjkkkmgeolfhfaaWFour
import Derived.Test.YtjkkkmgeolfhfaaWQPut
import Derived.Test.YtjkkkmgeolfhfaaWApart
import Derived.Test.YtjkkkmgeolfhfaaWArr
import Derived.Test.YtjkkkmgeolfhfaaWZeros
import Derived.Test.YtjkkkmgeolfhfaaWFoot
import Derived.Test.YtjkkkmgeolfhfaaWKept
import Derived.Test.YtjkkkmgeolfhfaaWShare
import Derived.Test.YtjkkkmgeolfhfaaWN
import Derived.Test.YtjkkkmgeolfhfaaWFootNe
import Derived.Test.YtjkkkmgeolfhfaaWAt
import Derived.Test.YtjkkkmgeolfhfaaWEqStruct
import Derived.Test.YtjkkkmgeolfhfaaWRepsOne
import Derived.Test.YtjkkkmgeolfhfaaWInv
import Derived.Test.YtjkkkmgeolfhfaaWInvWords
import Derived.Test.YtjkkkmgeolfhfaaWGuard
import Derived.Test.YtjkkkmgeolfhfaaWNEv
import Derived.Test.YtjkkkmgeolfhfaaWMore
namespace Go.Proofs.Ytjkkkmgeolfhfaa.QCrcSums
open Go.RowKit Go.Proofs.YtjkkkmgeolfhfaaW.PrintWords Go.Proofs.YtjkkkmgeolfhfaaW.PrintLast Go.Proofs.YtjkkkmgeolfhfaaW.PrintMore
attribute [local go_sem] max2_int min2_int max_two min_two max_three min_three max_four min_four   -- for this text's walks alone
set_option linter.unusedVariables false
set_option linter.unusedSimpArgs false



def errW : Option Int → Value
  | none => .nilIface
  | some c => .iface 0 (.int .i64 c)
theorem errW_none : errW none = .nilIface := rfl
theorem errW_some (c : Int) : errW (some c) = .iface 0 (.int .i64 c) := rfl

-- the values' own types

end Go.Proofs.Ytjkkkmgeolfhfaa.QCrcSums
