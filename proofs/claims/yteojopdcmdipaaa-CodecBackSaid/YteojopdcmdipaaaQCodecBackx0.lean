/- What this text proves: the functions that a law reaches, as functions on numbers and lists, and that Go's come to their answers; no condition. Written by the kit's print program, turned (wip/tools/patch_print.py). -/
import Derived.Test.YteojopdcmdipaaaProg
import Derived.Below
import Derived.Deep.Draws
import Derived.Deep.AppendLies
import Derived.Maps.AppendAt
import Derived.OwnWalk
import Derived.Laws.BytesArg
import Derived.Laws.MakeOwn
import Derived.Laws.OwnMore
import Derived.Deep.OwnRows
import Derived.Tactics
import Derived.Lib.ConvBytes
import Derived.Laws.Slices
import Derived.WalkKit
import Derived.KernelRfl
import Derived.RowKit3
import Derived.Deep.LoopGhost
import Derived.Deep.QuietTactic
import Derived.BigQuiet
import Derived.WideLaws
import Derived.Deep.DeepCutAuto
import Derived.Deep.CutBlock
import Derived.Deep.RegionHeld3
import Derived.Laws.Rows
import Derived.Lib.AppendStr
import Derived.ArgAppend
import Derived.Laws.IdiomCopy
import Derived.OrdersHeld
import Derived.Laws.BitsLemmas
import Derived.RowKit
import Derived.OpenShut
import Derived.Lib.Hide
import Derived.OneCell
import Derived.Outline
import Derived.Deep.RegionLaw
import Derived.Test.YteojopdcmdipaaaWWords
import Derived.Test.YteojopdcmdipaaaWLast
import Derived.Test.YteojopdcmdipaaaWTab
import Derived.Test.YteojopdcmdipaaaWFour
import Derived.Test.YteojopdcmdipaaaWQPut
import Derived.Test.YteojopdcmdipaaaWApart
import Derived.Test.YteojopdcmdipaaaWArr
import Derived.Test.YteojopdcmdipaaaWZeros
import Derived.Test.YteojopdcmdipaaaWFoot
import Derived.Test.YteojopdcmdipaaaWKept
import Derived.Test.YteojopdcmdipaaaWShare
import Derived.Test.YteojopdcmdipaaaWN
import Derived.Test.YteojopdcmdipaaaWFootNe
import Derived.Test.YteojopdcmdipaaaWAt
import Derived.Test.YteojopdcmdipaaaWEqStruct
import Derived.Test.YteojopdcmdipaaaWRepsOne
import Derived.Test.YteojopdcmdipaaaWInv
import Derived.Test.YteojopdcmdipaaaWInvWords
import Derived.Test.YteojopdcmdipaaaWGuard
import Derived.Test.YteojopdcmdipaaaWNEv
import Derived.Test.YteojopdcmdipaaaWMore
namespace Go.Proofs.Yteojopdcmdipaaa.QCodecBack
open Go.RowKit Go.Proofs.YteojopdcmdipaaaW.PrintWords Go.Proofs.YteojopdcmdipaaaW.PrintLast Go.Proofs.YteojopdcmdipaaaW.PrintMore
attribute [local go_sem] max2_int min2_int max_two min_two max_three min_three max_four min_four   -- for this text's walks alone
set_option linter.unusedVariables false
set_option linter.unusedSimpArgs false



def errW : Option Int → Value
  | none => .nilIface
  | some c => .iface 0 (.int .i64 c)
theorem errW_none : errW none = .nilIface := rfl
theorem errW_some (c : Int) : errW (some c) = .iface 0 (.int .i64 c) := rfl

theorem info3 : (Try.prog.info? 3).map (fun i => (i.zero, i.size, i.bytes)) = some (some (.int .i64 0), 1, 8) := by kernel_rfl
theorem info5 : (Try.prog.info? 5).map (fun i => (i.zero, i.size, i.bytes)) = some (some (.int .u8 0), 1, 1) := by kernel_rfl
-- the values' own types

end Go.Proofs.Yteojopdcmdipaaa.QCodecBack
