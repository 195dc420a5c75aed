/- What this text proves: the functions that a law reaches, as functions on numbers and lists, and that Go's come to their answers; no condition. Written by the kit's print program, turned (wip/tools/patch_print.py). -/
import Derived.Test.YtenfedpbkjdicaaProg
import Derived.Below
import Derived.Deep.Draws
import Derived.Deep.AppendLies
import Derived.Maps.AppendAt
import Derived.OwnWalk
import Derived.Laws.BytesArg
import Derived.Laws.MakeOwn
import Derived.Laws.OwnMore
import Derived.Deep.OwnRows
import Derived.Tactics
import Derived.Lib.ConvBytes
import Derived.Laws.Slices
import Derived.WalkKit
import Derived.KernelRfl
import Derived.RowKit3
import Derived.Deep.LoopGhost
import Derived.Deep.QuietTactic
import Derived.BigQuiet
import Derived.WideLaws
import Derived.Deep.DeepCutAuto
import Derived.Deep.CutBlock
import Derived.Deep.RegionHeld3
import Derived.Laws.Rows
import Derived.Lib.AppendStr
import Derived.ArgAppend
import Derived.Laws.IdiomCopy
import Derived.OrdersHeld
import Derived.Laws.BitsLemmas
import Derived.RowKit
import Derived.OpenShut
import Derived.Lib.Hide
import Derived.Test.YtenfedpbkjdicaaWWords
import Derived.Test.YtenfedpbkjdicaaWLast
import Derived.Test.YtenfedpbkjdicaaWTab
import Derived.Test.YtenfedpbkjdicaaWFour
import Derived.Test.YtenfedpbkjdicaaWQPut
import Derived.Test.YtenfedpbkjdicaaWApart
import Derived.Test.YtenfedpbkjdicaaWArr
import Derived.Test.YtenfedpbkjdicaaWZeros
import Derived.Test.YtenfedpbkjdicaaWFoot
import Derived.Test.YtenfedpbkjdicaaWKept
import Derived.Test.YtenfedpbkjdicaaWShare
import Derived.Test.YtenfedpbkjdicaaWN
import Derived.Test.YtenfedpbkjdicaaWFootNe
import Derived.Test.YtenfedpbkjdicaaWAt
import Derived.Test.YtenfedpbkjdicaaWEqStruct
import Derived.Test.YtenfedpbkjdicaaWRepsOne
import Derived.Test.YtenfedpbkjdicaaWInv
import Derived.Test.YtenfedpbkjdicaaWInvWords
import Derived.Test.YtenfedpbkjdicaaWGuard
import Derived.Test.YtenfedpbkjdicaaWNEv
import Derived.Test.YtenfedpbkjdicaaWMore
namespace Go.Proofs.Ytenfedpbkjdicaa.QNumOnce
open Go.RowKit Go.Proofs.YtenfedpbkjdicaaW.PrintWords Go.Proofs.YtenfedpbkjdicaaW.PrintLast Go.Proofs.YtenfedpbkjdicaaW.PrintMore
attribute [local go_sem] max2_int min2_int max_two min_two max_three min_three max_four min_four   -- for this text's walks alone
set_option linter.unusedVariables false
set_option linter.unusedSimpArgs false



def errW : Option Int → Value
  | none => .nilIface
  | some c => .iface 0 (.int .i64 c)
theorem errW_none : errW none = .nilIface := rfl
theorem errW_some (c : Int) : errW (some c) = .iface 0 (.int .i64 c) := rfl

theorem info5 : (Try.prog.info? 5).map (fun i => (i.zero, i.size, i.bytes)) = some (some (.int .u8 0), 1, 1) := by kernel_rfl
-- the values' own types

end Go.Proofs.Ytenfedpbkjdicaa.QNumOnce
