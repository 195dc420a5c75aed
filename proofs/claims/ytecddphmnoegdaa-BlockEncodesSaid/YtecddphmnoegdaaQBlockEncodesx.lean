/- What this text proves: the functions that a law reaches, as functions on numbers and lists, and that Go's come to their answers; no condition. Written by the kit's print program, turned (wip/tools/patch_print.py). -/
import Derived.Test.YtecddphmnoegdaaQBlockEncodesx0
import Derived.Test.YtecddphmnoegdaaQBlockEncodesx1
import Derived.Test.YtecddphmnoegdaaQBlockEncodesx2
import Derived.Test.YtecddphmnoegdaaQBlockEncodesx3
import Derived.Test.YtecddphmnoegdaaQBlockEncodesx4
import Derived.Test.YtecddphmnoegdaaQBlockEncodesx5
namespace Go.Proofs.Ytecddphmnoegdaa.QBlockEncodes
open Go.RowKit Go.Proofs.YtecddphmnoegdaaW.PrintWords Go.Proofs.YtecddphmnoegdaaW.PrintLast Go.Proofs.YtecddphmnoegdaaW.PrintMore
attribute [local go_sem] max2_int min2_int max_two min_two max_three min_three max_four min_four   -- for this text's walks alone
set_option linter.unusedVariables false
set_option linter.unusedSimpArgs false

end Go.Proofs.Ytecddphmnoegdaa.QBlockEncodes
