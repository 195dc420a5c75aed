/- What this text proves: the functions that a law reaches, as functions on numbers and lists, and that Go's come to their answers; no condition. Written by the kit's print program, turned (wip/tools/patch_print.py). -/
import Derived.Test.YtecddphmnoegdaaQBlockBackx0
import Derived.Test.YtecddphmnoegdaaQBlockBackx1
import Derived.Test.YtecddphmnoegdaaQBlockBackx2
import Derived.Test.YtecddphmnoegdaaQBlockBackx3
import Derived.Test.YtecddphmnoegdaaQBlockBackx4
import Derived.Test.YtecddphmnoegdaaQBlockBackx5
import Derived.Test.YtecddphmnoegdaaQBlockBackx6
namespace Go.Proofs.Ytecddphmnoegdaa.QBlockBack
open Go.RowKit Go.Proofs.YtecddphmnoegdaaW.PrintWords Go.Proofs.YtecddphmnoegdaaW.PrintLast Go.Proofs.YtecddphmnoegdaaW.PrintMore
attribute [local go_sem] max2_int min2_int max_two min_two max_three min_three max_four min_four   -- for this text's walks alone
set_option linter.unusedVariables false
set_option linter.unusedSimpArgs false

end Go.Proofs.Ytecddphmnoegdaa.QBlockBack
