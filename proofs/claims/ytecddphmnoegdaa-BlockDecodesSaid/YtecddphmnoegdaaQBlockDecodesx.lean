/- What this text proves: words of a printed walk, as far as the row needs them; no condition. Out of the kit's print program; what isn't used is struck by wip/tools/slim.py. -/
import Derived.Test.YtecddphmnoegdaaQBlockDecodesx0
import Derived.Test.YtecddphmnoegdaaQBlockDecodesx1
import Derived.Test.YtecddphmnoegdaaQBlockDecodesx2
import Derived.Test.YtecddphmnoegdaaQBlockDecodesx3
import Derived.Test.YtecddphmnoegdaaQBlockDecodesx4
import Derived.Test.YtecddphmnoegdaaQBlockDecodesx5
import Derived.Test.YtecddphmnoegdaaQBlockDecodesx6
import Derived.Test.YtecddphmnoegdaaQBlockDecodesx7
import Derived.Test.YtecddphmnoegdaaQBlockDecodesx8
import Derived.Test.YtecddphmnoegdaaQBlockDecodesx9
