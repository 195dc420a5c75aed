/- What this text proves: words of a printed walk, as far as the row needs them; no condition. Out of the kit's print program; what isn't used is struck by wip/tools/slim.py. -/
import Derived.Test.YtecddphmnoegdaaWWords
/-! ### 41. Arrays '[n]T' as_ values: a kind (a field, an element of a row), an element read, an element set -/
