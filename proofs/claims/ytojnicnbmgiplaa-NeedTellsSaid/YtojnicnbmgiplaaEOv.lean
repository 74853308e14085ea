/- Parts of an abstract logic over the kit's walks, and walks in it: EOv. -/
import Derived.Test.YtojnicnbmgiplaaBa
/- Sums, differences, products by halves of 128 bits. Nothing of a program. -/
namespace Go.AL
set_option linter.unusedVariables false
set_option linter.unusedSimpArgs false
/-! ### Products -/
end Go.AL
