/- Parts of an abstract logic over the kit's walks, and walks in it: Blk. -/
import Derived.Test.YtojnicnbmgiplaaAe
import Derived.Test.YtojnicnbmgiplaaDe
/- Rows of arguments are no longer than their bulk. -/
namespace Go.AL
set_option linter.unusedVariables false
set_option linter.unusedSimpArgs false
end Go.AL
