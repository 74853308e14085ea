/- Parts of an abstract logic over the kit's walks, and walks in it: EOv. -/
import Derived.Test.YtchpllgeahnmmaaDoorBa
namespace Go.AL
set_option linter.unusedVariables false
set_option linter.unusedSimpArgs false
end Go.AL
