/- Parts of an abstract logic over the kit's walks, and walks in it: ELa. -/
import Derived.Test.YtchpllgeahnmmaaDoorEOv
namespace Go.AL
set_option linter.unusedVariables false
set_option linter.unusedSimpArgs false
end Go.AL
