/- Parts of an abstract logic over the kit's walks, and walks in it: D8e. -/
import Derived.Test.YtjiknbjkbakegaaDoorD8d
namespace Go.Proofs.YtjiknbjkbakegaaDoor
open Go Go.AL
set_option linter.unusedVariables false
set_option linter.unusedSimpArgs false
set_option maxHeartbeats 4000000
end Go.Proofs.YtjiknbjkbakegaaDoor
