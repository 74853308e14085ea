/- Parts of an abstract logic over the kit's walks, and walks in it: Dif3. -/
import Derived.Test.YtjiknbjkbakegaaDoorDif2
/- One thing changed: what the walk wants. -/
namespace Go.AL
set_option linter.unusedVariables false
end Go.AL
