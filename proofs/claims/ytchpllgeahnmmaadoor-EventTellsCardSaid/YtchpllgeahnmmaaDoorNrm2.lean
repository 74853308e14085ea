/- Parts of an abstract logic over the kit's walks, and walks in it: Nrm2. -/
import Derived.Test.YtchpllgeahnmmaaDoorNrm
import Derived.Test.YtchpllgeahnmmaaDoorAe
namespace Go.AL
set_option linter.unusedVariables false
set_option linter.unusedSimpArgs false
end Go.AL
