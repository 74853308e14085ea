/- Parts of an abstract logic over the kit's walks, and walks in it: P4da. -/
import Derived.Test.YtojnicnbmgiplaaPxa
import Derived.Test.YtojnicnbmgiplaaDe
import Derived.Test.YtojnicnbmgiplaaAf
namespace Go.Proofs.Ytojnicnbmgiplaa
open Go Go.AL
set_option linter.unusedVariables false
set_option linter.unusedSimpArgs false
set_option maxHeartbeats 4000000
end Go.Proofs.Ytojnicnbmgiplaa
