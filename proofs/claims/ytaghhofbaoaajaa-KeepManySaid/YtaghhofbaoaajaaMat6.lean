/- Parts of an abstract logic over the kit's walks, and walks in it: Mat6. -/
import Derived.Test.YtaghhofbaoaajaaMat5
/- Other places, other times, as far apart: the same matches. -/
namespace Go.AL
open Go.Proofs Go.Sort
set_option linter.unusedVariables false
set_option linter.unusedSimpArgs false
/-! ### what conditions see of what is bound -/
section
variable {s : List Ty} {l l' : List Bi}
end
section
variable {s : List Ty} {p : Pat} {l : List Kp} {b : List Bd} {A T : Int} {n : Nat}
end
end Go.AL
