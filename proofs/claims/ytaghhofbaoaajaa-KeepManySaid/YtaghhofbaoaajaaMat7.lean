/- Parts of an abstract logic over the kit's walks, and walks in it: Mat7. -/
import Derived.Test.YtaghhofbaoaajaaMat6
/- Parted by a field, matches are those of each part by itself. -/
namespace Go.AL
open Go.Proofs Go.Sort
set_option linter.unusedVariables false
set_option linter.unusedSimpArgs false
def tT : Ty := ⟨ch 116, [⟨ch 98, 3⟩, ⟨ch 110, 1⟩, ⟨ch 115, 2⟩]⟩
/-! ### one part -/
section
variable {p : Pat} {l : List Kp} {b : List Bd} {c : Int}
variable (hok : ∀ x ∈ l, evtR bS x.ev = 0) (hby : p.byf = ch 110)
include hok hby
omit hok hby in
omit hok hby in
omit hok hby in
omit hok hby in
omit hok hby in
omit hok hby in
end
end Go.AL
