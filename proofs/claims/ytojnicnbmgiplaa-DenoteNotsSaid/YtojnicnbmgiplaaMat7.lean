/- Parts of an abstract logic over the kit's walks, and walks in it: Mat7. -/
import Derived.Test.YtojnicnbmgiplaaMat6
/- Parted by a field, matches are those of each part by itself. -/
namespace Go.AL
open Go.Proofs Go.Sort
set_option linter.unusedVariables false
set_option linter.unusedSimpArgs false
def tT : Ty := ⟨ch 116, [⟨ch 98, 3⟩, ⟨ch 110, 1⟩, ⟨ch 115, 2⟩]⟩
def tU : Ty := ⟨ch 117, [⟨ch 110, 1⟩]⟩
theorem find_t : findT bS (ch 116) = (tT, true) := findT_at (i := 0) rfl (by decide +kernel) (fun j a hj => by omega)
theorem find_u : findT bS (ch 117) = (tU, true) := findT_at (i := 1) rfl (by decide +kernel) (fun j a hj ha => by
  match j with
  | 0 => cases ha; decide +kernel
  | j + 1 => omega)
/-! ### one part -/
section
variable {p : Pat} {l : List Kp} {b : List Bd} {c : Int}
variable (hok : ∀ x ∈ l, evtR bS x.ev = 0) (hby : p.byf = ch 110)
include hok hby
omit hok hby in
omit hok hby in
omit hok hby in
omit hok hby in
omit hok hby in
omit hok hby in
end
end Go.AL
