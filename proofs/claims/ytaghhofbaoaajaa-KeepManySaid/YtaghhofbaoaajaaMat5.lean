/- Parts of an abstract logic over the kit's walks, and walks in it: Mat5. -/
import Derived.Test.YtaghhofbaoaajaaMat4
/- All that goes on is matched; what is matched without skipping is matched with it, a greater window loses nothing. -/
namespace Go.AL
open Go.Proofs Go.Sort
set_option linter.unusedVariables false
set_option linter.unusedSimpArgs false
section
variable {s : List Ty} {p : Pat} {l : List Kp} {b : List Bd} {n : Nat}
end
/-! ### other windows, with and without skipping -/
section
variable {s : List Ty} {els : List El} {w w' : Int} {byf : ByteArray} {a a' : Bool} {l : List Kp} {b : List Bd}
end
/-! ### rows held side by side -/
end Go.AL
