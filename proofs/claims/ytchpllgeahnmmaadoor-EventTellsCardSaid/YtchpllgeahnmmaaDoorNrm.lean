/- Parts of an abstract logic over the kit's walks, and walks in it: Nrm. -/
import Derived.Test.YtchpllgeahnmmaaDoorBa
namespace Go.AL
set_option linter.unusedVariables false
set_option linter.unusedSimpArgs false
noncomputable def bigE : List El → Nat
  | [] => 0
  | e :: l => SizeOf.sizeOf e.cond + bigE l
end Go.AL
