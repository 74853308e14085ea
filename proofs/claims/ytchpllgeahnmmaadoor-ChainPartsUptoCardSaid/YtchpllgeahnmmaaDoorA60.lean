/- Parts of an abstract logic over the kit's walks, and walks in it: A60. -/
import Derived.Test.YtchpllgeahnmmaaDoorAe
import Derived.Test.YtchpllgeahnmmaaDoorAf
/- AL, part 60: calls that look at a table, calls that give an own row, in drawn heads with whatever effects. -/
namespace Go.AL
set_option linter.unusedVariables false
set_option linter.unusedSimpArgs false
section
variable {h : Heap} {q k : Nat} {e : Ent}
end
section
variable {E : Env} {ops : List Oper} {J : Jt} {s : Slots} {h : Heap} {n i : Nat} {t : Eff} {K : Slots → Prop}
end
end Go.AL
