/- Parts of an abstract logic over the kit's walks, and walks in it: Blk. -/
import Derived.Test.YtojnicnbmgiplaaGreatAe
import Derived.Test.YtojnicnbmgiplaaGreatDe
/- Rows of arguments are no longer than their bulk. -/
namespace Go.AL
set_option linter.unusedVariables false
set_option linter.unusedSimpArgs false
theorem len_bulkCs {α : Type} {enc : α → List D} (h : ∀ a, 1 ≤ bulkDs (enc a)) : ∀ l : List α, l.length ≤ bulkCs (l.map enc)
  | [] => by simp [bulkCs]
  | a :: l => by
    have := len_bulkCs h l
    have := h a
    simp only [List.length_cons, List.map_cons, bulkCs]; omega
theorem evs_bulk (l : List Ev) : l.length ≤ bulkDs [.sl 3 48 (l.map encE)] := by
  have := len_bulkCs (enc := encE) (fun e => by simp only [encE, bulkDs, bulkD]; omega) l
  simp only [bulkDs, bulkD]; omega
end Go.AL
