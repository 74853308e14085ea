/- Parts of an abstract logic over the kit's walks, and walks in it: ELa. -/
import Derived.Test.YtojnicnbmgiplaaEOv
/- What an alias stands for; texts compared. Nothing of a program. -/
namespace Go.AL
set_option linter.unusedVariables false
set_option linter.unusedSimpArgs false
/-! ### The last one -/
/-! ### Texts -/
theorem less_tot {a b : ByteArray} : (!less b a) = (less a b || same a b) := by
  cases h1 : less b a with
  | true =>
    have h2 := less_asymm h1
    have h3 : same a b = false := by
      cases h : same a b with
      | false => rfl
      | true => rw [same_eq h, less_self] at h1; cases h1
    rw [h2, h3]; rfl
  | false =>
    cases h2 : less a b with
    | true => rfl
    | false =>
      cases h3 : same a b with
      | true => rfl
      | false => have := less_total h3 h2; rw [h1] at this; cases this
end Go.AL
