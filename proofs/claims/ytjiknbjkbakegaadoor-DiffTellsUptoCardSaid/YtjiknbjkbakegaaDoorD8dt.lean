/- Parts of an abstract logic over the kit's walks, and walks in it: D8dt. -/
import Derived.Test.YtjiknbjkbakegaaDoorD8dec
import Derived.Test.YtjiknbjkbakegaaDoorD8it
import Derived.Stop.LaidErr
/- What a difference is as an argument; the table that the rows list. -/
namespace Go.Proofs.YtjiknbjkbakegaaDoor
open Go Go.AL Go.ChangeShapes Go.WideShapes Go.ChangeAt Go.RowKit
set_option linter.unusedVariables false
theorem dec3r {n : Nat} {x : List D} (h : DTc T n 3 x) : ∃ m, (-9223372036854775808 ≤ m ∧ m ≤ 9223372036854775807) ∧ x = [int m] := by
  cases n with
  | zero => exact h.elim
  | succ n =>
    have h : ∃ m, x = [.lit (.int .i64 m)] ∧ IntKind.i64.min ≤ m ∧ m ≤ IntKind.i64.max := h
    obtain ⟨s, rfl, h1, h2⟩ := h
    have e1 : IntKind.i64.min = -9223372036854775808 := rfl
    have e2 : IntKind.i64.max = 9223372036854775807 := rfl
    exact ⟨s, ⟨by omega, by omega⟩, rfl⟩
theorem dec26 {n : Nat} {x : List D} (h : DTc T n 26 x) : ∃ d : Dl, (-9223372036854775808 ≤ d.pl ∧ d.pl ≤ 9223372036854775807) ∧ x = encDl d := by
  cases n with
  | zero => exact h.elim
  | succ n =>
    have h : partsT (DTc T n) [3, 3] x := h
    obtain ⟨p1, q1, rfl, h1, p2, q2, rfl, h2, rfl⟩ := h
    obtain ⟨a, rfl⟩ := dec3 h1
    obtain ⟨b, hb, rfl⟩ := dec3r h2
    exact ⟨⟨a, b⟩, hb, rfl⟩
theorem closedT19 : closedT T [2, 3, 4, 5, 9, 22, 24, 26, 36, 38, 39, 41, 43] = true := by decide +kernel
theorem gTab : Tryd.prog.globalNamed "internal/strconv.uint64pow10" = some 0 := by kernel_rfl
theorem gTabType : (Tryd.prog.globals[0]?).map (·.type) = some 90 := by kernel_rfl
theorem cells90 : Tryd.prog.cellsOf 90 = 20 := by kernel_rfl
theorem cells69 : Tryd.prog.cellsOf 69 = 1 := by kernel_rfl
theorem tab_of {W : World} (h : laidMetH Tryd.prog Rows.diffTellsUptoRow.laid W) : Tab W := by
  have h' : laidMet Tryd.prog Rows.diffTellsUptoRow.laid W := h
  exact Lib.tabIs_of_head (rest := []) gTab gTabType Tryd.underlying90 Tryd.underlying69 cells69 cells90 (laidMet.tail (laidMet.tail h'))
end Go.Proofs.YtjiknbjkbakegaaDoor
