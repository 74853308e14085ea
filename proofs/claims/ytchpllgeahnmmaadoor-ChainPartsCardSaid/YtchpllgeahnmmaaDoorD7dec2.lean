/- Parts of an abstract logic over the kit's walks, and walks in it: D7dec2. -/
import Derived.Test.YtchpllgeahnmmaaDoorD7dec
namespace Go.Proofs.YtchpllgeahnmmaaDoor
open Go Go.AL Go.ChangeShapes Go.WideShapes Go.ChangeAt Go.RowKit
set_option linter.unusedVariables false
theorem dec53 {n : Nat} {x : List D} (h : DTc T n 53 x) : ∃ l : List Chg, x = [.sl 7 88 (l.map encC)] := by
  cases n with
  | zero => exact h.elim
  | succ n =>
    have h : ∃ xs : List (List D), x = [.sl 7 88 xs] ∧ (∀ y ∈ xs, DTc T n 43 y) ∧ xs.length * 88 ≤ 140737488351232 := h
    obtain ⟨xs, rfl, h1, _⟩ := h
    obtain ⟨l, rfl⟩ := dec_list fun y hy => dec43 (h1 y hy)
    exact ⟨l, rfl⟩
theorem closed7b : closedT T [2, 3, 4, 5, 9, 22, 24, 25, 27, 31, 43, 53, 69, 70, 72] = true := by decide +kernel
end Go.Proofs.YtchpllgeahnmmaaDoor
