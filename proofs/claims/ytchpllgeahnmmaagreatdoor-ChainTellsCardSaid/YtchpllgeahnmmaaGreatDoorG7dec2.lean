/- Parts of an abstract logic over the kit's walks, and walks in it: G7dec2. -/
import Derived.Test.YtchpllgeahnmmaaGreatDoorG7dec
namespace Go.Proofs.YtchpllgeahnmmaaGreatDoor
open Go Go.AL Go.ChangeShapes Go.WideShapes Go.ChangeAt Go.RowKit
set_option linter.unusedVariables false
theorem dec25 {n : Nat} {x : List D} (h : DTc T n 25 x) : ∃ l : List Chg, x = [.sl 7 88 (l.map encC)] := by
  cases n with
  | zero => exact h.elim
  | succ n =>
    have h : ∃ xs : List (List D), x = [.sl 7 88 xs] ∧ (∀ y ∈ xs, DTc T n 42 y) ∧ xs.length * 88 ≤ 140737488351232 := h
    obtain ⟨xs, rfl, h1, _⟩ := h
    obtain ⟨l, rfl⟩ := dec_list fun y hy => dec42 (h1 y hy)
    exact ⟨l, rfl⟩
theorem closed7b : closedT T [2, 3, 4, 5, 9, 22, 24, 26, 28, 40, 42, 25, 63, 64, 66] = true := by decide +kernel
end Go.Proofs.YtchpllgeahnmmaaGreatDoor
