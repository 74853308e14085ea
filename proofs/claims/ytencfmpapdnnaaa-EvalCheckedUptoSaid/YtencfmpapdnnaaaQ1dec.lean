/- Parts of an abstract logic over the kit's walks, and walks in it: Q1dec. -/
import Derived.Test.YtencfmpapdnnaaaYdec
import Derived.Test.YtencfmpapdnnaaaAe
import Derived.Test.YtencfmpapdnnaaaNrm2
/- What conditions are as arguments, with their bulk (the third seat). -/
namespace Go.Proofs.Ytencfmpapdnnaaa
open Go Go.AL Go.ChangeShapes Go.WideShapes Go.ChangeAt Go.RowKit
set_option linter.unusedVariables false
set_option linter.unusedSimpArgs false
theorem bulkR {H : Type} : Bulk (H := H) Rows.uptoBulk Rows.uptoBulkAll := by
  refine ⟨by simp [Rows.uptoBulkAll], fun d l => by simp [Rows.uptoBulkAll], fun d => ?_, fun b => by simp [Rows.uptoBulk], fun l r => by simp only [Rows.uptoBulk]; omega, fun l => by simp only [Rows.uptoBulk]; omega⟩
  cases d with
  | lit l => cases l <;> simp [Rows.uptoBulk]
  | nil => simp [Rows.uptoBulk]
  | ptr d => simp [Rows.uptoBulk]
  | slice elems spare => simp [Rows.uptoBulk]
  | agg parts => simp [Rows.uptoBulk]
  | iface t d => simp [Rows.uptoBulk]
  | map entries => simp [Rows.uptoBulk]
  | held h => simp [Rows.uptoBulk]
theorem dec25 {n : Nat} {x : List D} (h : DTc T n 25 x) : ∃ v, x = encV v := by
  cases n with
  | zero => exact h.elim
  | succ n =>
    have h : partsT (DTc T n) [3, 2, 9] x := h
    obtain ⟨p1, q1, rfl, h1, p2, q2, rfl, h2, p3, q3, rfl, h3, rfl⟩ := h
    obtain ⟨a, rfl⟩ := dec3 h1
    obtain ⟨b, rfl⟩ := dec2 h2
    obtain ⟨c, rfl⟩ := dec9 h3
    exact ⟨⟨a, b, c⟩, rfl⟩
theorem dec28 : ∀ {n : Nat} {x : List D}, DTc T n 28 x → ∃ e, x = encX e
  | 0, x, h => h.elim
  | 1, x, h => by
    have h : partsT (DTc T 0) [3, 25, 9, 9, 26] x := h
    obtain ⟨p1, q1, rfl, h1, _⟩ := h
    exact h1.elim
  | n + 2, x, h => by
    have h : partsT (DTc T (n + 1)) [3, 25, 9, 9, 26] x := h
    obtain ⟨p1, q1, rfl, h1, p2, q2, rfl, h2, p3, q3, rfl, h3, p4, q4, rfl, h4, p5, q5, rfl, h5, rfl⟩ := h
    obtain ⟨a, rfl⟩ := dec3 h1
    obtain ⟨v, rfl⟩ := dec25 h2
    obtain ⟨b, rfl⟩ := dec9 h3
    obtain ⟨c, rfl⟩ := dec9 h4
    have h5 : ∃ xs : List (List D), p5 = [.sl 7 96 xs] ∧ (∀ y ∈ xs, DTc T n 28 y) ∧ xs.length * 96 ≤ 140737488351232 := h5
    obtain ⟨xs, rfl, h6, _⟩ := h5
    obtain ⟨l, rfl⟩ := dec_list (enc := encX) fun y hy => dec28 (h6 y hy)
    exact ⟨.mk a v b c l, by simp [encX, encV, encXs_eq]⟩
theorem closedC : closedT T [2, 3, 4, 9, 25, 26, 28] = true := by decide +kernel
theorem small_all {H : Type} {l : List (DataW H)} (hk : Rows.uptoSmall H l = true) : Rows.uptoBulkAll l ≤ 1048576 := of_decide_eq_true hk
end Go.Proofs.Ytencfmpapdnnaaa
