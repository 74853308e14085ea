/- Parts of an abstract logic over the kit's walks, and walks in it: N4dec. -/
import Derived.Test.YthffbfjnahipcaaN2dec
import Derived.Test.YthffbfjnahipcaaMean5
/- What schemas, events and binds are as arguments (the second seat). -/
namespace Go.Proofs.Ythffbfjnahipcaa
open Go Go.AL Go.ChangeShapes Go.WideShapes Go.ChangeAt Go.RowKit
set_option linter.unusedVariables false
set_option linter.unusedSimpArgs false
theorem dec99 {n : Nat} {x : List D} (h : DTc T n 99 x) : ∃ f, x = encF f := by
  cases n with
  | zero => exact h.elim
  | succ n =>
    have h : partsT (DTc T n) [9, 3] x := h
    obtain ⟨p, _, rfl, h1, p2, _, rfl, h2, rfl⟩ := h
    obtain ⟨s, rfl⟩ := dec9 h1
    obtain ⟨m, rfl⟩ := dec3 h2
    exact ⟨⟨s, m⟩, rfl⟩
theorem dec84 {n : Nat} {x : List D} (h : DTc T n 84 x) : ∃ l : List Fld, x = [.sl 2 24 (l.map encF)] := by
  cases n with
  | zero => exact h.elim
  | succ n =>
    have h : ∃ xs : List (List D), x = [.sl 2 24 xs] ∧ (∀ y ∈ xs, DTc T n 99 y) ∧ xs.length * 24 ≤ 140737488351232 := h
    obtain ⟨xs, rfl, h1, _⟩ := h
    obtain ⟨l, rfl⟩ := dec_list (enc := encF) fun y hy => dec99 (h1 y hy)
    exact ⟨l, rfl⟩
theorem dec86 {n : Nat} {x : List D} (h : DTc T n 86 x) : ∃ t, x = encT t := by
  cases n with
  | zero => exact h.elim
  | succ n =>
    have h : partsT (DTc T n) [9, 84] x := h
    obtain ⟨p, _, rfl, h1, p2, _, rfl, h2, rfl⟩ := h
    obtain ⟨s, rfl⟩ := dec9 h1
    obtain ⟨l, rfl⟩ := dec84 h2
    exact ⟨⟨s, l⟩, rfl⟩
theorem dec55 {n : Nat} {x : List D} (h : DTc T n 55 x) : ∃ s, x = [encS s] := by
  cases n with
  | zero => exact h.elim
  | succ n =>
    have h : partsT (DTc T n) [53] x := h
    obtain ⟨p, _, rfl, h1, rfl⟩ := h
    cases n with
    | zero => exact h1.elim
    | succ n =>
      have h1 : ∃ xs : List (List D), p = [.sl 2 40 xs] ∧ (∀ y ∈ xs, DTc T n 86 y) ∧ xs.length * 40 ≤ 140737488351232 := h1
      obtain ⟨xs, rfl, h1, _⟩ := h1
      obtain ⟨l, rfl⟩ := dec_list (enc := encT) fun y hy => dec86 (h1 y hy)
      exact ⟨l, rfl⟩
theorem dec59 {n : Nat} {x : List D} (h : DTc T n 59 x) : ∃ l : List Vl, x = [.sl 3 32 (l.map encV)] := by
  cases n with
  | zero => exact h.elim
  | succ n =>
    have h : ∃ xs : List (List D), x = [.sl 3 32 xs] ∧ (∀ y ∈ xs, DTc T n 24 y) ∧ xs.length * 32 ≤ 140737488351232 := h
    obtain ⟨xs, rfl, h1, _⟩ := h
    obtain ⟨l, rfl⟩ := dec_list (enc := encV) fun y hy => dec24 (h1 y hy)
    exact ⟨l, rfl⟩
theorem dec61 {n : Nat} {x : List D} (h : DTc T n 61 x) : ∃ e, x = encE e := by
  cases n with
  | zero => exact h.elim
  | succ n =>
    have h : partsT (DTc T n) [9, 3, 59] x := h
    obtain ⟨p, _, rfl, h1, p2, _, rfl, h2, p3, _, rfl, h3, rfl⟩ := h
    obtain ⟨s, rfl⟩ := dec9 h1
    obtain ⟨m, rfl⟩ := dec3 h2
    obtain ⟨l, rfl⟩ := dec59 h3
    exact ⟨⟨s, m, l⟩, rfl⟩
theorem dec63 {n : Nat} {x : List D} (h : DTc T n 63 x) : ∃ b, x = encBi b := by
  cases n with
  | zero => exact h.elim
  | succ n =>
    have h : partsT (DTc T n) [9, 61] x := h
    obtain ⟨p, _, rfl, h1, p2, _, rfl, h2, rfl⟩ := h
    obtain ⟨s, rfl⟩ := dec9 h1
    obtain ⟨e, rfl⟩ := dec61 h2
    exact ⟨⟨s, e⟩, by simp [encBi, encE]⟩
theorem dec56 {n : Nat} {x : List D} (h : DTc T n 56 x) : ∃ l : List Bi, x = [.sl 4 64 (l.map encBi)] := by
  cases n with
  | zero => exact h.elim
  | succ n =>
    have h : ∃ xs : List (List D), x = [.sl 4 64 xs] ∧ (∀ y ∈ xs, DTc T n 63 y) ∧ xs.length * 64 ≤ 140737488351232 := h
    obtain ⟨xs, rfl, h1, _⟩ := h
    obtain ⟨l, rfl⟩ := dec_list (enc := encBi) fun y hy => dec63 (h1 y hy)
    exact ⟨l, rfl⟩
theorem closedM : closedT T [2, 3, 4, 5, 9, 24, 25, 27, 35, 37, 39, 41, 53, 55, 56, 59, 61, 63, 84, 86, 99] = true := by decide +kernel
end Go.Proofs.Ythffbfjnahipcaa
