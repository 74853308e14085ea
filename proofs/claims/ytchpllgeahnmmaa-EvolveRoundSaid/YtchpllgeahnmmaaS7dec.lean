/- Parts of an abstract logic over the kit's walks, and walks in it: S7dec. -/
import Derived.Test.YtchpllgeahnmmaaS7t
import Derived.Test.YtchpllgeahnmmaaAc
import Derived.Test.YtchpllgeahnmmaaEz
import Derived.Test.YtchpllgeahnmmaaRows
import Derived.WalkKit
import Derived.ProofKit
import Derived.OpenShut
import Derived.ShutString
import Derived.SizedLaws
import Derived.Carry
/- What arguments are, in seat r7. -/
namespace Go.Proofs.Ytchpllgeahnmmaa
open Go Go.AL Go.ChangeShapes Go.WideShapes Go.ChangeAt Go.RowKit
set_option linter.unusedVariables false
set_option linter.unusedSimpArgs false

theorem dec_list {α : Type} {enc : α → List D} : ∀ {xs : List (List D)}, (∀ x ∈ xs, ∃ a, x = enc a) → ∃ l : List α, xs = l.map enc
  | [], _ => ⟨[], rfl⟩
  | x :: xs, h => by
    obtain ⟨a, rfl⟩ := h x (by simp)
    obtain ⟨l, rfl⟩ := dec_list (xs := xs) fun y hy => h y (by simp [hy])
    exact ⟨a :: l, rfl⟩
theorem dec4 {n : Nat} {x : List D} (h : DTc T n 4 x) : ∃ b, x = [boo b] := by
  cases n with
  | zero => exact h.elim
  | succ n =>
    have h : ∃ m, x = [.lit (.bool m)] := h
    exact h
theorem dec5 {n : Nat} {x : List D} (h : DTc T n 5 x) : ∃ u : UInt8, x = [.lit (.int .u8 (u.toNat : Int))] := by
  cases n with
  | zero => exact h.elim
  | succ n =>
    have h : ∃ m, x = [.lit (.int .u8 m)] ∧ IntKind.u8.min ≤ m ∧ m ≤ IntKind.u8.max := h
    obtain ⟨s, rfl, h1, h2⟩ := h
    have e1 : IntKind.u8.min = 0 := rfl
    have e2 : IntKind.u8.max = 255 := rfl
    obtain ⟨m, rfl⟩ := Int.eq_ofNat_of_zero_le (show 0 ≤ s by omega)
    refine ⟨UInt8.ofNat m, ?_⟩
    rw [UInt8.toNat_ofNat_of_lt' (by show m < 256; omega)]
theorem dec2 {n : Nat} {x : List D} (h : DTc T n 2 x) : ∃ m, x = [int m] := by
  cases n with
  | zero => exact h.elim
  | succ n =>
    have h : ∃ m, x = [.lit (.int .i64 m)] ∧ IntKind.i64.min ≤ m ∧ m ≤ IntKind.i64.max := h
    obtain ⟨s, rfl, _⟩ := h
    exact ⟨s, rfl⟩
theorem dec3 {n : Nat} {x : List D} (h : DTc T n 3 x) : ∃ m, x = [int m] := by
  cases n with
  | zero => exact h.elim
  | succ n =>
    have h : ∃ m, x = [.lit (.int .i64 m)] ∧ IntKind.i64.min ≤ m ∧ m ≤ IntKind.i64.max := h
    obtain ⟨s, rfl, _⟩ := h
    exact ⟨s, rfl⟩
theorem dec9 {n : Nat} {x : List D} (h : DTc T n 9 x) : ∃ s, x = [str s] := by
  cases n with
  | zero => exact h.elim
  | succ n =>
    have h : ∃ s, x = [.lit (.string s)] ∧ s.size ≤ 140737488351232 := h
    obtain ⟨s, rfl, _⟩ := h
    exact ⟨s, rfl⟩
theorem dec31 {n : Nat} {x : List D} (h : DTc T n 31 x) : ∃ f, x = encF f := by
  cases n with
  | zero => exact h.elim
  | succ n =>
    have h : partsT (DTc T n) [9, 3] x := h
    obtain ⟨p, _, rfl, h1, p2, _, rfl, h2, rfl⟩ := h
    obtain ⟨s, rfl⟩ := dec9 h1
    obtain ⟨m, rfl⟩ := dec3 h2
    exact ⟨⟨s, m⟩, rfl⟩
theorem dec27 {n : Nat} {x : List D} (h : DTc T n 27 x) : ∃ l : List Fld, x = [.sl 2 24 (l.map encF)] := by
  cases n with
  | zero => exact h.elim
  | succ n =>
    have h : ∃ xs : List (List D), x = [.sl 2 24 xs] ∧ (∀ y ∈ xs, DTc T n 31 y) ∧ xs.length * 24 ≤ 140737488351232 := h
    obtain ⟨xs, rfl, h1, _⟩ := h
    obtain ⟨l, rfl⟩ := dec_list fun y hy => dec31 (h1 y hy)
    exact ⟨l, rfl⟩
theorem dec29 {n : Nat} {x : List D} (h : DTc T n 29 x) : ∃ t, x = encT t := by
  cases n with
  | zero => exact h.elim
  | succ n =>
    have h : partsT (DTc T n) [9, 27] x := h
    obtain ⟨p, _, rfl, h1, p2, _, rfl, h2, rfl⟩ := h
    obtain ⟨s, rfl⟩ := dec9 h1
    obtain ⟨l, rfl⟩ := dec27 h2
    exact ⟨⟨s, l⟩, rfl⟩
theorem dec25 {n : Nat} {x : List D} (h : DTc T n 25 x) : ∃ s, x = [encS s] := by
  cases n with
  | zero => exact h.elim
  | succ n =>
    have h : partsT (DTc T n) [23] x := h
    obtain ⟨p, _, rfl, h1, rfl⟩ := h
    cases n with
    | zero => exact h1.elim
    | succ n =>
      have h1 : ∃ xs : List (List D), p = [.sl 2 40 xs] ∧ (∀ y ∈ xs, DTc T n 29 y) ∧ xs.length * 40 ≤ 140737488351232 := h1
      obtain ⟨xs, rfl, h1, _⟩ := h1
      obtain ⟨l, rfl⟩ := dec_list fun y hy => dec29 (h1 y hy)
      exact ⟨l, rfl⟩
theorem dec35 {n : Nat} {x : List D} (h : DTc T n 35 x) : ∃ v, x = encV v := by
  cases n with
  | zero => exact h.elim
  | succ n =>
    have h : partsT (DTc T n) [3, 2, 9] x := h
    obtain ⟨p, _, rfl, h1, p2, _, rfl, h2, p3, _, rfl, h3, rfl⟩ := h
    obtain ⟨k, rfl⟩ := dec3 h1
    obtain ⟨m, rfl⟩ := dec2 h2
    obtain ⟨s, rfl⟩ := dec9 h3
    exact ⟨⟨k, m, s⟩, rfl⟩
theorem dec38 {n : Nat} {x : List D} (h : DTc T n 38 x) : ∃ l : List Vl, x = [.sl 3 32 (l.map encV)] := by
  cases n with
  | zero => exact h.elim
  | succ n =>
    have h : ∃ xs : List (List D), x = [.sl 3 32 xs] ∧ (∀ y ∈ xs, DTc T n 35 y) ∧ xs.length * 32 ≤ 140737488351232 := h
    obtain ⟨xs, rfl, h1, _⟩ := h
    obtain ⟨l, rfl⟩ := dec_list (enc := encV) fun y hy => dec35 (h1 y hy)
    exact ⟨l, rfl⟩
theorem dec40 {n : Nat} {x : List D} (h : DTc T n 40 x) : ∃ e, x = encE e := by
  cases n with
  | zero => exact h.elim
  | succ n =>
    have h : partsT (DTc T n) [9, 3, 38] x := h
    obtain ⟨p, _, rfl, h1, p2, _, rfl, h2, p3, _, rfl, h3, rfl⟩ := h
    obtain ⟨s, rfl⟩ := dec9 h1
    obtain ⟨m, rfl⟩ := dec3 h2
    obtain ⟨l, rfl⟩ := dec38 h3
    exact ⟨⟨s, m, l⟩, rfl⟩
theorem closed7 : closedT T [2, 3, 4, 5, 9, 23, 25, 27, 29, 31, 35, 37, 38, 40] = true := by decide +kernel
theorem own : ownKnob Try.prog.godebug = none := by kernel_rfl
theorem laidOut : laidOutB Try.prog = true := by kernel_rfl
end Go.Proofs.Ytchpllgeahnmmaa
