/- Parts of an abstract logic over the kit's walks, and walks in it: P4dec. -/
import Derived.Test.YtojnicnbmgiplaaPxa
import Derived.Test.YtojnicnbmgiplaaAc
import Derived.Test.YtojnicnbmgiplaaDe
import Derived.Test.YtojnicnbmgiplaaBlk
import Derived.Test.YtojnicnbmgiplaaBa
import Derived.Test.YtojnicnbmgiplaaAd
import Derived.Test.YtojnicnbmgiplaaAe
import Derived.Test.YtojnicnbmgiplaaRows
import Derived.WalkKit
import Derived.ProofKit
import Derived.OpenShut
import Derived.ShutString
import Derived.SizedLaws
import Derived.JoinedCond
import Derived.Deep.CondSized
import Derived.Carry
/- What arguments are. -/
namespace Go.Proofs.Ytojnicnbmgiplaa
open Go Go.AL Go.ChangeShapes Go.WideShapes Go.ChangeAt Go.RowKit
set_option linter.unusedVariables false
set_option linter.unusedSimpArgs false
theorem dec_list {α : Type} {enc : α → List D} : ∀ {xs : List (List D)}, (∀ x ∈ xs, ∃ a, x = enc a) → ∃ l : List α, xs = l.map enc
  | [], _ => ⟨[], rfl⟩
  | x :: xs, h => by
    obtain ⟨a, rfl⟩ := h x (by simp)
    obtain ⟨l, rfl⟩ := dec_list (xs := xs) fun y hy => h y (by simp [hy])
    exact ⟨a :: l, rfl⟩
theorem dec5 {n : Nat} {x : List D} (h : DTc T n 5 x) : ∃ u : UInt8, x = [.lit (.int .u8 (u.toNat : Int))] := by
  cases n with
  | zero => exact h.elim
  | succ n =>
    have h : ∃ m, x = [.lit (.int .u8 m)] ∧ IntKind.u8.min ≤ m ∧ m ≤ IntKind.u8.max := h
    obtain ⟨s, rfl, h1, h2⟩ := h
    have e1 : IntKind.u8.min = 0 := rfl
    have e2 : IntKind.u8.max = 255 := rfl
    obtain ⟨m, rfl⟩ := Int.eq_ofNat_of_zero_le (show 0 ≤ s by omega)
    refine ⟨UInt8.ofNat m, ?_⟩
    rw [UInt8.toNat_ofNat_of_lt' (by show m < 256; omega)]
theorem dec54 {n : Nat} {x : List D} (h : DTc T n 54 x) : ∃ l : List UInt8, x = [.sl 1 1 (bytesD l)] := by
  cases n with
  | zero => exact h.elim
  | succ n =>
    have h : ∃ xs : List (List D), x = [.sl 1 1 xs] ∧ (∀ y ∈ xs, DTc T n 5 y) ∧ xs.length * 1 ≤ 140737488351232 := h
    obtain ⟨xs, rfl, h1, _⟩ := h
    obtain ⟨l, rfl⟩ := dec_list (enc := fun u : UInt8 => [D.lit (.int .u8 (u.toNat : Int))]) fun y hy => dec5 (h1 y hy)
    exact ⟨l, rfl⟩
theorem closedD : closedT T [2, 3, 4, 5, 9, 22, 24, 25, 27, 28, 30, 44, 54, 59, 61, 62, 64, 66, 78, 80, 83] = true := by decide +kernel
theorem own : ownKnob Try.prog.godebug = none := by kernel_rfl
theorem laidOut : laidOutB Try.prog = true := by kernel_rfl
end Go.Proofs.Ytojnicnbmgiplaa
