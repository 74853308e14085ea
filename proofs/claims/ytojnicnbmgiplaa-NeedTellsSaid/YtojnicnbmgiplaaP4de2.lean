/- Parts of an abstract logic over the kit's walks, and walks in it: P4de2. -/
import Derived.Test.YtojnicnbmgiplaaPxa
import Derived.Test.YtojnicnbmgiplaaAc
import Derived.Test.YtojnicnbmgiplaaDe
import Derived.Test.YtojnicnbmgiplaaBlk
import Derived.Test.YtojnicnbmgiplaaBa
import Derived.Test.YtojnicnbmgiplaaAd
import Derived.Test.YtojnicnbmgiplaaAe
import Derived.Test.YtojnicnbmgiplaaNeed
import Derived.Test.YtojnicnbmgiplaaRows
import Derived.WalkKit
import Derived.ProofKit
import Derived.OpenShut
import Derived.ShutString
import Derived.SizedLaws
import Derived.JoinedCond
import Derived.Deep.CondSized
import Derived.Carry
/- What arguments are. -/
namespace Go.Proofs.Ytojnicnbmgiplaa
open Go Go.AL Go.ChangeShapes Go.WideShapes Go.ChangeAt Go.RowKit
set_option linter.unusedVariables false
set_option linter.unusedSimpArgs false
theorem dec_list {α : Type} {enc : α → List D} : ∀ {xs : List (List D)}, (∀ x ∈ xs, ∃ a, x = enc a) → ∃ l : List α, xs = l.map enc
  | [], _ => ⟨[], rfl⟩
  | x :: xs, h => by
    obtain ⟨a, rfl⟩ := h x (by simp)
    obtain ⟨l, rfl⟩ := dec_list (xs := xs) fun y hy => h y (by simp [hy])
    exact ⟨a :: l, rfl⟩
theorem dec9 {n : Nat} {x : List D} (h : DTc T n 9 x) : ∃ s, x = [str s] := by
  cases n with
  | zero => exact h.elim
  | succ n =>
    have h : ∃ s, x = [.lit (.string s)] ∧ s.size ≤ 140737488351232 := h
    obtain ⟨s, rfl, _⟩ := h
    exact ⟨s, rfl⟩
theorem dec59 {n : Nat} {x : List D} (h : DTc T n 59 x) : ∃ l : List ByteArray, x = [.sl 1 16 (l.map encB)] := by
  cases n with
  | zero => exact h.elim
  | succ n =>
    have h : ∃ xs : List (List D), x = [.sl 1 16 xs] ∧ (∀ y ∈ xs, DTc T n 9 y) ∧ xs.length * 16 ≤ 140737488351232 := h
    obtain ⟨xs, rfl, h1, _⟩ := h
    obtain ⟨l, rfl⟩ := dec_list (enc := encB) fun y hy => dec9 (h1 y hy)
    exact ⟨l, rfl⟩
theorem dec4 {n : Nat} {x : List D} (h : DTc T n 4 x) : ∃ b, x = [boo b] := by
  cases n with
  | zero => exact h.elim
  | succ n =>
    have h : ∃ m, x = [.lit (.bool m)] := h
    exact h
theorem dec3 {n : Nat} {x : List D} (h : DTc T n 3 x) : ∃ m, x = [int m] := by
  cases n with
  | zero => exact h.elim
  | succ n =>
    have h : ∃ m, x = [.lit (.int .i64 m)] ∧ IntKind.i64.min ≤ m ∧ m ≤ IntKind.i64.max := h
    obtain ⟨s, rfl, _⟩ := h
    exact ⟨s, rfl⟩
theorem dec2 {n : Nat} {x : List D} (h : DTc T n 2 x) : ∃ m, x = [int m] := by
  cases n with
  | zero => exact h.elim
  | succ n =>
    have h : ∃ m, x = [.lit (.int .i64 m)] ∧ IntKind.i64.min ≤ m ∧ m ≤ IntKind.i64.max := h
    obtain ⟨s, rfl, _⟩ := h
    exact ⟨s, rfl⟩
theorem dec61 {n : Nat} {x : List D} (h : DTc T n 61 x) : ∃ e, x = encV e := by
  cases n with
  | zero => exact h.elim
  | succ n =>
    have h : partsT (DTc T n) [3, 2, 9] x := h
    obtain ⟨p1, q1, rfl, h1, p2, q2, rfl, h2, p3, q3, rfl, h3, rfl⟩ := h
    obtain ⟨a, rfl⟩ := dec3 h1
    obtain ⟨b, rfl⟩ := dec2 h2
    obtain ⟨c, rfl⟩ := dec9 h3
    exact ⟨⟨a, b, c⟩, rfl⟩
theorem dec64 : ∀ {n : Nat} {x : List D}, DTc T n 64 x → ∃ e, x = encX e
  | 0, x, h => h.elim
  | 1, x, h => by
    have h : partsT (DTc T 0) [3, 61, 9, 9, 62] x := h
    obtain ⟨p1, q1, rfl, h1, _⟩ := h
    exact h1.elim
  | n + 2, x, h => by
    have h : partsT (DTc T (n + 1)) [3, 61, 9, 9, 62] x := h
    obtain ⟨p1, q1, rfl, h1, p2, q2, rfl, h2, p3, q3, rfl, h3, p4, q4, rfl, h4, p5, q5, rfl, h5, rfl⟩ := h
    obtain ⟨a, rfl⟩ := dec3 h1
    obtain ⟨v, rfl⟩ := dec61 h2
    obtain ⟨b, rfl⟩ := dec9 h3
    obtain ⟨c, rfl⟩ := dec9 h4
    have h5 : ∃ xs : List (List D), p5 = [.sl 7 96 xs] ∧ (∀ y ∈ xs, DTc T n 64 y) ∧ xs.length * 96 ≤ 140737488351232 := h5
    obtain ⟨xs, rfl, h6, _⟩ := h5
    obtain ⟨l, rfl⟩ := dec_list (enc := encX) fun y hy => dec64 (h6 y hy)
    exact ⟨.mk a v b c l, by simp [encX, encV, encXs_eq]⟩
theorem dec66 {n : Nat} {x : List D} (h : DTc T n 66 x) : ∃ e, x = encL e := by
  cases n with
  | zero => exact h.elim
  | succ n =>
    have h : partsT (DTc T n) [9, 59, 4, 4, 64] x := h
    obtain ⟨p1, q1, rfl, h1, p2, q2, rfl, h2, p3, q3, rfl, h3, p4, q4, rfl, h4, p5, q5, rfl, h5, rfl⟩ := h
    obtain ⟨a, rfl⟩ := dec9 h1
    obtain ⟨l, rfl⟩ := dec59 h2
    obtain ⟨b, rfl⟩ := dec4 h3
    obtain ⟨c, rfl⟩ := dec4 h4
    obtain ⟨e, rfl⟩ := dec64 h5
    exact ⟨⟨a, l, b, c, e⟩, by simp [encL]⟩
theorem dec25 {n : Nat} {x : List D} (h : DTc T n 25 x) : ∃ l : List El, x = [.sl 11 144 (l.map encL)] := by
  cases n with
  | zero => exact h.elim
  | succ n =>
    have h : ∃ xs : List (List D), x = [.sl 11 144 xs] ∧ (∀ y ∈ xs, DTc T n 66 y) ∧ xs.length * 144 ≤ 140737488351232 := h
    obtain ⟨xs, rfl, h1, _⟩ := h
    obtain ⟨l, rfl⟩ := dec_list (enc := encL) fun y hy => dec66 (h1 y hy)
    exact ⟨l, rfl⟩
theorem dec27 {n : Nat} {x : List D} (h : DTc T n 27 x) : ∃ e, x = encP e := by
  cases n with
  | zero => exact h.elim
  | succ n =>
    have h : partsT (DTc T n) [25, 3, 9, 4] x := h
    obtain ⟨p1, q1, rfl, h1, p2, q2, rfl, h2, p3, q3, rfl, h3, p4, q4, rfl, h4, rfl⟩ := h
    obtain ⟨l, rfl⟩ := dec25 h1
    obtain ⟨a, rfl⟩ := dec3 h2
    obtain ⟨b, rfl⟩ := dec9 h3
    obtain ⟨c, rfl⟩ := dec4 h4
    exact ⟨⟨l, a, b, c⟩, by simp [encP]⟩
theorem dec28 {n : Nat} {x : List D} (h : DTc T n 28 x) : ∃ l : List Vl, x = [.sl 3 32 (l.map encV)] := by
  cases n with
  | zero => exact h.elim
  | succ n =>
    have h : ∃ xs : List (List D), x = [.sl 3 32 xs] ∧ (∀ y ∈ xs, DTc T n 61 y) ∧ xs.length * 32 ≤ 140737488351232 := h
    obtain ⟨xs, rfl, h1, _⟩ := h
    obtain ⟨l, rfl⟩ := dec_list (enc := encV) fun y hy => dec61 (h1 y hy)
    exact ⟨l, rfl⟩
theorem dec30 {n : Nat} {x : List D} (h : DTc T n 30 x) : ∃ e, x = encE e := by
  cases n with
  | zero => exact h.elim
  | succ n =>
    have h : partsT (DTc T n) [9, 3, 28] x := h
    obtain ⟨p1, q1, rfl, h1, p2, q2, rfl, h2, p3, q3, rfl, h3, rfl⟩ := h
    obtain ⟨a, rfl⟩ := dec9 h1
    obtain ⟨b, rfl⟩ := dec3 h2
    obtain ⟨c, rfl⟩ := dec28 h3
    exact ⟨⟨a, b, c⟩, rfl⟩
theorem dec83 {n : Nat} {x : List D} (h : DTc T n 83 x) : ∃ e, x = encF e := by
  cases n with
  | zero => exact h.elim
  | succ n =>
    have h : partsT (DTc T n) [9, 3] x := h
    obtain ⟨p1, q1, rfl, h1, p2, q2, rfl, h2, rfl⟩ := h
    obtain ⟨a, rfl⟩ := dec9 h1
    obtain ⟨b, rfl⟩ := dec3 h2
    exact ⟨⟨a, b⟩, rfl⟩
theorem dec78 {n : Nat} {x : List D} (h : DTc T n 78 x) : ∃ l : List Fld, x = [.sl 2 24 (l.map encF)] := by
  cases n with
  | zero => exact h.elim
  | succ n =>
    have h : ∃ xs : List (List D), x = [.sl 2 24 xs] ∧ (∀ y ∈ xs, DTc T n 83 y) ∧ xs.length * 24 ≤ 140737488351232 := h
    obtain ⟨xs, rfl, h1, _⟩ := h
    obtain ⟨l, rfl⟩ := dec_list (enc := encF) fun y hy => dec83 (h1 y hy)
    exact ⟨l, rfl⟩
theorem dec80 {n : Nat} {x : List D} (h : DTc T n 80 x) : ∃ e, x = encT e := by
  cases n with
  | zero => exact h.elim
  | succ n =>
    have h : partsT (DTc T n) [9, 78] x := h
    obtain ⟨p1, q1, rfl, h1, p2, q2, rfl, h2, rfl⟩ := h
    obtain ⟨a, rfl⟩ := dec9 h1
    obtain ⟨b, rfl⟩ := dec78 h2
    exact ⟨⟨a, b⟩, rfl⟩
theorem dec22 {n : Nat} {x : List D} (h : DTc T n 22 x) : ∃ l : List Ty, x = [.sl 2 40 (l.map encT)] := by
  cases n with
  | zero => exact h.elim
  | succ n =>
    have h : ∃ xs : List (List D), x = [.sl 2 40 xs] ∧ (∀ y ∈ xs, DTc T n 80 y) ∧ xs.length * 40 ≤ 140737488351232 := h
    obtain ⟨xs, rfl, h1, _⟩ := h
    obtain ⟨l, rfl⟩ := dec_list (enc := encT) fun y hy => dec80 (h1 y hy)
    exact ⟨l, rfl⟩
theorem dec24 {n : Nat} {x : List D} (h : DTc T n 24 x) : ∃ l : List Ty, x = [encS l] := by
  cases n with
  | zero => exact h.elim
  | succ n =>
    have h : partsT (DTc T n) [22] x := h
    obtain ⟨p1, q1, rfl, h1, rfl⟩ := h
    obtain ⟨l, rfl⟩ := dec22 h1
    exact ⟨l, rfl⟩
theorem dec32 {n : Nat} {x : List D} (h : DTc T n 32 x) : ∃ e, x = encU e := by
  cases n with
  | zero => exact h.elim
  | succ n =>
    have h : partsT (DTc T n) [9, 9] x := h
    obtain ⟨p1, q1, rfl, h1, p2, q2, rfl, h2, rfl⟩ := h
    obtain ⟨a, rfl⟩ := dec9 h1
    obtain ⟨b, rfl⟩ := dec9 h2
    exact ⟨⟨a, b⟩, rfl⟩
theorem closedD : closedT T [2, 3, 4, 9, 22, 24, 25, 27, 28, 30, 32, 59, 61, 62, 64, 66, 78, 80, 83] = true := by decide +kernel
theorem own : ownKnob Try.prog.godebug = none := by kernel_rfl
theorem laidOut : laidOutB Try.prog = true := by kernel_rfl
end Go.Proofs.Ytojnicnbmgiplaa
