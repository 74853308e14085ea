/- Parts of an abstract logic over the kit's walks, and walks in it: H4dec. -/
import Derived.Test.YtojnicnbmgiplaaGreatHxa
import Derived.Test.YtojnicnbmgiplaaGreatAc
import Derived.Test.YtojnicnbmgiplaaGreatDe
import Derived.Test.YtojnicnbmgiplaaGreatBlk
import Derived.Test.YtojnicnbmgiplaaGreatBa
import Derived.Test.YtojnicnbmgiplaaGreatAe
import Derived.Test.YtojnicnbmgiplaaGreatRows
import Derived.WalkKit
import Derived.ProofKit
import Derived.OpenShut
import Derived.ShutString
import Derived.SizedLaws
import Derived.JoinedCond
import Derived.Deep.CondSized
import Derived.Carry
/- What arguments are. -/
namespace Go.Proofs.YtojnicnbmgiplaaGreat
open Go Go.AL Go.ChangeShapes Go.WideShapes Go.ChangeAt Go.RowKit
set_option linter.unusedVariables false
set_option linter.unusedSimpArgs false
theorem bulkR {H : Type} : Bulk (H := H) Rows.uptoBulk Rows.uptoBulkAll := by
  refine ⟨by simp [Rows.uptoBulkAll], fun d l => by simp [Rows.uptoBulkAll], fun d => ?_, fun b => by simp [Rows.uptoBulk], fun l r => by simp only [Rows.uptoBulk]; omega, fun l => by simp only [Rows.uptoBulk]; omega⟩
  cases d with
  | lit l => cases l <;> simp [Rows.uptoBulk]
  | nil => simp [Rows.uptoBulk]
  | ptr d => simp [Rows.uptoBulk]
  | slice elems spare => simp [Rows.uptoBulk]
  | agg parts => simp [Rows.uptoBulk]
  | iface t d => simp [Rows.uptoBulk]
  | map entries => simp [Rows.uptoBulk]
  | held h => simp [Rows.uptoBulk]
theorem small_all {H : Type} {l : List (DataW H)} (hk : Rows.uptoSmall H l = true) : Rows.uptoBulkAll l ≤ 1048576 := of_decide_eq_true hk
theorem dec_list {α : Type} {enc : α → List D} : ∀ {xs : List (List D)}, (∀ x ∈ xs, ∃ a, x = enc a) → ∃ l : List α, xs = l.map enc
  | [], _ => ⟨[], rfl⟩
  | x :: xs, h => by
    obtain ⟨a, rfl⟩ := h x (by simp)
    obtain ⟨l, rfl⟩ := dec_list (xs := xs) fun y hy => h y (by simp [hy])
    exact ⟨a :: l, rfl⟩
theorem dec9 {n : Nat} {x : List D} (h : DTc T n 9 x) : ∃ s, x = [str s] := by
  cases n with
  | zero => exact h.elim
  | succ n =>
    have h : ∃ s, x = [.lit (.string s)] ∧ s.size ≤ 140737488351232 := h
    obtain ⟨s, rfl, _⟩ := h
    exact ⟨s, rfl⟩
theorem dec58 {n : Nat} {x : List D} (h : DTc T n 58 x) : ∃ l : List ByteArray, x = [.sl 1 16 (l.map encB)] := by
  cases n with
  | zero => exact h.elim
  | succ n =>
    have h : ∃ xs : List (List D), x = [.sl 1 16 xs] ∧ (∀ y ∈ xs, DTc T n 9 y) ∧ xs.length * 16 ≤ 140737488351232 := h
    obtain ⟨xs, rfl, h1, _⟩ := h
    obtain ⟨l, rfl⟩ := dec_list (enc := encB) fun y hy => dec9 (h1 y hy)
    exact ⟨l, rfl⟩
theorem dec4 {n : Nat} {x : List D} (h : DTc T n 4 x) : ∃ b, x = [boo b] := by
  cases n with
  | zero => exact h.elim
  | succ n =>
    have h : ∃ m, x = [.lit (.bool m)] := h
    exact h
theorem dec3 {n : Nat} {x : List D} (h : DTc T n 3 x) : ∃ m, x = [int m] := by
  cases n with
  | zero => exact h.elim
  | succ n =>
    have h : ∃ m, x = [.lit (.int .i64 m)] ∧ IntKind.i64.min ≤ m ∧ m ≤ IntKind.i64.max := h
    obtain ⟨s, rfl, _⟩ := h
    exact ⟨s, rfl⟩
theorem dec2 {n : Nat} {x : List D} (h : DTc T n 2 x) : ∃ m, x = [int m] := by
  cases n with
  | zero => exact h.elim
  | succ n =>
    have h : ∃ m, x = [.lit (.int .i64 m)] ∧ IntKind.i64.min ≤ m ∧ m ≤ IntKind.i64.max := h
    obtain ⟨s, rfl, _⟩ := h
    exact ⟨s, rfl⟩
theorem dec60 {n : Nat} {x : List D} (h : DTc T n 60 x) : ∃ e, x = encV e := by
  cases n with
  | zero => exact h.elim
  | succ n =>
    have h : partsT (DTc T n) [3, 2, 9] x := h
    obtain ⟨p1, q1, rfl, h1, p2, q2, rfl, h2, p3, q3, rfl, h3, rfl⟩ := h
    obtain ⟨a, rfl⟩ := dec3 h1
    obtain ⟨b, rfl⟩ := dec2 h2
    obtain ⟨c, rfl⟩ := dec9 h3
    exact ⟨⟨a, b, c⟩, rfl⟩
theorem dec63 : ∀ {n : Nat} {x : List D}, DTc T n 63 x → ∃ e, x = encX e
  | 0, x, h => h.elim
  | 1, x, h => by
    have h : partsT (DTc T 0) [3, 60, 9, 9, 61] x := h
    obtain ⟨p1, q1, rfl, h1, _⟩ := h
    exact h1.elim
  | n + 2, x, h => by
    have h : partsT (DTc T (n + 1)) [3, 60, 9, 9, 61] x := h
    obtain ⟨p1, q1, rfl, h1, p2, q2, rfl, h2, p3, q3, rfl, h3, p4, q4, rfl, h4, p5, q5, rfl, h5, rfl⟩ := h
    obtain ⟨a, rfl⟩ := dec3 h1
    obtain ⟨v, rfl⟩ := dec60 h2
    obtain ⟨b, rfl⟩ := dec9 h3
    obtain ⟨c, rfl⟩ := dec9 h4
    have h5 : ∃ xs : List (List D), p5 = [.sl 7 96 xs] ∧ (∀ y ∈ xs, DTc T n 63 y) ∧ xs.length * 96 ≤ 140737488351232 := h5
    obtain ⟨xs, rfl, h6, _⟩ := h5
    obtain ⟨l, rfl⟩ := dec_list (enc := encX) fun y hy => dec63 (h6 y hy)
    exact ⟨.mk a v b c l, by simp [encX, encV, encXs_eq]⟩
theorem dec65 {n : Nat} {x : List D} (h : DTc T n 65 x) : ∃ e, x = encL e := by
  cases n with
  | zero => exact h.elim
  | succ n =>
    have h : partsT (DTc T n) [9, 58, 4, 4, 63] x := h
    obtain ⟨p1, q1, rfl, h1, p2, q2, rfl, h2, p3, q3, rfl, h3, p4, q4, rfl, h4, p5, q5, rfl, h5, rfl⟩ := h
    obtain ⟨a, rfl⟩ := dec9 h1
    obtain ⟨l, rfl⟩ := dec58 h2
    obtain ⟨b, rfl⟩ := dec4 h3
    obtain ⟨c, rfl⟩ := dec4 h4
    obtain ⟨e, rfl⟩ := dec63 h5
    exact ⟨⟨a, l, b, c, e⟩, by simp [encL]⟩
theorem dec22 {n : Nat} {x : List D} (h : DTc T n 22 x) : ∃ l : List El, x = [.sl 11 144 (l.map encL)] := by
  cases n with
  | zero => exact h.elim
  | succ n =>
    have h : ∃ xs : List (List D), x = [.sl 11 144 xs] ∧ (∀ y ∈ xs, DTc T n 65 y) ∧ xs.length * 144 ≤ 140737488351232 := h
    obtain ⟨xs, rfl, h1, _⟩ := h
    obtain ⟨l, rfl⟩ := dec_list (enc := encL) fun y hy => dec65 (h1 y hy)
    exact ⟨l, rfl⟩
theorem dec24 {n : Nat} {x : List D} (h : DTc T n 24 x) : ∃ e, x = encP e := by
  cases n with
  | zero => exact h.elim
  | succ n =>
    have h : partsT (DTc T n) [22, 3, 9, 4] x := h
    obtain ⟨p1, q1, rfl, h1, p2, q2, rfl, h2, p3, q3, rfl, h3, p4, q4, rfl, h4, rfl⟩ := h
    obtain ⟨l, rfl⟩ := dec22 h1
    obtain ⟨a, rfl⟩ := dec3 h2
    obtain ⟨b, rfl⟩ := dec9 h3
    obtain ⟨c, rfl⟩ := dec4 h4
    exact ⟨⟨l, a, b, c⟩, by simp [encP]⟩
theorem dec48 {n : Nat} {x : List D} (h : DTc T n 48 x) : ∃ l : List Vl, x = [.sl 3 32 (l.map encV)] := by
  cases n with
  | zero => exact h.elim
  | succ n =>
    have h : ∃ xs : List (List D), x = [.sl 3 32 xs] ∧ (∀ y ∈ xs, DTc T n 60 y) ∧ xs.length * 32 ≤ 140737488351232 := h
    obtain ⟨xs, rfl, h1, _⟩ := h
    obtain ⟨l, rfl⟩ := dec_list (enc := encV) fun y hy => dec60 (h1 y hy)
    exact ⟨l, rfl⟩
theorem dec50 {n : Nat} {x : List D} (h : DTc T n 50 x) : ∃ e, x = encE e := by
  cases n with
  | zero => exact h.elim
  | succ n =>
    have h : partsT (DTc T n) [9, 3, 48] x := h
    obtain ⟨p1, q1, rfl, h1, p2, q2, rfl, h2, p3, q3, rfl, h3, rfl⟩ := h
    obtain ⟨a, rfl⟩ := dec9 h1
    obtain ⟨b, rfl⟩ := dec3 h2
    obtain ⟨c, rfl⟩ := dec48 h3
    exact ⟨⟨a, b, c⟩, rfl⟩
theorem dec25 {n : Nat} {x : List D} (h : DTc T n 25 x) : ∃ l : List Ev, x = [.sl 3 48 (l.map encE)] := by
  cases n with
  | zero => exact h.elim
  | succ n =>
    have h : ∃ xs : List (List D), x = [.sl 3 48 xs] ∧ (∀ y ∈ xs, DTc T n 50 y) ∧ xs.length * 48 ≤ 140737488351232 := h
    obtain ⟨xs, rfl, h1, _⟩ := h
    obtain ⟨l, rfl⟩ := dec_list (enc := encE) fun y hy => dec50 (h1 y hy)
    exact ⟨l, rfl⟩
theorem dec5 {n : Nat} {x : List D} (h : DTc T n 5 x) : ∃ u : UInt8, x = [.lit (.int .u8 (u.toNat : Int))] := by
  cases n with
  | zero => exact h.elim
  | succ n =>
    have h : ∃ m, x = [.lit (.int .u8 m)] ∧ IntKind.u8.min ≤ m ∧ m ≤ IntKind.u8.max := h
    obtain ⟨s, rfl, h1, h2⟩ := h
    have e1 : IntKind.u8.min = 0 := rfl
    have e2 : IntKind.u8.max = 255 := rfl
    obtain ⟨m, rfl⟩ := Int.eq_ofNat_of_zero_le (show 0 ≤ s by omega)
    refine ⟨UInt8.ofNat m, ?_⟩
    rw [UInt8.toNat_ofNat_of_lt' (by show m < 256; omega)]
theorem closedD : closedT T [2, 3, 4, 5, 9, 22, 24, 25, 26, 45, 48, 50, 58, 60, 61, 63, 65] = true := by decide +kernel
theorem own : ownKnob Tryz.prog.godebug = none := by kernel_rfl
theorem laidOut : laidOutB Tryz.prog = true := by kernel_rfl
end Go.Proofs.YtojnicnbmgiplaaGreat
