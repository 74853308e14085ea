/- Parts of an abstract logic over the kit's walks, and walks in it: D8dec. -/
import Derived.Test.YtjiknbjkbakegaaDoorD8t
import Derived.Test.YtjiknbjkbakegaaDoorAe
import Derived.Test.YtjiknbjkbakegaaDoorDif2
import Derived.Test.YtjiknbjkbakegaaDoorCards
import Derived.Test.YtjiknbjkbakegaaDoorTie
import Derived.WalkKit
import Derived.ProofKit
import Derived.OpenShut
import Derived.ShutString
import Derived.SizedLaws
import Derived.Carry
import Derived.Deep.DeepHandedRow
import Derived.Lib.LaidTab
/- What arguments are, in seat r8; the tables that its rows list. -/
namespace Go.Proofs.YtjiknbjkbakegaaDoor
open Go Go.AL Go.ChangeShapes Go.WideShapes Go.ChangeAt Go.RowKit
set_option linter.unusedVariables false
set_option linter.unusedSimpArgs false

theorem dec4 {n : Nat} {x : List D} (h : DTc T n 4 x) : ∃ b, x = [boo b] := by
  cases n with
  | zero => exact h.elim
  | succ n =>
    have h : ∃ m, x = [.lit (.bool m)] := h
    exact h
theorem bulkR {H : Type} : Bulk (H := H) Rows.uptoBulk Rows.uptoBulkAll := by
  refine ⟨by simp [Rows.uptoBulkAll], fun d l => by simp [Rows.uptoBulkAll], fun d => ?_, fun b => by simp [Rows.uptoBulk], fun l r => by simp only [Rows.uptoBulk]; omega, fun l => by simp only [Rows.uptoBulk]; omega⟩
  cases d with
  | lit l => cases l <;> simp [Rows.uptoBulk]
  | nil => simp [Rows.uptoBulk]
  | ptr d => simp [Rows.uptoBulk]
  | slice elems spare => simp [Rows.uptoBulk]
  | agg parts => simp [Rows.uptoBulk]
  | iface t d => simp [Rows.uptoBulk]
  | map entries => simp [Rows.uptoBulk]
  | held h => simp [Rows.uptoBulk]
theorem dec_list {α : Type} {enc : α → List D} : ∀ {xs : List (List D)}, (∀ x ∈ xs, ∃ a, x = enc a) → ∃ l : List α, xs = l.map enc
  | [], _ => ⟨[], rfl⟩
  | x :: xs, h => by
    obtain ⟨a, rfl⟩ := h x (by simp)
    obtain ⟨l, rfl⟩ := dec_list (xs := xs) fun y hy => h y (by simp [hy])
    exact ⟨a :: l, rfl⟩
theorem dec2 {n : Nat} {x : List D} (h : DTc T n 2 x) : ∃ m, x = [int m] := by
  cases n with
  | zero => exact h.elim
  | succ n =>
    have h : ∃ m, x = [.lit (.int .i64 m)] ∧ IntKind.i64.min ≤ m ∧ m ≤ IntKind.i64.max := h
    obtain ⟨s, rfl, _⟩ := h
    exact ⟨s, rfl⟩
theorem dec3 {n : Nat} {x : List D} (h : DTc T n 3 x) : ∃ m, x = [int m] := by
  cases n with
  | zero => exact h.elim
  | succ n =>
    have h : ∃ m, x = [.lit (.int .i64 m)] ∧ IntKind.i64.min ≤ m ∧ m ≤ IntKind.i64.max := h
    obtain ⟨s, rfl, _⟩ := h
    exact ⟨s, rfl⟩
theorem dec9 {n : Nat} {x : List D} (h : DTc T n 9 x) : ∃ s, x = [str s] := by
  cases n with
  | zero => exact h.elim
  | succ n =>
    have h : ∃ s, x = [.lit (.string s)] ∧ s.size ≤ 140737488351232 := h
    obtain ⟨s, rfl, _⟩ := h
    exact ⟨s, rfl⟩
theorem dec38 {n : Nat} {x : List D} (h : DTc T n 38 x) : ∃ v, x = encV v := by
  cases n with
  | zero => exact h.elim
  | succ n =>
    have h : partsT (DTc T n) [3, 2, 9] x := h
    obtain ⟨p1, q1, rfl, h1, p2, q2, rfl, h2, p3, q3, rfl, h3, rfl⟩ := h
    obtain ⟨a, rfl⟩ := dec3 h1
    obtain ⟨b, rfl⟩ := dec2 h2
    obtain ⟨c, rfl⟩ := dec9 h3
    exact ⟨⟨a, b, c⟩, rfl⟩
theorem dec41 : ∀ {n : Nat} {x : List D}, DTc T n 41 x → ∃ e, x = encX e
  | 0, x, h => h.elim
  | 1, x, h => by
    have h : partsT (DTc T 0) [3, 38, 9, 9, 39] x := h
    obtain ⟨p1, q1, rfl, h1, _⟩ := h
    exact h1.elim
  | n + 2, x, h => by
    have h : partsT (DTc T (n + 1)) [3, 38, 9, 9, 39] x := h
    obtain ⟨p1, q1, rfl, h1, p2, q2, rfl, h2, p3, q3, rfl, h3, p4, q4, rfl, h4, p5, q5, rfl, h5, rfl⟩ := h
    obtain ⟨a, rfl⟩ := dec3 h1
    obtain ⟨v, rfl⟩ := dec38 h2
    obtain ⟨b, rfl⟩ := dec9 h3
    obtain ⟨c, rfl⟩ := dec9 h4
    have h5 : ∃ xs : List (List D), p5 = [.sl 7 96 xs] ∧ (∀ y ∈ xs, DTc T n 41 y) ∧ xs.length * 96 ≤ 140737488351232 := h5
    obtain ⟨xs, rfl, h6, _⟩ := h5
    obtain ⟨l, rfl⟩ := dec_list (enc := encX) fun y hy => dec41 (h6 y hy)
    exact ⟨.mk a v b c l, by simp [encX, encV, encXs_eq]⟩
theorem dec36 {n : Nat} {x : List D} (h : DTc T n 36 x) : ∃ l : List ByteArray, x = [.sl 1 16 (l.map encB)] := by
  cases n with
  | zero => exact h.elim
  | succ n =>
    have h : ∃ xs : List (List D), x = [.sl 1 16 xs] ∧ (∀ y ∈ xs, DTc T n 9 y) ∧ xs.length * 16 ≤ 140737488351232 := h
    obtain ⟨xs, rfl, h1, _⟩ := h
    obtain ⟨l, rfl⟩ := dec_list (enc := encB) fun y hy => dec9 (h1 y hy)
    exact ⟨l, rfl⟩
theorem dec43 {n : Nat} {x : List D} (h : DTc T n 43 x) : ∃ e, x = encL e := by
  cases n with
  | zero => exact h.elim
  | succ n =>
    have h : partsT (DTc T n) [9, 36, 4, 4, 41] x := h
    obtain ⟨p1, q1, rfl, h1, p2, q2, rfl, h2, p3, q3, rfl, h3, p4, q4, rfl, h4, p5, q5, rfl, h5, rfl⟩ := h
    obtain ⟨a, rfl⟩ := dec9 h1
    obtain ⟨l, rfl⟩ := dec36 h2
    obtain ⟨b, rfl⟩ := dec4 h3
    obtain ⟨c, rfl⟩ := dec4 h4
    obtain ⟨e, rfl⟩ := dec41 h5
    exact ⟨⟨a, l, b, c, e⟩, by simp [encL]⟩
theorem dec22 {n : Nat} {x : List D} (h : DTc T n 22 x) : ∃ l : List El, x = [.sl 11 144 (l.map encL)] := by
  cases n with
  | zero => exact h.elim
  | succ n =>
    have h : ∃ xs : List (List D), x = [.sl 11 144 xs] ∧ (∀ y ∈ xs, DTc T n 43 y) ∧ xs.length * 144 ≤ 140737488351232 := h
    obtain ⟨xs, rfl, h1, _⟩ := h
    obtain ⟨l, rfl⟩ := dec_list (enc := encL) fun y hy => dec43 (h1 y hy)
    exact ⟨l, rfl⟩
theorem dec24 {n : Nat} {x : List D} (h : DTc T n 24 x) : ∃ p, x = encP p := by
  cases n with
  | zero => exact h.elim
  | succ n =>
    have h : partsT (DTc T n) [22, 3, 9, 4] x := h
    obtain ⟨p1, q1, rfl, h1, p2, q2, rfl, h2, p3, q3, rfl, h3, p4, q4, rfl, h4, rfl⟩ := h
    obtain ⟨l, rfl⟩ := dec22 h1
    obtain ⟨a, rfl⟩ := dec3 h2
    obtain ⟨b, rfl⟩ := dec9 h3
    obtain ⟨c, rfl⟩ := dec4 h4
    exact ⟨⟨l, a, b, c⟩, rfl⟩
theorem small_all {H : Type} {l : List (DataW H)} (hk : Rows.uptoSmall H l = true) : Rows.uptoBulkAll l ≤ 1048576 := of_decide_eq_true hk
theorem own : ownKnob Tryd.prog.godebug = none := by kernel_rfl
theorem laidOut : laidOutB Tryd.prog = true := by kernel_rfl
def withCells (i : Nat) (vs : Array Value) (h : Array Obj) : Array Obj := h.modify i fun
  | .cells _ t frozen => .cells vs t frozen
  | o => o
/-- A world for the witness: the settled one, the three tables as their initialisers lay them. -/
noncomputable def laidWorld (os : Os) : World :=
  { World.holding Tryd.prog os ⟨#[], #[], []⟩ with heap := withCells 0 #[.int .u64 1, .int .u64 10, .int .u64 100, .int .u64 1000, .int .u64 10000, .int .u64 100000, .int .u64 1000000, .int .u64 10000000, .int .u64 100000000, .int .u64 1000000000, .int .u64 10000000000, .int .u64 100000000000, .int .u64 1000000000000, .int .u64 10000000000000, .int .u64 100000000000000, .int .u64 1000000000000000, .int .u64 10000000000000000, .int .u64 100000000000000000, .int .u64 1000000000000000000, .int .u64 10000000000000000000] (withCells 2 #[.int .u8 0, .int .u8 1, .int .u8 56, .int .u8 2, .int .u8 57, .int .u8 49, .int .u8 28, .int .u8 3, .int .u8 61, .int .u8 58, .int .u8 42, .int .u8 50, .int .u8 38, .int .u8 29, .int .u8 17, .int .u8 4, .int .u8 62, .int .u8 47, .int .u8 59, .int .u8 36, .int .u8 45, .int .u8 43, .int .u8 51, .int .u8 22, .int .u8 53, .int .u8 39, .int .u8 33, .int .u8 30, .int .u8 24, .int .u8 18, .int .u8 12, .int .u8 5, .int .u8 63, .int .u8 55, .int .u8 48, .int .u8 27, .int .u8 60, .int .u8 41, .int .u8 37, .int .u8 16, .int .u8 46, .int .u8 35, .int .u8 44, .int .u8 21, .int .u8 52, .int .u8 32, .int .u8 23, .int .u8 11, .int .u8 54, .int .u8 26, .int .u8 40, .int .u8 15, .int .u8 34, .int .u8 20, .int .u8 31, .int .u8 10, .int .u8 25, .int .u8 14, .int .u8 19, .int .u8 9, .int .u8 13, .int .u8 8, .int .u8 7, .int .u8 6] (withCells 1 #[.int .u8 0, .int .u8 1, .int .u8 28, .int .u8 2, .int .u8 29, .int .u8 14, .int .u8 24, .int .u8 3, .int .u8 30, .int .u8 22, .int .u8 20, .int .u8 15, .int .u8 25, .int .u8 17, .int .u8 4, .int .u8 8, .int .u8 31, .int .u8 27, .int .u8 13, .int .u8 23, .int .u8 21, .int .u8 19, .int .u8 16, .int .u8 7, .int .u8 26, .int .u8 12, .int .u8 18, .int .u8 6, .int .u8 11, .int .u8 5, .int .u8 10, .int .u8 9] (World.holding Tryd.prog os ⟨#[], #[], []⟩).heap)) }
end Go.Proofs.YtjiknbjkbakegaaDoor
