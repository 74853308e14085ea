/- Parts of an abstract logic over the kit's walks, and walks in it: D7dec. -/
import Derived.Test.YtchpllgeahnmmaaDoorD7t
import Derived.Test.YtchpllgeahnmmaaDoorD7co
import Derived.Test.YtchpllgeahnmmaaDoorAe
import Derived.Test.YtchpllgeahnmmaaDoorEz
import Derived.Test.YtchpllgeahnmmaaDoorCards
import Derived.Test.YtchpllgeahnmmaaDoorTie
import Derived.WalkKit
import Derived.ProofKit
import Derived.OpenShut
import Derived.ShutString
import Derived.SizedLaws
import Derived.Carry
import Derived.Deep.DeepHandedRow
import Derived.Lib.LaidTab
import Derived.LaidHandle
import Derived.Stop.Joined
namespace Go.Proofs.YtchpllgeahnmmaaDoor
open Go Go.AL Go.ChangeShapes Go.WideShapes Go.ChangeAt Go.RowKit
set_option linter.unusedVariables false
set_option linter.unusedSimpArgs false
theorem bulkR {H : Type} : Bulk (H := H) Rows.uptoBulk Rows.uptoBulkAll := by
  refine ⟨by simp [Rows.uptoBulkAll], fun d l => by simp [Rows.uptoBulkAll], fun d => ?_, fun b => by simp [Rows.uptoBulk], fun l r => by simp only [Rows.uptoBulk]; omega, fun l => by simp only [Rows.uptoBulk]; omega⟩
  cases d with
  | lit l => cases l <;> simp [Rows.uptoBulk]
  | nil => simp [Rows.uptoBulk]
  | ptr d => simp [Rows.uptoBulk]
  | slice elems spare => simp [Rows.uptoBulk]
  | agg parts => simp [Rows.uptoBulk]
  | iface t d => simp [Rows.uptoBulk]
  | map entries => simp [Rows.uptoBulk]
  | held h => simp [Rows.uptoBulk]
theorem dec_list {α : Type} {enc : α → List D} : ∀ {xs : List (List D)}, (∀ x ∈ xs, ∃ a, x = enc a) → ∃ l : List α, xs = l.map enc
  | [], _ => ⟨[], rfl⟩
  | x :: xs, h => by
    obtain ⟨a, rfl⟩ := h x (by simp)
    obtain ⟨l, rfl⟩ := dec_list (xs := xs) fun y hy => h y (by simp [hy])
    exact ⟨a :: l, rfl⟩
theorem dec5 {n : Nat} {x : List D} (h : DTc T n 5 x) : ∃ u : UInt8, x = [.lit (.int .u8 (u.toNat : Int))] := by
  cases n with
  | zero => exact h.elim
  | succ n =>
    have h : ∃ m, x = [.lit (.int .u8 m)] ∧ IntKind.u8.min ≤ m ∧ m ≤ IntKind.u8.max := h
    obtain ⟨s, rfl, h1, h2⟩ := h
    have e1 : IntKind.u8.min = 0 := rfl
    have e2 : IntKind.u8.max = 255 := rfl
    obtain ⟨m, rfl⟩ := Int.eq_ofNat_of_zero_le (show 0 ≤ s by omega)
    refine ⟨UInt8.ofNat m, ?_⟩
    rw [UInt8.toNat_ofNat_of_lt' (by show m < 256; omega)]
theorem dec2 {n : Nat} {x : List D} (h : DTc T n 2 x) : ∃ m, x = [int m] := by
  cases n with
  | zero => exact h.elim
  | succ n =>
    have h : ∃ m, x = [.lit (.int .i64 m)] ∧ IntKind.i64.min ≤ m ∧ m ≤ IntKind.i64.max := h
    obtain ⟨s, rfl, _⟩ := h
    exact ⟨s, rfl⟩
theorem dec3 {n : Nat} {x : List D} (h : DTc T n 3 x) : ∃ m, x = [int m] := by
  cases n with
  | zero => exact h.elim
  | succ n =>
    have h : ∃ m, x = [.lit (.int .i64 m)] ∧ IntKind.i64.min ≤ m ∧ m ≤ IntKind.i64.max := h
    obtain ⟨s, rfl, _⟩ := h
    exact ⟨s, rfl⟩
theorem dec9 {n : Nat} {x : List D} (h : DTc T n 9 x) : ∃ s, x = [str s] := by
  cases n with
  | zero => exact h.elim
  | succ n =>
    have h : ∃ s, x = [.lit (.string s)] ∧ s.size ≤ 140737488351232 := h
    obtain ⟨s, rfl, _⟩ := h
    exact ⟨s, rfl⟩
theorem dec69 {n : Nat} {x : List D} (h : DTc T n 69 x) : ∃ f, x = encF f := by
  cases n with
  | zero => exact h.elim
  | succ n =>
    have h : partsT (DTc T n) [9, 3] x := h
    obtain ⟨p, _, rfl, h1, p2, _, rfl, h2, rfl⟩ := h
    obtain ⟨s, rfl⟩ := dec9 h1
    obtain ⟨m, rfl⟩ := dec3 h2
    exact ⟨⟨s, m⟩, rfl⟩
theorem dec70 {n : Nat} {x : List D} (h : DTc T n 70 x) : ∃ l : List Fld, x = [.sl 2 24 (l.map encF)] := by
  cases n with
  | zero => exact h.elim
  | succ n =>
    have h : ∃ xs : List (List D), x = [.sl 2 24 xs] ∧ (∀ y ∈ xs, DTc T n 69 y) ∧ xs.length * 24 ≤ 140737488351232 := h
    obtain ⟨xs, rfl, h1, _⟩ := h
    obtain ⟨l, rfl⟩ := dec_list fun y hy => dec69 (h1 y hy)
    exact ⟨l, rfl⟩
theorem dec72 {n : Nat} {x : List D} (h : DTc T n 72 x) : ∃ t, x = encT t := by
  cases n with
  | zero => exact h.elim
  | succ n =>
    have h : partsT (DTc T n) [9, 70] x := h
    obtain ⟨p, _, rfl, h1, p2, _, rfl, h2, rfl⟩ := h
    obtain ⟨s, rfl⟩ := dec9 h1
    obtain ⟨l, rfl⟩ := dec70 h2
    exact ⟨⟨s, l⟩, rfl⟩
theorem dec24 {n : Nat} {x : List D} (h : DTc T n 24 x) : ∃ s, x = [encS s] := by
  cases n with
  | zero => exact h.elim
  | succ n =>
    have h : partsT (DTc T n) [22] x := h
    obtain ⟨p, _, rfl, h1, rfl⟩ := h
    cases n with
    | zero => exact h1.elim
    | succ n =>
      have h1 : ∃ xs : List (List D), p = [.sl 2 40 xs] ∧ (∀ y ∈ xs, DTc T n 72 y) ∧ xs.length * 40 ≤ 140737488351232 := h1
      obtain ⟨xs, rfl, h1, _⟩ := h1
      obtain ⟨l, rfl⟩ := dec_list fun y hy => dec72 (h1 y hy)
      exact ⟨l, rfl⟩
theorem dec31 {n : Nat} {x : List D} (h : DTc T n 31 x) : ∃ v, x = encV v := by
  cases n with
  | zero => exact h.elim
  | succ n =>
    have h : partsT (DTc T n) [3, 2, 9] x := h
    obtain ⟨p, _, rfl, h1, p2, _, rfl, h2, p3, _, rfl, h3, rfl⟩ := h
    obtain ⟨k, rfl⟩ := dec3 h1
    obtain ⟨m, rfl⟩ := dec2 h2
    obtain ⟨s, rfl⟩ := dec9 h3
    exact ⟨⟨k, m, s⟩, rfl⟩
theorem dec25 {n : Nat} {x : List D} (h : DTc T n 25 x) : ∃ l : List Vl, x = [.sl 3 32 (l.map encV)] := by
  cases n with
  | zero => exact h.elim
  | succ n =>
    have h : ∃ xs : List (List D), x = [.sl 3 32 xs] ∧ (∀ y ∈ xs, DTc T n 31 y) ∧ xs.length * 32 ≤ 140737488351232 := h
    obtain ⟨xs, rfl, h1, _⟩ := h
    obtain ⟨l, rfl⟩ := dec_list (enc := encV) fun y hy => dec31 (h1 y hy)
    exact ⟨l, rfl⟩
theorem dec27 {n : Nat} {x : List D} (h : DTc T n 27 x) : ∃ e, x = encE e := by
  cases n with
  | zero => exact h.elim
  | succ n =>
    have h : partsT (DTc T n) [9, 3, 25] x := h
    obtain ⟨p, _, rfl, h1, p2, _, rfl, h2, p3, _, rfl, h3, rfl⟩ := h
    obtain ⟨s, rfl⟩ := dec9 h1
    obtain ⟨m, rfl⟩ := dec3 h2
    obtain ⟨l, rfl⟩ := dec25 h3
    exact ⟨⟨s, m, l⟩, rfl⟩
theorem dec43 {n : Nat} {x : List D} (h : DTc T n 43 x) : ∃ c, x = encC c := by
  cases n with
  | zero => exact h.elim
  | succ n =>
    have h : partsT (DTc T n) [3, 9, 9, 9, 31] x := h
    obtain ⟨p, _, rfl, h1, p2, _, rfl, h2, p3, _, rfl, h3, p4, _, rfl, h4, p5, _, rfl, h5, rfl⟩ := h
    obtain ⟨k, rfl⟩ := dec3 h1
    obtain ⟨a, rfl⟩ := dec9 h2
    obtain ⟨b, rfl⟩ := dec9 h3
    obtain ⟨c, rfl⟩ := dec9 h4
    obtain ⟨d, rfl⟩ := dec31 h5
    exact ⟨⟨k, a, b, c, d⟩, rfl⟩
theorem closed7 : closedT T [2, 3, 4, 5, 9, 22, 24, 25, 27, 31, 43, 69, 70, 72] = true := by decide +kernel
theorem own : ownKnob Tryd.prog.godebug = none := by kernel_rfl
theorem laidOut : laidOutB Tryd.prog = true := by kernel_rfl
theorem et : Tryd.prog.globalNamed "errors.errorType" = some 0 := by kernel_rfl
theorem rt : (Tryd.prog.cutTypes.find? (·.1 == "internal/reflectlite.rtype")).map (·.2) = some 143 := by kernel_rfl
theorem oneNamed : ((List.range 202).filter fun t => Tryd.prog.rowNamed t [101, 114, 114, 111, 114]) = [36] := by kernel_rfl
theorem types_size : Tryd.prog.types.size = 202 := by kernel_rfl
theorem tab_of {W : World} (h : laidMetH Tryd.prog Rows.eventTellsUptoRow.laid W) : Tab W := by
  have h' : laidMet Tryd.prog [] W ∧ handlesMet Tryd.prog Rows.eventTellsUptoRow.laid W := h
  obtain ⟨name, u, ty, e1, e2, e3, e4, e5⟩ := h'.2 _ (List.mem_singleton.2 rfl)
  have en : name = [101, 114, 114, 111, 114] := (Option.some.inj e1).symm
  subst en
  obtain rfl := Option.some.inj (rt.symm.trans e2)
  have hm : ty ∈ (List.range 202).filter fun t => Tryd.prog.rowNamed t [101, 114, 114, 111, 114] := List.mem_filter.2 ⟨List.mem_range.2 (by rw [← types_size]; exact e3), e4⟩
  rw [oneNamed] at hm
  obtain rfl := List.mem_singleton.1 hm
  have hh : typeHandle Tryd.prog 36 = .pointer (some ⟨1, 36, none⟩) := by kernel_rfl
  rw [hh] at e5
  simpa [Tab] using World.var?_cell et e5 0
noncomputable def laidWorld (os : Os) : World :=
  let w0 := World.holding Tryd.prog os ⟨#[], #[], []⟩
  { w0 with heap := w0.heap.modify 0 fun
      | .cells _ t frozen => .cells #[.iface 143 (.agg #[.pointer (some ⟨1, 36, none⟩)])] t frozen
      | o => o }
end Go.Proofs.YtchpllgeahnmmaaDoor
