/- What an event is as an argument. -/
import Derived.Test.YtdlikopmjhfalaaEv
import Derived.Test.YtdlikopmjhfalaaVdec
namespace Go.Proofs.Ytdlikopmjhfalaa
open Go Go.AL
theorem dec38 {n : Nat} {x : List D} (h : DTc T n 38 x) : ∃ l : List Vl, x = [.sl 3 32 (l.map encV)] := by
  cases n with
  | zero => exact h.elim
  | succ n =>
    have h : ∃ xs : List (List D), x = [.sl 3 32 xs] ∧ (∀ y ∈ xs, DTc T n 42 y) ∧ xs.length * 32 ≤ 140737488351232 := h
    obtain ⟨xs, rfl, h1, _⟩ := h
    obtain ⟨l, rfl⟩ := dec_list (enc := encV) fun y hy => dec42 (h1 y hy)
    exact ⟨l, rfl⟩
theorem dec40 {n : Nat} {x : List D} (h : DTc T n 40 x) : ∃ e, x = encE e := by
  cases n with
  | zero => exact h.elim
  | succ n =>
    have h : partsT (DTc T n) [9, 3, 38] x := h
    obtain ⟨p, _, rfl, h1, p2, _, rfl, h2, p3, _, rfl, h3, rfl⟩ := h
    obtain ⟨s, rfl⟩ := dec9 h1
    obtain ⟨m, rfl⟩ := dec3 h2
    obtain ⟨l, rfl⟩ := dec38 h3
    exact ⟨⟨s, m, l⟩, rfl⟩
theorem dec26 {n : Nat} {x : List D} (h : DTc T n 26 x) : ∃ l : List UInt8, x = [.sl 1 1 (bytesD l)] := by
  cases n with
  | zero => exact h.elim
  | succ n =>
    have h : ∃ xs : List (List D), x = [.sl 1 1 xs] ∧ (∀ y ∈ xs, DTc T n 5 y) ∧ xs.length * 1 ≤ 140737488351232 := h
    obtain ⟨xs, rfl, h1, _⟩ := h
    obtain ⟨l, rfl⟩ := dec_list (enc := fun u : UInt8 => [D.lit (.int .u8 (u.toNat : Int))]) fun y hy => dec5 (h1 y hy)
    exact ⟨l, rfl⟩
theorem closed3 : closedT T [2, 3, 5, 9, 26, 38, 40, 42] = true := by decide +kernel
end Go.Proofs.Ytdlikopmjhfalaa
