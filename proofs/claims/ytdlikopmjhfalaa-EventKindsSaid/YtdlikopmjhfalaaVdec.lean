/- What the arguments of law 1 are. -/
import Derived.Test.YtdlikopmjhfalaaVal
import Derived.Test.YtdlikopmjhfalaaRdec
namespace Go.Proofs.Ytdlikopmjhfalaa
open Go Go.AL
theorem dec2 {n : Nat} {x : List D} (h : DTc T n 2 x) : ∃ m, x = [int m] := by
  cases n with
  | zero => exact h.elim
  | succ n =>
    have h : ∃ m, x = [.lit (.int .i64 m)] ∧ IntKind.i64.min ≤ m ∧ m ≤ IntKind.i64.max := h
    obtain ⟨s, rfl, _⟩ := h
    exact ⟨s, rfl⟩
theorem dec5 {n : Nat} {x : List D} (h : DTc T n 5 x) : ∃ u : UInt8, x = [.lit (.int .u8 (u.toNat : Int))] := by
  cases n with
  | zero => exact h.elim
  | succ n =>
    have h : ∃ m, x = [.lit (.int .u8 m)] ∧ IntKind.u8.min ≤ m ∧ m ≤ IntKind.u8.max := h
    obtain ⟨s, rfl, h1, h2⟩ := h
    have e1 : IntKind.u8.min = 0 := rfl
    have e2 : IntKind.u8.max = 255 := rfl
    obtain ⟨m, rfl⟩ := Int.eq_ofNat_of_zero_le (show 0 ≤ s by omega)
    refine ⟨UInt8.ofNat m, ?_⟩
    rw [UInt8.toNat_ofNat_of_lt' (by show m < 256; omega)]
theorem dec42 {n : Nat} {x : List D} (h : DTc T n 42 x) : ∃ v, x = encV v := by
  cases n with
  | zero => exact h.elim
  | succ n =>
    have h : partsT (DTc T n) [3, 2, 9] x := h
    obtain ⟨p, _, rfl, h1, p2, _, rfl, h2, p3, _, rfl, h3, rfl⟩ := h
    obtain ⟨k, rfl⟩ := dec3 h1
    obtain ⟨m, rfl⟩ := dec2 h2
    obtain ⟨s, rfl⟩ := dec9 h3
    exact ⟨⟨k, m, s⟩, rfl⟩
theorem dec57 {n : Nat} {x : List D} (h : DTc T n 57 x) : ∃ l : List ByteArray, x = [.sl 1 16 (l.map encB)] := by
  cases n with
  | zero => exact h.elim
  | succ n =>
    have h : ∃ xs : List (List D), x = [.sl 1 16 xs] ∧ (∀ y ∈ xs, DTc T n 9 y) ∧ xs.length * 16 ≤ 140737488351232 := h
    obtain ⟨xs, rfl, h1, _⟩ := h
    obtain ⟨l, rfl⟩ := dec_list (enc := encB) fun y hy => dec9 (h1 y hy)
    exact ⟨l, rfl⟩
theorem closed1 : closedT T [2, 3, 5, 9, 42, 57] = true := by decide +kernel
end Go.Proofs.Ytdlikopmjhfalaa
