/- Parts of an abstract logic over the kit's walks, and walks in it: Mat5. -/
import Derived.Test.YtojnicnbmgiplaaMat4
/- All that goes on is matched; what is matched without skipping is matched with it, a greater window loses nothing. -/
namespace Go.AL
open Go.Proofs Go.Sort
set_option linter.unusedVariables false
set_option linter.unusedSimpArgs false
section
variable {s : List Ty} {p : Pat} {l : List Kp} {b : List Bd} {n : Nat}
end
/-! ### other windows, with and without skipping -/
section
variable {s : List Ty} {els : List El} {w w' : Int} {byf : ByteArray} {a a' : Bool} {l : List Kp} {b : List Bd}
end
/-! ### rows held side by side -/
theorem mat_rows {s : List Ty} {p : Pat} {l : List Kp} (hl : l.length ≤ 11) : (matchesX s p l).length ≤ 4194304 ∧ ∀ b ∈ matchesX s p l, b.length ≤ 12 := by
  have hol := out_len (s := s) (p := p) (l := l) l.length
  have hpow : 4 ^ l.length ≤ 4194304 := Nat.le_trans (Nat.pow_le_pow_right (by decide) hl) (by decide)
  exact ⟨Nat.le_trans hol hpow, fun b hb => by have := (rowin_of hb).2.2; omega⟩
end Go.AL
