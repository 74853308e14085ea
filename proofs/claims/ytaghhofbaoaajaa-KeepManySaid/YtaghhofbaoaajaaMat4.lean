/- Parts of an abstract logic over the kit's walks, and walks in it: Mat4. -/
import Derived.Test.YtaghhofbaoaajaaMa
/- Nothing is skipped, all rows are different, matches stand in order. -/
namespace Go.AL
open Go.Proofs Go.Sort
set_option linter.unusedVariables false
set_option linter.unusedSimpArgs false
def Sk (s : List Ty) (p : Pat) (l : List Kp) (b : List Bd) : Prop := p.any = true ∨ ∀ (i : Nat) (x : Bd), 0 < i → b[i]? = some x → skipsX s p l (b.take i) x.at_ = false
def Pend (s : List Ty) (p : Pat) (l : List Kp) (b : List Bd) (n : Nat) : Prop := p.any = true ∨ ∀ (j : Nat) (k : Kp), j < n → l[j]? = some k → (lastBd b).at_ < k.at_ → furX s p l b k.at_ = []
def AtB (l : List Kp) (b : List Bd) (n : Nat) : Prop := ∃ (j : Nat) (x : Kp), j < n ∧ l[j]? = some x ∧ (lastBd b).at_ = x.at_
structure Good (s : List Ty) (p : Pat) (l : List Kp) (n : Nat) (b : List Bd) : Prop where
  gn : Gn s p l b
  sk : Sk s p l b
  pend : Pend s p l b n
  at_ : AtB l b n
  row : RowIn p n b
section
variable {s : List Ty} {p : Pat} {l : List Kp} {b : List Bd} {n : Nat}
end
end Go.AL
