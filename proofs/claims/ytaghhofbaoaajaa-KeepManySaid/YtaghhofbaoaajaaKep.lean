/- Parts of an abstract logic over the kit's walks, and walks in it: Kep. -/
import Derived.Test.YtaghhofbaoaajaaNeed3
import Derived.Test.YtaghhofbaoaajaaMat7
/- Events that are kept; plain data. -/
namespace Go.AL
open Go.Proofs
set_option linter.unusedVariables false
set_option linter.unusedSimpArgs false
def keepB (e : Ev) (p : Pat) (k : Kp) : Bool := decide (k.ev.ts ≥ IntKind.i64.wrap (e.ts - p.within))
def kaddX (s : List Ty) (p : Pat) (l : List Kp) (at1 : Int) (e : Ev) : List Kp := l.filter (keepB e p) ++ [⟨at1, trimX s (usesX p) e⟩]
def manyX (l : List Kp) : Bool := decide ((l.length : Int) > 40)
def keptR (l : List Kp) : List Kp := bif manyX l then [] else l
def keptE (l : List Kp) : Int := bif manyX l then 18 else 0
def sinceX (l : List Kp) (next : Int) : Int := match l with | [] => next | k :: _ => k.at_
def fromX (l : List Kp) (at1 : Int) : List Kp := l.filter fun k => decide (k.at_ ≥ at1)
theorem set_same {α : Type} {xs : List α} {i : Nat} {x : α} (h : xs[i]? = some x) : xs.set i x = xs := by
  obtain ⟨hi, rfl⟩ := List.getElem?_eq_some_iff.1 h
  exact List.set_getElem_self hi
end Go.AL
