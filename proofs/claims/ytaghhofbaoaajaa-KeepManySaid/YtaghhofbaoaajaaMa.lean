/- Parts of an abstract logic over the kit's walks, and walks in it: Mat, Ckr, Mat2, Mat3. -/
import Derived.Test.YtaghhofbaoaajaaDe
import Derived.Test.YtaghhofbaoaajaaAg
import Derived.Test.YtaghhofbaoaajaaMe
/- All matches of a pattern: their order, and how they grow; plain data. -/
namespace Go.AL
open Go.Proofs Go.Sort
set_option linter.unusedVariables false
set_option linter.unusedSimpArgs false
def orI (a b : Int) : Int := bif a != 0 then a else b
/-! ### how rows grow -/
def furF (s : List Ty) (p : Pat) (l : List Kp) (b : List Bd) (k e : Int) : Option (List Bd) := bif goesX s p l b ⟨e, k⟩ then some (b ++ [⟨e, k⟩]) else none
def furE (p : Pat) (b : List Bd) : List Int := [(lastBd b).el, nextX p (lastBd b).el]
def furX (s : List Ty) (p : Pat) (l : List Kp) (b : List Bd) (k : Int) : List (List Bd) := (furE p b).filterMap (furF s p l b k)
section
variable {s : List Ty} {p : Pat} {l : List Kp} {b : List Bd} {k : Int} {n : Nat}
/-- Rows that are in hand: not empty, of elements that are, short. -/
def RowIn (p : Pat) (n : Nat) (b : List Bd) : Prop := 0 < b.length ∧ Fits p b ∧ b.length ≤ n
theorem RowIn.more {b : List Bd} {n m : Nat} (h : RowIn p n b) (hm : n ≤ m) : RowIn p m b := ⟨h.1, h.2.1, Nat.le_trans h.2.2 hm⟩
theorem filt_snoc_t {α : Type} {f : α → Bool} {xs : List α} {i : Nat} {x : α} (h : xs[i]? = some x) (hf : f x = true) : (xs.take (i + 1)).filter f = (xs.take i).filter f ++ [x] := by
  rw [List.take_add_one, h, show (some x).toList = [x] from rfl, List.filter_append]; simp [hf]
theorem filt_snoc_f {α : Type} {f : α → Bool} {xs : List α} {i : Nat} {x : α} (h : xs[i]? = some x) (hf : f x = false) : (xs.take (i + 1)).filter f = (xs.take i).filter f := by
  rw [List.take_add_one, h, show (some x).toList = [x] from rfl, List.filter_append]; simp [hf]
end
/-! ### the first that isn't 0 -/
def orL : List Int → Int
  | [] => 0
  | x :: r => bif x != 0 then x else orL r
theorem orL_two (a b : Int) : orL [a, b] = orI a b := by
  show (bif a != 0 then a else (bif b != 0 then b else 0)) = bif a != 0 then a else b
  cases h : a != 0 with
  | true => rfl
  | false =>
    cases h2 : b != 0 with
    | true => rfl
    | false => have := bne_eq_false_iff_eq.1 h2; rw [this]; rfl
theorem orL_at {ks : List Int} {i : Nat} {x : Int} (h : ks[i]? = some x) : orL (ks.drop i) = bif x != 0 then x else orL (ks.drop (i + 1)) := by
  obtain ⟨h1, rfl⟩ := List.getElem?_eq_some_iff.1 h
  rw [List.drop_eq_getElem_cons h1]; rfl
theorem orL_end {ks : List Int} {i : Nat} (h : ks.length ≤ i) : orL (ks.drop i) = 0 := by rw [List.drop_of_length_le h]; rfl
end Go.AL
/- The document's check of a pattern, plain. -/
namespace Go.AL
set_option linter.unusedVariables false
set_option linter.unusedSimpArgs false
section
variable {s : List Ty} {p : Pat} {e : El} {seen : List El} {i : Nat}
theorem isPat_head (h : isPat p = true) : 1 ≤ p.els.length ∧ p.els.length ≤ 5 ∧ 0 ≤ p.within ∧ p.within ≤ 1000 := by
  unfold isPat at h
  have h := (Bool.and_eq_true_iff.1 h).1
  unfold headP at h
  simp at h
  omega
end
end Go.AL
/- What every match is: plain laws of rows that go on. -/
namespace Go.AL
open Go.Proofs Go.Sort
set_option linter.unusedVariables false
set_option linter.unusedSimpArgs false
/-- Each bound goes behind those ahead of it. -/
def Gn (s : List Ty) (p : Pat) (l : List Kp) (b : List Bd) : Prop := 0 < b.length ∧ ∀ (i : Nat) (x : Bd), b[i]? = some x → goesX s p l (b.take i) x = true
section
variable {s : List Ty} {p : Pat} {l : List Kp} {b : List Bd} {k : Int} {n : Nat} {x : Bd}
end
/-! ### events that are kept one behind the other -/
end Go.AL
/- What law 14's known() sees, computed. -/
namespace Go.AL
open Go.Proofs Go.Sort
set_option linter.unusedVariables false
set_option linter.unusedSimpArgs false
end Go.AL
