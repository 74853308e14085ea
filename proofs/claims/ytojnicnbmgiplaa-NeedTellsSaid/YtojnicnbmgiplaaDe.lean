/- Parts of an abstract logic over the kit's walks, and walks in it: Den, Den2, Den3, Den4, Den5. -/
import Derived.Test.YtojnicnbmgiplaaMe
import Derived.Test.YtojnicnbmgiplaaBa
import Derived.Test.YtojnicnbmgiplaaVord
/- Partial matches by their meaning, as the program tells them and as the document does: plain data; nothing of a program. -/
namespace Go.AL
set_option linter.unusedVariables false
set_option linter.unusedSimpArgs false

structure Kp where
  at_ : Int
  ev : Ev
structure Bd where
  el : Int
  at_ : Int
  deriving DecidableEq
def negX (p : Pat) (i : Nat) : Bool := match p.els[i]? with
  | some e => e.neg
  | none => true
/-- The next positive element from i on. -/
def nextFrom (p : Pat) : Nat → Nat → Int
  | 0, _ => -1
  | n + 1, i => bif decide (i < p.els.length) then (bif !negX p i then (i : Int) else nextFrom p n (i + 1)) else -1
def nextX (p : Pat) (k : Int) : Int := nextFrom p p.els.length (k + 1).toNat
def elX (p : Pat) (k : Int) : El := p.els.getD k.toNat ⟨nul, [], false, false, zeroX⟩
/-! ### runs -/
/-- The elements that an event may be bound to. -/
def elemsX (p : Pat) (k : Int) : List Int := k :: (bif decide (nextFrom p p.els.length (max 0 (k + 1)).toNat < 0) then [] else [nextFrom p p.els.length (max 0 (k + 1)).toNat])
end Go.AL
/- Steps of the search for a place, of rows bound: plain data. -/
namespace Go.AL
set_option linter.unusedVariables false
set_option linter.unusedSimpArgs false
/-! ### the next element -/
theorem nextF_end {p : Pat} {n i : Nat} (h : p.els.length ≤ i) : nextFrom p n i = -1 := by
  cases n with
  | zero => rfl
  | succ n => unfold nextFrom; rw [show decide (i < p.els.length) = false by simp; omega]; rfl
theorem idx_any {α : Type} (p : α → Bool) (l : List α) : decide (idx p l ≥ 0) = l.any p := by
  unfold idx
  cases h : l.findIdx? p with
  | none =>
    rw [List.findIdx?_eq_none_iff] at h
    show decide ((-1 : Int) ≥ 0) = _
    symm
    show l.any p = false
    rw [List.any_eq_false]
    intro x hx; simp [h x hx]
  | some i =>
    have h1 := List.findIdx?_isSome (xs := l) (p := p)
    rw [h] at h1
    rw [← h1]
    show decide ((i : Int) ≥ 0) = true
    simp
/-! ### what is bound ahead -/
/-- All that is bound is bound to elements that are. -/
def Fits (p : Pat) (b : List Bd) : Prop := ∀ x ∈ b, 0 ≤ x.el ∧ x.el < (p.els.length : Int)
theorem Fits.at {p : Pat} {b : List Bd} {i : Nat} {x : Bd} (h : Fits p b) (hx : b[i]? = some x) : ∃ (k : Nat) (e : El), x.el = (k : Int) ∧ p.els[k]? = some e ∧ elX p x.el = e := by
  have h1 := h x (List.mem_of_getElem? hx)
  have hl : x.el.toNat < p.els.length := by omega
  refine ⟨x.el.toNat, _, by omega, List.getElem?_eq_getElem hl, ?_⟩
  unfold elX
  rw [List.getD_eq_getElem?_getD, List.getElem?_eq_getElem hl]; rfl
/-! ### events between -/
/-! ### what Nots take -/
/-! ### whether a row goes on -/
end Go.AL
/- One partial match: what the last of a row is, when it is late. -/
namespace Go.AL
set_option linter.unusedVariables false
set_option linter.unusedSimpArgs false
/-! ### what an event makes of a run -/
theorem elems_eq (p : Pat) (m : Nat) : elemsX p (m : Int) = (m : Int) :: (bif decide (nextX p m < 0) then [] else [nextX p m]) := by
  unfold elemsX nextX
  rw [show (max 0 ((m : Int) + 1)).toNat = ((m : Int) + 1).toNat by omega]
/-- How far the search for the next element is. -/
def Sought (p : Pat) (m i : Nat) (ks : List Int) : Prop := m + 1 ≤ i ∧ ((ks = [(m : Int)] ∧ nextX p m = nextFrom p (p.els.length - i) i) ∨ ∃ j : Nat, ks = [(m : Int), (j : Int)] ∧ nextX p m = (j : Int))
theorem Sought.done {p : Pat} {m i : Nat} {ks : List Int} (h : Sought p m i ks) (hd : p.els.length ≤ i ∨ ks.length ≠ 1) : elemsX p (m : Int) = ks := by
  rw [elems_eq]
  rcases h.2 with ⟨rfl, hn⟩ | ⟨j, rfl, hn⟩
  · rcases hd with hd | hd
    · rw [hn, nextF_end hd]; rfl
    · exact absurd rfl hd
  · rw [hn, show decide ((j : Int) < 0) = false by simp]; rfl
theorem Sought.one {p : Pat} {m i : Nat} {ks : List Int} (h : Sought p m i ks) (hd : ks.length = 1) : ks = [(m : Int)] ∧ nextX p m = nextFrom p (p.els.length - i) i := by
  rcases h.2 with h | ⟨j, rfl, hn⟩
  · exact h
  · cases hd
theorem Sought.len {p : Pat} {m i : Nat} {ks : List Int} (h : Sought p m i ks) : ks.length ≤ 2 := by
  rcases h.2 with ⟨rfl, _⟩ | ⟨j, rfl, _⟩ <;> simp
/-! ### what the laws make -/
end Go.AL
/- Law 15's RunLate: of the fixed pattern a run takes nothing just where it is late. -/
namespace Go.AL
set_option linter.unusedVariables false
set_option linter.unusedSimpArgs false
section
variable {l : List Ev} {i : Nat} {e d : Ev} {w : Int}
end
end Go.AL
/- What law 15's known() sees, computed. -/
namespace Go.AL
set_option linter.unusedVariables false
set_option linter.unusedSimpArgs false
end Go.AL
