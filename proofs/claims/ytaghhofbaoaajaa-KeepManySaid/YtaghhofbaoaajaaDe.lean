/- Parts of an abstract logic over the kit's walks, and walks in it: Den, Den2, Den3, Den4, Den5. -/
import Derived.Test.YtaghhofbaoaajaaMe
import Derived.Test.YtaghhofbaoaajaaBa
import Derived.Test.YtaghhofbaoaajaaVord
/- Partial matches by their meaning, as the program tells them and as the document does: plain data; nothing of a program. -/
namespace Go.AL
set_option linter.unusedVariables false
set_option linter.unusedSimpArgs false

structure Kp where
  at_ : Int
  ev : Ev
structure Bd where
  el : Int
  at_ : Int
  deriving DecidableEq
def encK (k : Kp) : List D := int k.at_ :: encE k.ev
def argK (k : Kp) : AV := .agg ((encK k).map .d)
def SK (l : List Kp) : D := .sl 4 64 (l.map encK)
def zeroE : Ev := ⟨nul, 0, []⟩
def atK (l : List Kp) (n : Int) : Ev × Bool := match l.find? fun k => k.at_ == n with
  | some k => (k.ev, true)
  | none => (zeroE, false)
def negX (p : Pat) (i : Nat) : Bool := match p.els[i]? with
  | some e => e.neg
  | none => true
/-- The next positive element from i on. -/
def nextFrom (p : Pat) : Nat → Nat → Int
  | 0, _ => -1
  | n + 1, i => bif decide (i < p.els.length) then (bif !negX p i then (i : Int) else nextFrom p n (i + 1)) else -1
def nextX (p : Pat) (k : Int) : Int := nextFrom p p.els.length (k + 1).toNat
def elX (p : Pat) (k : Int) : El := p.els.getD k.toNat ⟨nul, [], false, false, zeroX⟩
def hasTy (e : El) (t : ByteArray) : Bool := e.tys.any fun x => same x t
/-- What is bound to elements ahead of one. -/
def boundX (p : Pat) (l : List Kp) (k : Int) : List Bd → List Bi
  | [] => []
  | b :: r => bif (atK l b.at_).2 && decide (b.el < k) then ⟨(elX p b.el).al, (atK l b.at_).1⟩ :: boundX p l k r else boundX p l k r
def takesX (s : List Ty) (p : Pat) (l : List Kp) (b : List Bd) (k : Int) (e : Ev) : Bool :=
  hasTy (elX p k) e.ty && holdsX s (boundX p l k b ++ [⟨(elX p k).al, e⟩]) (elX p k).cond
def alikeX (s : List Ty) (p : Pat) (a b : Ev) : Bool :=
  same p.byf nul || ((getV s a p.byf).2 && ((getV s b p.byf).2 && sameV (getV s a p.byf).1 (getV s b p.byf).1))
/-- Events between two places. -/
def betweenX (l : List Kp) (i j : Int) : List Kp := l.filter fun k => decide (k.at_ > i) && decide (k.at_ < j)
def lastBd (b : List Bd) : Bd := b.getLastD ⟨0, 0⟩
def firstE (l : List Kp) (b : List Bd) : Ev := (atK l (b.headD ⟨0, 0⟩).at_).1
/-- A Not takes an event between. -/
def metX (s : List Ty) (p : Pat) (l : List Kp) (b : List Bd) (to : Int) (k : Int) : Bool :=
  (betweenX l (lastBd b).at_ to).any fun x => takesX s p l b k x.ev && alikeX s p (firstE l b) x.ev
def guardX (s : List Ty) (p : Pat) (l : List Kp) (b : List Bd) (x : Bd) : Bool :=
  (List.range (x.el - (lastBd b).el - 1).toNat).all fun i => !metX s p l b x.at_ ((lastBd b).el + 1 + i)
def goesX (s : List Ty) (p : Pat) (l : List Kp) (b : List Bd) (x : Bd) : Bool :=
  bif !(atK l x.at_).2 || (decide (x.el < 0) || decide (x.el ≥ (p.els.length : Int))) then false
  else bif b.isEmpty then x.el == 0 && takesX s p l [] 0 (atK l x.at_).1
  else
    bif decide (x.at_ ≤ (lastBd b).at_) || ((!(x.el == (lastBd b).el && (elX p (lastBd b).el).plus) && (x.el != nextX p (lastBd b).el)) || decide (wr ((atK l x.at_).1.ts - (firstE l b).ts) > p.within)) then false
    else alikeX s p (firstE l b) (atK l x.at_).1 && (takesX s p l b x.el (atK l x.at_).1 && ((x.el == (lastBd b).el && (elX p (lastBd b).el).plus) || guardX s p l b x))
def skipsX (s : List Ty) (p : Pat) (l : List Kp) (b : List Bd) (to : Int) : Bool :=
  (betweenX l (lastBd b).at_ to).any fun k => goesX s p l b ⟨(lastBd b).el, k.at_⟩ || goesX s p l b ⟨nextX p (lastBd b).el, k.at_⟩
/-! ### runs -/
/-- The elements that an event may be bound to. -/
def elemsX (p : Pat) (k : Int) : List Int := k :: (bif decide (nextFrom p p.els.length (max 0 (k + 1)).toNat < 0) then [] else [nextFrom p p.els.length (max 0 (k + 1)).toNat])
end Go.AL
/- Steps of the search for a place, of rows bound: plain data. -/
namespace Go.AL
set_option linter.unusedVariables false
set_option linter.unusedSimpArgs false
/-! ### the next element -/
theorem nextF_end {p : Pat} {n i : Nat} (h : p.els.length ≤ i) : nextFrom p n i = -1 := by
  cases n with
  | zero => rfl
  | succ n => unfold nextFrom; rw [show decide (i < p.els.length) = false by simp; omega]; rfl
theorem idx_any {α : Type} (p : α → Bool) (l : List α) : decide (idx p l ≥ 0) = l.any p := by
  unfold idx
  cases h : l.findIdx? p with
  | none =>
    rw [List.findIdx?_eq_none_iff] at h
    show decide ((-1 : Int) ≥ 0) = _
    symm
    show l.any p = false
    rw [List.any_eq_false]
    intro x hx; simp [h x hx]
  | some i =>
    have h1 := List.findIdx?_isSome (xs := l) (p := p)
    rw [h] at h1
    rw [← h1]
    show decide ((i : Int) ≥ 0) = true
    simp
/-! ### what is bound ahead -/
/-- All that is bound is bound to elements that are. -/
def Fits (p : Pat) (b : List Bd) : Prop := ∀ x ∈ b, 0 ≤ x.el ∧ x.el < (p.els.length : Int)
theorem Fits.at {p : Pat} {b : List Bd} {i : Nat} {x : Bd} (h : Fits p b) (hx : b[i]? = some x) : ∃ (k : Nat) (e : El), x.el = (k : Int) ∧ p.els[k]? = some e ∧ elX p x.el = e := by
  have h1 := h x (List.mem_of_getElem? hx)
  have hl : x.el.toNat < p.els.length := by omega
  refine ⟨x.el.toNat, _, by omega, List.getElem?_eq_getElem hl, ?_⟩
  unfold elX
  rw [List.getD_eq_getElem?_getD, List.getElem?_eq_getElem hl]; rfl
/-! ### events between -/
/-! ### what Nots take -/
/-! ### whether a row goes on -/
end Go.AL
/- One partial match: what the last of a row is, when it is late. -/
namespace Go.AL
set_option linter.unusedVariables false
set_option linter.unusedSimpArgs false
/-! ### what an event makes of a run -/
theorem elems_eq (p : Pat) (m : Nat) : elemsX p (m : Int) = (m : Int) :: (bif decide (nextX p m < 0) then [] else [nextX p m]) := by
  unfold elemsX nextX
  rw [show (max 0 ((m : Int) + 1)).toNat = ((m : Int) + 1).toNat by omega]
/-- How far the search for the next element is. -/
def Sought (p : Pat) (m i : Nat) (ks : List Int) : Prop := m + 1 ≤ i ∧ ((ks = [(m : Int)] ∧ nextX p m = nextFrom p (p.els.length - i) i) ∨ ∃ j : Nat, ks = [(m : Int), (j : Int)] ∧ nextX p m = (j : Int))
theorem Sought.done {p : Pat} {m i : Nat} {ks : List Int} (h : Sought p m i ks) (hd : p.els.length ≤ i ∨ ks.length ≠ 1) : elemsX p (m : Int) = ks := by
  rw [elems_eq]
  rcases h.2 with ⟨rfl, hn⟩ | ⟨j, rfl, hn⟩
  · rcases hd with hd | hd
    · rw [hn, nextF_end hd]; rfl
    · exact absurd rfl hd
  · rw [hn, show decide ((j : Int) < 0) = false by simp]; rfl
theorem Sought.one {p : Pat} {m i : Nat} {ks : List Int} (h : Sought p m i ks) (hd : ks.length = 1) : ks = [(m : Int)] ∧ nextX p m = nextFrom p (p.els.length - i) i := by
  rcases h.2 with h | ⟨j, rfl, hn⟩
  · exact h
  · cases hd
theorem Sought.len {p : Pat} {m i : Nat} {ks : List Int} (h : Sought p m i ks) : ks.length ≤ 2 := by
  rcases h.2 with ⟨rfl, _⟩ | ⟨j, rfl, _⟩ <;> simp
/-! ### what the laws make -/
def evT (ts n : Int) : Ev := ⟨ch 116, ts, [⟨3, 0, nul⟩, ⟨1, n, nul⟩, ⟨2, 0, nul⟩]⟩
end Go.AL
/- Law 15's RunLate: of the fixed pattern a run takes nothing just where it is late. -/
namespace Go.AL
set_option linter.unusedVariables false
set_option linter.unusedSimpArgs false
def eL (a : ByteArray) : El := ⟨a, [ch 116], false, false, zeroX⟩
section
variable {l : List Ev} {i : Nat} {e d : Ev} {w : Int}
end
end Go.AL
/- What law 15's known() sees, computed. -/
namespace Go.AL
set_option linter.unusedVariables false
set_option linter.unusedSimpArgs false
end Go.AL
