/- Parts of an abstract logic over the kit's walks, and walks in it: Dif. -/
import Derived.Test.YtjiknbjkbakegaaDoorNrm3
/- What differs between two patterns (law 19): plain data; nothing of a program. -/
namespace Go.AL
set_option linter.unusedVariables false
set_option linter.unusedSimpArgs false

structure Dl where
  kind : Int
  pl : Int
def encDl (d : Dl) : List D := [int d.kind, int d.pl]
def sameD (a b : Dl) : Bool := a.kind == b.kind && a.pl == b.pl
def whenD (b : Bool) (d : Dl) : List Dl := bif b then [d] else []
def difH (p q : Pat) : List Dl := whenD (!(p.within == q.within)) ⟨1, 0⟩ ++ (whenD (!same p.byf q.byf) ⟨2, 0⟩ ++ whenD (!(p.any == q.any)) ⟨3, 0⟩)
def difB (a b : El) : List Bool := [!same a.al b.al, !allSame same a.tys b.tys, !(a.plus == b.plus), !(a.neg == b.neg), !sameX a.cond b.cond]
/-- The kinds of what is true, from the i-th on. -/
def kindsB : List Bool → Nat → List Int
  | [], _ => []
  | b :: l, i => bif b then ((i : Nat) : Int) :: kindsB l (i + 1) else kindsB l (i + 1)
def difL (i : Nat) (a b : El) : List Dl := (kindsB (difB a b) 5).map fun k => ⟨k, (i : Int)⟩
def difAt (P Q : List El) (j : Nat) : List Dl := match P[j]?, Q[j]? with
  | some a, some b => difL j a b
  | _, _ => []
def difs (P Q : List El) (i : Nat) : List Dl := (List.range i).flatMap (difAt P Q)
def difX (p q : Pat) : List Dl := bif p.els.length == q.els.length then difH p q ++ difs p.els q.els p.els.length else difH p q ++ [⟨4, 0⟩]
theorem difs_succ (P Q : List El) (i : Nat) : difs P Q (i + 1) = difs P Q i ++ difAt P Q i := by simp [difs, List.range_succ]
theorem difAt_some {P Q : List El} {j : Nat} {a b : El} (ha : P[j]? = some a) (hb : Q[j]? = some b) : difAt P Q j = difL j a b := by simp [difAt, ha, hb]
theorem difL_eq (i : Nat) (a b : El) : difL i a b = whenD (!same a.al b.al) ⟨5, i⟩ ++ (whenD (!allSame same a.tys b.tys) ⟨6, i⟩ ++ (whenD (!(a.plus == b.plus)) ⟨7, i⟩ ++ (whenD (!(a.neg == b.neg)) ⟨8, i⟩ ++ whenD (!sameX a.cond b.cond) ⟨9, i⟩))) := by
  unfold difL difB
  cases same a.al b.al <;> cases allSame same a.tys b.tys <;> cases (a.plus == b.plus) <;> cases (a.neg == b.neg) <;> cases sameX a.cond b.cond <;> rfl
theorem difL_few (i : Nat) (a b : El) : (difL i a b).length ≤ 5 := by
  rw [difL_eq]
  cases same a.al b.al <;> cases allSame same a.tys b.tys <;> cases (a.plus == b.plus) <;> cases (a.neg == b.neg) <;> cases sameX a.cond b.cond <;> simp [whenD]
theorem difH_few (p q : Pat) : (difH p q).length ≤ 3 := by
  unfold difH
  cases (p.within == q.within) <;> cases same p.byf q.byf <;> cases (p.any == q.any) <;> simp [whenD]
theorem difAt_few (P Q : List El) (j : Nat) : (difAt P Q j).length ≤ 5 := by
  unfold difAt
  split
  · exact difL_few _ _ _
  · simp
theorem difs_few (P Q : List El) : ∀ i, (difs P Q i).length ≤ 5 * i
  | 0 => by simp [difs]
  | i + 1 => by
    rw [difs_succ, List.length_append]
    have := difs_few P Q i
    have := difAt_few P Q i
    omega

/-! ### Alike -/
theorem sameD_self (l : List Dl) : allSame sameD l l = true := allSame_self (fun a => by simp [sameD]) l

/-! ### One thing changed -/
/-- Whether only the window differs, and that isn't greater. -/
def onlyD (l : List Dl) : Bool := l.all fun d => d.kind == 1
def shrX (p q : Pat) : Bool := onlyD (difX (normP p) (normP q)) && decide (q.within ≤ p.within)
end Go.AL
