/- Parts of an abstract logic over the kit's walks, and walks in it: Chk. -/
import Derived.Test.YtojnicnbmgiplaaBa
import Derived.Test.YtojnicnbmgiplaaAe
/- Whether a pattern suits a schema, as plain data. Nothing of a program. -/
namespace Go.AL
set_option linter.unusedVariables false
set_option linter.unusedSimpArgs false
/-! ### Errors that are looked at -/
section
variable {E : Env} {ops : List Oper} {J : Jt} {h : Heap} {s : Slots} {o : Oper}
end
/-! ### Neighbours that are the same -/
def cI : List Int → List Int
  | [] => []
  | [a] => [a]
  | a :: b :: l => bif a == b then cI (b :: l) else a :: cI (b :: l)
theorem cI_snoc : ∀ (l : List Int) (x y : Int), cI (l ++ [x, y]) = bif x == y then cI (l ++ [x]) else cI (l ++ [x]) ++ [y]
  | [], x, y => by
    by_cases e : x = y
    · subst e; simp [cI]
    · have : (x == y) = false := by simpa using e
      simp [cI, this]
  | [a], x, y => by
    by_cases e : x = y
    · subst e
      simp only [List.cons_append, List.nil_append, cI]
      cases a == x <;> simp
    · have : (x == y) = false := by simpa using e
      simp only [List.cons_append, List.nil_append, cI, this]
      cases a == x <;> simp
  | a :: b :: l, x, y => by
    have ih := cI_snoc (b :: l) x y
    simp only [List.cons_append, cI] at ih ⊢
    rw [ih]
    cases a == b <;> cases x == y <;> rfl
theorem take_two {ks : List Int} {p : Nat} {x y : Int} (hp : 1 ≤ p) (hx : ks[p - 1]? = some x) (hy : ks[p]? = some y) : ks.take (p + 1) = ks.take (p - 1) ++ [x, y] ∧ ks.take p = ks.take (p - 1) ++ [x] := by
  obtain ⟨p, rfl⟩ : ∃ q, p = q + 1 := ⟨p - 1, by omega⟩
  rw [Nat.add_sub_cancel] at hx ⊢
  have e2 : ks.take (p + 1) = ks.take p ++ [x] := by rw [List.take_add_one, hx]; rfl
  have e1 : ks.take (p + 1 + 1) = ks.take (p + 1) ++ [y] := by rw [List.take_add_one, hy]; rfl
  rw [e1, e2]
  simp
theorem cI_more {ks : List Int} {p : Nat} {x y : Int} (hp : 1 ≤ p) (hx : ks[p - 1]? = some x) (hy : ks[p]? = some y) : cI (ks.take (p + 1)) = bif x == y then cI (ks.take p) else cI (ks.take p) ++ [y] := by
  obtain ⟨h1, h2⟩ := take_two hp hx hy
  rw [h1, h2]; exact cI_snoc _ x y
theorem intRow_get {ks : List Int} {j : Nat} {x : Int} (h : ks[j]? = some x) : (intRow ks)[j]? = some [.lit (.int .i64 x)] := by simp [intRow, h]
/-- The row while what is the same is being left out: q.1 the row, q.2.1 where is written, q.2.2 how much is read. -/
structure Cmp (ks R : List Int) (k p : Nat) : Prop where
  len : R.length = ks.length
  lo : 1 ≤ k
  kp : k < p
  hi : p ≤ ks.length
  done : R.take k = cI (ks.take p)
  rest : R.drop (p - 1) = ks.drop (p - 1)
theorem Cmp.at {ks R : List Int} {k p : Nat} (c : Cmp ks R k p) {j : Nat} (h : p - 1 ≤ j) : R[j]? = ks[j]? := by
  have e := c.rest
  have h1 : (R.drop (p - 1))[j - (p - 1)]? = (ks.drop (p - 1))[j - (p - 1)]? := by rw [e]
  rw [List.getElem?_drop, List.getElem?_drop, show p - 1 + (j - (p - 1)) = j by omega] at h1
  exact h1
theorem Cmp.skip {ks R : List Int} {k p : Nat} {x y : Int} (c : Cmp ks R k p) (hx : ks[p - 1]? = some x) (hy : ks[p]? = some y) (h : (y != x) = false) : Cmp ks R k (p + 1) := by
  have hlt := (List.getElem?_eq_some_iff.1 hy).1
  have hxy : (x == y) = true := by simp at h ⊢; exact h.symm
  refine ⟨c.len, c.lo, by have := c.kp; omega, by omega, ?_, ?_⟩
  · rw [cI_more (by have := c.kp; have := c.lo; omega) hx hy, hxy, c.done]; rfl
  · rw [show p + 1 - 1 = (p - 1) + 1 by have := c.kp; have := c.lo; omega, ← List.drop_drop, ← List.drop_drop, c.rest]
theorem Cmp.put {ks R : List Int} {k p : Nat} {x y : Int} (c : Cmp ks R k p) (hx : ks[p - 1]? = some x) (hy : ks[p]? = some y) (h : (y != x) = true) : Cmp ks (R.set k y) (k + 1) (p + 1) := by
  have hlt := (List.getElem?_eq_some_iff.1 hy).1
  have hxy : (x == y) = false := by simp at h ⊢; exact fun e => h e.symm
  have hk := c.kp
  have hl := c.len
  refine ⟨by simp [hl], by have := c.lo; omega, by omega, by omega, ?_, ?_⟩
  · rw [cI_more (by have := c.lo; omega) hx hy, hxy]
    simp only [cond_false]
    rw [← c.done, List.take_add_one]
    have : (R.set k y)[k]? = some y := by rw [List.getElem?_set_self (by omega)]
    rw [this, List.take_set_of_le (Nat.le_refl k)]
    rfl
  · rw [List.drop_set_of_lt (by omega)]
    rw [show p + 1 - 1 = (p - 1) + 1 by omega, ← List.drop_drop, ← List.drop_drop, c.rest]
theorem Cmp.start {ks : List Int} {k : Nat} {x : Int} (h1 : 1 ≤ k) (hx : ks[k - 1]? = some x) (hy : ks[k]? = some x) (hd : cI (ks.take k) = ks.take k) : Cmp ks ks k (k + 1) := by
  have hlt := (List.getElem?_eq_some_iff.1 hy).1
  refine ⟨rfl, h1, by omega, by omega, ?_, rfl⟩
  rw [cI_more h1 hx hy]
  simp [hd]
/-! ### The kind of a field in some types -/
/-! ### The kind of a condition -/
/-! ### Elements, patterns -/
end Go.AL
