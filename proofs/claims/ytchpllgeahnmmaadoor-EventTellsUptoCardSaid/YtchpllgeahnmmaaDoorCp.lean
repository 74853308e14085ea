/- Parts of an abstract logic over the kit's walks, and walks in it: Cop, Cop2, Cop3, Cop4. -/
import Derived.Test.YtchpllgeahnmmaaDoorAf
import Derived.Test.YtchpllgeahnmmaaDoorEz
import Derived.Test.YtchpllgeahnmmaaDoorBa
/- A row of types copied piece by piece: its cells on the way. Nothing of a program. -/
namespace Go.AL
set_option linter.unusedVariables false
set_option linter.unusedSimpArgs false

/-- The cells' values: names, and what the fields' rows are called. -/
def ilv : List Ty → List Value → List Value
  | t :: s, f :: fl => .string t.name :: f :: ilv s fl
  | _, _ => []
def fldD (t : Ty) : AV := .d (.sl 2 24 (t.fields.map encF))
/-- From element j on; those ahead of i are copied; that of q stays the frame's own, under key 70. -/
def ccC (q i : Nat) : Nat → List Ty → List Value → List AV
  | j, t :: s, f :: fl => .d (str t.name) :: (if j < i then (if j = q then .row 70 else fldD t) else litA f) :: ccC q i (j + 1) s fl
  | _, _, _ => []
/-- The fields' row of element q on the way. -/
def o70 (tF : TypeId) (s : List Ty) (q i : Nat) : Option Ent := if q < i then (s[q]?).map fun t => .row tF 2 (t.fields.map encF) else none
/-- The copy's memory on the way. -/
def hC (tS tT tF : TypeId) (s : List Ty) (fl : List Value) (v : Value) (V : List Value) (q i : Nat) : Heap :=
  hset (hset (hset (hset (hset (hset noHeap 1 (some (.box tS [.d (.lit (.slice none 0 0))]))) 2 (some (.box tS [.row 50]))) 50 (some (.rowA tT 2 s.length (ccC q i 0 s fl)))) 60 (some (.ghost (.row 50 :: (s.map encT).flatten.map .d) (v :: ilv s fl)))) 70 (o70 tF s q i)) 99 (some (.ghost [] V))
end Go.AL
/- A change of one type in its row: the row's cells; what a change tells. Nothing of a program. -/
namespace Go.AL
set_option linter.unusedVariables false
set_option linter.unusedSimpArgs false

/-! ### Cells of a row of types with one whose fields' cell is told apart -/
/-! ### The row of a copy -/
end Go.AL
/- What the tests on a change of a type, of a schema, of an event tell. Plain data; nothing of a program. -/
namespace Go.AL
set_option linter.unusedVariables false
set_option linter.unusedSimpArgs false
variable {t : Ty} {c : Chg} {f : Fld} {k : Nat}
/-! ### Schemas -/
variable {s : List Ty}
end Go.AL
/- What the tests of a change, of an event moved tell; errors held against nil. Plain data; nothing of a program. -/
namespace Go.AL
set_option linter.unusedVariables false
set_option linter.unusedSimpArgs false

/-! ### Errors -/
theorem evErr_errC (T : TypeId) (s : List Ty) (e : Ev) : evErr T s e = errC T (evtR s e) := by
  cases h0 : (findT s e.ty).2 with
  | false => rw [evErr_none h0, evt_none h0]; rfl
  | true =>
    by_cases h1 : e.ts < 0
    · have hf : evForm (findT s e.ty).1 e = false := by simp [evForm, h1]
      rw [evErr_form h0 hf, evt_form h0 (by simp [h1])]; rfl
    by_cases h2 : e.ts > 1073741824
    · have hf : evForm (findT s e.ty).1 e = false := by simp [evForm, h2]
      rw [evErr_form h0 hf, evt_form h0 (by simp [h2])]; rfl
    by_cases h3 : e.vals.length = (findT s e.ty).1.fields.length
    · have hg : (decide (e.ts < 0) || (decide (e.ts > 1073741824) || ((e.vals.length : Int) != ((findT s e.ty).1.fields.length : Int)))) = false := by simp [h1, h2, h3]
      cases h4 : e.vals.all isVal with
      | false =>
        have hf : evForm (findT s e.ty).1 e = false := by simp [evForm, h4]
        rw [evErr_form h0 hf]
        rw [List.all_eq_false] at h4
        obtain ⟨v, hm, hv⟩ := h4
        obtain ⟨i, hi⟩ := List.getElem?_of_mem hm
        rw [evt_val h0 hg hi (by simpa using hv)]; rfl
      | true =>
        have hf : evForm (findT s e.ty).1 e = true := by simp [evForm, h1, h2, h3, h4]
        cases h5 : kk e.vals (findT s e.ty).1.fields with
        | false =>
          rw [evErr_kind h0 hf h5]
          cases h6 : kindsAs e.vals (findT s e.ty).1.fields with
          | false => rw [evt_kind h0 hg h4 h6]; rfl
          | true =>
            exfalso
            rw [kk_all (fun j v f hj hv hfj => by simp [kindsAs_at h6 hv hfj])] at h5
            cases h5
        | true =>
          rw [evErr_ok h0 hf h5]
          cases h6 : kindsAs e.vals (findT s e.ty).1.fields with
          | true => rw [evt_yes h0 hg h4 h6]; rfl
          | false =>
            exfalso
            rw [kindsAs_yes h3 (fun j v f hv hf => by
              cases hq : (v.k != f.kind) with
              | false => rfl
              | true =>
                rw [kk_bad hv hf (by simpa [bne] using hq)] at h5
                cases h5)] at h6
            cases h6
    · have hf : evForm (findT s e.ty).1 e = false := by simp [evForm, h3]
      rw [evErr_form h0 hf, evt_form h0 (by have : (e.vals.length : Int) ≠ ((findT s e.ty).1.fields.length : Int) := by omega
                                            simp [this])]; rfl

/-! ### A new type's place -/
/-! ### Changes, as they may not be -/
/-! ### Events moved -/
end Go.AL
