/- Parts of an abstract logic over the kit's walks, and walks in it: Cop, Cop2. -/
import Derived.Test.YtojnicnbmgiplaaAf
import Derived.Test.YtojnicnbmgiplaaEz
/- A row of types copied piece by piece: its cells on the way. Nothing of a program. -/
namespace Go.AL
set_option linter.unusedVariables false
set_option linter.unusedSimpArgs false

/-- The cells' values: names, and what the fields' rows are called. -/
def ilv : List Ty → List Value → List Value
  | t :: s, f :: fl => .string t.name :: f :: ilv s fl
  | _, _ => []
def fldD (t : Ty) : AV := .d (.sl 2 24 (t.fields.map encF))
/-- From element j on; those ahead of i are copied; that of q stays the frame's own, under key 70. -/
def ccC (q i : Nat) : Nat → List Ty → List Value → List AV
  | j, t :: s, f :: fl => .d (str t.name) :: (if j < i then (if j = q then .row 70 else fldD t) else litA f) :: ccC q i (j + 1) s fl
  | _, _, _ => []
/-- The fields' row of element q on the way. -/
def o70 (tF : TypeId) (s : List Ty) (q i : Nat) : Option Ent := if q < i then (s[q]?).map fun t => .row tF 2 (t.fields.map encF) else none
/-- The copy's memory on the way. -/
def hC (tS tT tF : TypeId) (s : List Ty) (fl : List Value) (v : Value) (V : List Value) (q i : Nat) : Heap :=
  hset (hset (hset (hset (hset (hset noHeap 1 (some (.box tS [.d (.lit (.slice none 0 0))]))) 2 (some (.box tS [.row 50]))) 50 (some (.rowA tT 2 s.length (ccC q i 0 s fl)))) 60 (some (.ghost (.row 50 :: (s.map encT).flatten.map .d) (v :: ilv s fl)))) 70 (o70 tF s q i)) 99 (some (.ghost [] V))
end Go.AL
/- A change of one type in its row: the row's cells; what a change tells. Nothing of a program. -/
namespace Go.AL
set_option linter.unusedVariables false
set_option linter.unusedSimpArgs false

/-! ### Cells of a row of types with one whose fields' cell is told apart -/
/-! ### The row of a copy -/
end Go.AL
