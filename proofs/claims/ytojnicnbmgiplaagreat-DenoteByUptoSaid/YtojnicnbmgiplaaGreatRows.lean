/-
  NARROWER THAN 'FOR EVERY INPUT', by the rows' own cells (each row's printed sentence says how): DenoteTells: loops · DenoteBegins: loops · DenoteAny: loops · DenoteShifts: loops · DenoteBy: loops · DenoteWindow: loops.
  DERIVED. THE GIVEN ROWS OF THIS SEAT. 6 by the template 'for every input the law returns true; each argument reads behind the call as it read before'; 0 by the template 'total and deterministic' (their statements: YtojnicnbmgiplaaGreatTotals.lean).
  GIVEN WITH THE SEED: the statements are not yours to turn. If you find one false, say at which input.
  Laid BY PROGRAM, IN A SANDBOX (cutbox-rows.mjs): the forced cells as the released guide's own fill.sh prints them over the translation 825a8e8b8743faf2… (all of the seat's roots in one cut). By AI agents, Wed Nov 11 2026. No macro, syntax, notation, axiom, sorry.
-/
import Derived.Test.YtojnicnbmgiplaaGreatChecked
import GoSem.Claim
import GoSem.ClaimJoined
import GoSem.ClaimMapViews
import Derived.JoinedTies
import Derived.KernelRfl
namespace Go.Proofs.YtojnicnbmgiplaaGreat
/- THE CELL 'sum', in the pinned program and in every row, IS THE sha256 OF THE DUMP (.gsa) THAT YtojnicnbmgiplaaGreatProg.lean LOADS. Nothing in Lean hashes anything: it is a label: what it is worth is what the hold of that sum in a sandbox is worth. -/
noncomputable def Tryz.pinned : Pinned := { name := "ytojnicnbmgiplaagreat", sum := "825a8e8b8743faf2bb8b89e15923f411275859d33bab58f25450e3b9cd5b3981", checked := Tryz.checked }
namespace Rows
def none {H : Type} : Left H := { results := [], args := [] }

/-- 'pasternlaw14.DenoteTells': WHATEVER THE INPUT: true; the input reads as it did. -/
def denoteTellsSpec : ChangeSpec := { name := "denoteTells", fn := fun _ => fun
  | [d1, d2, d3, d4] => { results := [.lit (.bool true)], args := [d1, d2, d3, d4] }
  | _ => none }
def denoteTellsRow : OpenClaim := { program := "ytojnicnbmgiplaagreat", sum := "825a8e8b8743faf2bb8b89e15923f411275859d33bab58f25450e3b9cd5b3981", func := "pastern/pasternlaw14.DenoteTells", spec := "denoteTells", unfollowed := true, recurses := true, loops := true, apart := false }
def DenoteTellsSaid : Prop := denoteTellsRow.holds Tryz.pinned (OpenSpec.ofChange denoteTellsSpec)

/-- ITS FALSE NEIGHBOUR: 'it returns false'. Refute it at one input. -/
def denoteTellsWrong : ChangeSpec := { name := "denoteTells", fn := fun _ => fun
  | [d1, d2, d3, d4] => { results := [.lit (.bool false)], args := [d1, d2, d3, d4] }
  | _ => none }
def DenoteTellsWrongFalsely : Prop := denoteTellsRow.holds Tryz.pinned (OpenSpec.ofChange denoteTellsWrong)

/-- 'pasternlaw14.DenoteBegins': WHATEVER THE INPUT: true; the input reads as it did. -/
def denoteBeginsSpec : ChangeSpec := { name := "denoteBegins", fn := fun _ => fun
  | [d1, d2] => { results := [.lit (.bool true)], args := [d1, d2] }
  | _ => none }
def denoteBeginsRow : OpenClaim := { program := "ytojnicnbmgiplaagreat", sum := "825a8e8b8743faf2bb8b89e15923f411275859d33bab58f25450e3b9cd5b3981", func := "pastern/pasternlaw14.DenoteBegins", spec := "denoteBegins", unfollowed := true, recurses := true, loops := true, apart := false }
def DenoteBeginsSaid : Prop := denoteBeginsRow.holds Tryz.pinned (OpenSpec.ofChange denoteBeginsSpec)

/-- ITS FALSE NEIGHBOUR: 'it returns false'. Refute it at one input. -/
def denoteBeginsWrong : ChangeSpec := { name := "denoteBegins", fn := fun _ => fun
  | [d1, d2] => { results := [.lit (.bool false)], args := [d1, d2] }
  | _ => none }
def DenoteBeginsWrongFalsely : Prop := denoteBeginsRow.holds Tryz.pinned (OpenSpec.ofChange denoteBeginsWrong)

/-- 'pasternlaw14.DenoteAny': WHATEVER THE INPUT: true; the input reads as it did. -/
def denoteAnySpec : ChangeSpec := { name := "denoteAny", fn := fun _ => fun
  | [d1, d2, d3] => { results := [.lit (.bool true)], args := [d1, d2, d3] }
  | _ => none }
def denoteAnyRow : OpenClaim := { program := "ytojnicnbmgiplaagreat", sum := "825a8e8b8743faf2bb8b89e15923f411275859d33bab58f25450e3b9cd5b3981", func := "pastern/pasternlaw14.DenoteAny", spec := "denoteAny", unfollowed := true, recurses := true, loops := true, apart := false }
def DenoteAnySaid : Prop := denoteAnyRow.holds Tryz.pinned (OpenSpec.ofChange denoteAnySpec)

/-- ITS FALSE NEIGHBOUR: 'it returns false'. Refute it at one input. -/
def denoteAnyWrong : ChangeSpec := { name := "denoteAny", fn := fun _ => fun
  | [d1, d2, d3] => { results := [.lit (.bool false)], args := [d1, d2, d3] }
  | _ => none }
def DenoteAnyWrongFalsely : Prop := denoteAnyRow.holds Tryz.pinned (OpenSpec.ofChange denoteAnyWrong)

/-- 'pasternlaw14.DenoteShifts': WHATEVER THE INPUT: true; the input reads as it did. -/
def denoteShiftsSpec : ChangeSpec := { name := "denoteShifts", fn := fun _ => fun
  | [d1, d2, d3, d4] => { results := [.lit (.bool true)], args := [d1, d2, d3, d4] }
  | _ => none }
def denoteShiftsRow : OpenClaim := { program := "ytojnicnbmgiplaagreat", sum := "825a8e8b8743faf2bb8b89e15923f411275859d33bab58f25450e3b9cd5b3981", func := "pastern/pasternlaw14.DenoteShifts", spec := "denoteShifts", unfollowed := true, recurses := true, loops := true, apart := false }
def DenoteShiftsSaid : Prop := denoteShiftsRow.holds Tryz.pinned (OpenSpec.ofChange denoteShiftsSpec)

/-- ITS FALSE NEIGHBOUR: 'it returns false'. Refute it at one input. -/
def denoteShiftsWrong : ChangeSpec := { name := "denoteShifts", fn := fun _ => fun
  | [d1, d2, d3, d4] => { results := [.lit (.bool false)], args := [d1, d2, d3, d4] }
  | _ => none }
def DenoteShiftsWrongFalsely : Prop := denoteShiftsRow.holds Tryz.pinned (OpenSpec.ofChange denoteShiftsWrong)

/-- 'pasternlaw14.DenoteBy': WHATEVER THE INPUT: true; the input reads as it did. -/
def denoteBySpec : ChangeSpec := { name := "denoteBy", fn := fun _ => fun
  | [d1, d2] => { results := [.lit (.bool true)], args := [d1, d2] }
  | _ => none }
def denoteByRow : OpenClaim := { program := "ytojnicnbmgiplaagreat", sum := "825a8e8b8743faf2bb8b89e15923f411275859d33bab58f25450e3b9cd5b3981", func := "pastern/pasternlaw14.DenoteBy", spec := "denoteBy", unfollowed := true, recurses := true, loops := true, apart := false }
def DenoteBySaid : Prop := denoteByRow.holds Tryz.pinned (OpenSpec.ofChange denoteBySpec)

/-- ITS FALSE NEIGHBOUR: 'it returns false'. Refute it at one input. -/
def denoteByWrong : ChangeSpec := { name := "denoteBy", fn := fun _ => fun
  | [d1, d2] => { results := [.lit (.bool false)], args := [d1, d2] }
  | _ => none }
def DenoteByWrongFalsely : Prop := denoteByRow.holds Tryz.pinned (OpenSpec.ofChange denoteByWrong)

/-- 'pasternlaw14.DenoteWindow': WHATEVER THE INPUT: true; the input reads as it did. -/
def denoteWindowSpec : ChangeSpec := { name := "denoteWindow", fn := fun _ => fun
  | [d1, d2, d3] => { results := [.lit (.bool true)], args := [d1, d2, d3] }
  | _ => none }
def denoteWindowRow : OpenClaim := { program := "ytojnicnbmgiplaagreat", sum := "825a8e8b8743faf2bb8b89e15923f411275859d33bab58f25450e3b9cd5b3981", func := "pastern/pasternlaw14.DenoteWindow", spec := "denoteWindow", unfollowed := true, recurses := true, loops := true, apart := false }
def DenoteWindowSaid : Prop := denoteWindowRow.holds Tryz.pinned (OpenSpec.ofChange denoteWindowSpec)

/-- ITS FALSE NEIGHBOUR: 'it returns false'. Refute it at one input. -/
def denoteWindowWrong : ChangeSpec := { name := "denoteWindow", fn := fun _ => fun
  | [d1, d2, d3] => { results := [.lit (.bool false)], args := [d1, d2, d3] }
  | _ => none }
def DenoteWindowWrongFalsely : Prop := denoteWindowRow.holds Tryz.pinned (OpenSpec.ofChange denoteWindowWrong)

/- THE SECOND FORM. 'bulk': how many values and letters a reading holds, each counted each time it is reached (what is shared counts as often as it is met; a slice's spare places count too). A statement '..UptoSaid' is the law's where the arguments, and the package variables that the reading takes, are together of bulk at most 1048576: NARROWER than '..Said'. Prove '..Said' where nothing that the law and all that it calls make is longer than what came in: it says more and counts as full. Else prove '..UptoSaid'. A law counts once. -/
mutual
def uptoBulk {H : Type} : DataW H → Nat
  | .lit (.string bytes) => bytes.length + 1
  | .lit _ => 1
  | .nil => 1
  | .ptr d => uptoBulk d + 1
  | .slice elems spare => uptoBulkAll elems + uptoBulkAll spare + 1
  | .agg parts => uptoBulkAll parts + 1
  | .iface _ d => uptoBulk d + 1
  | .map entries => uptoBulkEntries entries + 1
  | .held _ => 1
def uptoBulkAll {H : Type} : List (DataW H) → Nat
  | [] => 0
  | d :: r => uptoBulk d + uptoBulkAll r
def uptoBulkEntries {H : Type} : List (Lit × DataW H) → Nat
  | [] => 0
  | x :: r => uptoBulkEntry x + uptoBulkEntries r
def uptoBulkEntry {H : Type} : Lit × DataW H → Nat
  | (.string bytes, d) => bytes.length + uptoBulk d + 1
  | (_, d) => uptoBulk d + 1
 end
def uptoSmall : (H : Type) → List (DataW H) → Bool := fun _ ds => decide (uptoBulkAll ds ≤ 1048576)
def OpenSpec.upto (s : _root_.Go.ChangeSpec) : _root_.Go.OpenSpec := { _root_.Go.OpenSpec.ofChange s with cond := some uptoSmall }

/-- 'pasternlaw14.DenoteTells', WHERE WHAT IT READS IS OF BULK AT MOST 1048576: true; the input reads as it did. -/
def denoteTellsUptoRow : OpenClaim := { program := "ytojnicnbmgiplaagreat", sum := "825a8e8b8743faf2bb8b89e15923f411275859d33bab58f25450e3b9cd5b3981", func := "pastern/pasternlaw14.DenoteTells", spec := "denoteTells", unfollowed := true, recurses := true, loops := true, apart := false, narrowed := true }
def DenoteTellsUptoSaid : Prop := denoteTellsUptoRow.holds Tryz.pinned (OpenSpec.upto denoteTellsSpec)

/-- 'pasternlaw14.DenoteBegins', WHERE WHAT IT READS IS OF BULK AT MOST 1048576: true; the input reads as it did. -/
def denoteBeginsUptoRow : OpenClaim := { program := "ytojnicnbmgiplaagreat", sum := "825a8e8b8743faf2bb8b89e15923f411275859d33bab58f25450e3b9cd5b3981", func := "pastern/pasternlaw14.DenoteBegins", spec := "denoteBegins", unfollowed := true, recurses := true, loops := true, apart := false, narrowed := true }
def DenoteBeginsUptoSaid : Prop := denoteBeginsUptoRow.holds Tryz.pinned (OpenSpec.upto denoteBeginsSpec)

/-- 'pasternlaw14.DenoteAny', WHERE WHAT IT READS IS OF BULK AT MOST 1048576: true; the input reads as it did. -/
def denoteAnyUptoRow : OpenClaim := { program := "ytojnicnbmgiplaagreat", sum := "825a8e8b8743faf2bb8b89e15923f411275859d33bab58f25450e3b9cd5b3981", func := "pastern/pasternlaw14.DenoteAny", spec := "denoteAny", unfollowed := true, recurses := true, loops := true, apart := false, narrowed := true }
def DenoteAnyUptoSaid : Prop := denoteAnyUptoRow.holds Tryz.pinned (OpenSpec.upto denoteAnySpec)

/-- 'pasternlaw14.DenoteShifts', WHERE WHAT IT READS IS OF BULK AT MOST 1048576: true; the input reads as it did. -/
def denoteShiftsUptoRow : OpenClaim := { program := "ytojnicnbmgiplaagreat", sum := "825a8e8b8743faf2bb8b89e15923f411275859d33bab58f25450e3b9cd5b3981", func := "pastern/pasternlaw14.DenoteShifts", spec := "denoteShifts", unfollowed := true, recurses := true, loops := true, apart := false, narrowed := true }
def DenoteShiftsUptoSaid : Prop := denoteShiftsUptoRow.holds Tryz.pinned (OpenSpec.upto denoteShiftsSpec)

/-- 'pasternlaw14.DenoteBy', WHERE WHAT IT READS IS OF BULK AT MOST 1048576: true; the input reads as it did. -/
def denoteByUptoRow : OpenClaim := { program := "ytojnicnbmgiplaagreat", sum := "825a8e8b8743faf2bb8b89e15923f411275859d33bab58f25450e3b9cd5b3981", func := "pastern/pasternlaw14.DenoteBy", spec := "denoteBy", unfollowed := true, recurses := true, loops := true, apart := false, narrowed := true }
def DenoteByUptoSaid : Prop := denoteByUptoRow.holds Tryz.pinned (OpenSpec.upto denoteBySpec)

/-- 'pasternlaw14.DenoteWindow', WHERE WHAT IT READS IS OF BULK AT MOST 1048576: true; the input reads as it did. -/
def denoteWindowUptoRow : OpenClaim := { program := "ytojnicnbmgiplaagreat", sum := "825a8e8b8743faf2bb8b89e15923f411275859d33bab58f25450e3b9cd5b3981", func := "pastern/pasternlaw14.DenoteWindow", spec := "denoteWindow", unfollowed := true, recurses := true, loops := true, apart := false, narrowed := true }
def DenoteWindowUptoSaid : Prop := denoteWindowUptoRow.holds Tryz.pinned (OpenSpec.upto denoteWindowSpec)

end Rows
end Go.Proofs.YtojnicnbmgiplaaGreat
