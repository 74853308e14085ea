/-
  NARROWER THAN 'FOR EVERY INPUT', by the rows' own cells (each row's printed sentence says how): EvalChecked: loops.
  DERIVED. THE GIVEN ROWS OF THIS SEAT. 8 by the template 'for every input the law returns true; each argument reads behind the call as it read before'; 0 by the template 'total and deterministic' (their statements: YtencfmpapdnnaaaTotals.lean).
  GIVEN WITH THE SEED: the statements are not yours to turn. If you find one false, say at which input.
  Laid BY PROGRAM, IN A SANDBOX (cutbox-rows.mjs): the forced cells as the released guide's own fill.sh prints them over the translation 34308bcc8f20bd3e… (all of the seat's roots in one cut). By AI agents, Wed Nov 11 2026. No macro, syntax, notation, axiom, sorry.
-/
import Derived.Test.YtencfmpapdnnaaaChecked
import GoSem.Claim
import GoSem.ClaimJoined
import GoSem.ClaimMapViews
import Derived.JoinedTies
import Derived.KernelRfl
namespace Go.Proofs.Ytencfmpapdnnaaa
/- THE CELL 'sum', in the pinned program and in every row, IS THE sha256 OF THE DUMP (.gsa) THAT YtencfmpapdnnaaaProg.lean LOADS. Nothing in Lean hashes anything: it is a label: what it is worth is what the hold of that sum in a sandbox is worth. -/
noncomputable def Try.pinned : Pinned := { name := "ytencfmpapdnnaaa", sum := "34308bcc8f20bd3ea5af1d6298371c967c62683734ae7a0a1113c50c9bde1f03", checked := Try.checked }
namespace Rows
def none {H : Type} : Left H := { results := [], args := [] }

/-- 'pasternlaw10.CheckOps': WHATEVER THE INPUT: true; the input reads as it did. -/
def checkOpsSpec : ChangeSpec := { name := "checkOps", fn := fun _ => fun
  | [d1, d2, d3] => { results := [.lit (.bool true)], args := [d1, d2, d3] }
  | _ => none }
def checkOpsRow : OpenClaim := { program := "ytencfmpapdnnaaa", sum := "34308bcc8f20bd3ea5af1d6298371c967c62683734ae7a0a1113c50c9bde1f03", func := "pastern/pasternlaw10.CheckOps", spec := "checkOps", inPlace := ["internal/reflectlite.TypeOf"], unfollowed := true, recurses := true, apart := false }
def CheckOpsSaid : Prop := checkOpsRow.holds Try.pinned (OpenSpec.ofChange checkOpsSpec)

/-- ITS FALSE NEIGHBOUR: 'it returns false'. Refute it at one input. -/
def checkOpsWrong : ChangeSpec := { name := "checkOps", fn := fun _ => fun
  | [d1, d2, d3] => { results := [.lit (.bool false)], args := [d1, d2, d3] }
  | _ => none }
def CheckOpsWrongFalsely : Prop := checkOpsRow.holds Try.pinned (OpenSpec.ofChange checkOpsWrong)

/-- 'pasternlaw10.CheckScope': WHATEVER THE INPUT: true; the input reads as it did. -/
def checkScopeSpec : ChangeSpec := { name := "checkScope", fn := fun _ => fun
  | [d1, d2, d3, d4] => { results := [.lit (.bool true)], args := [d1, d2, d3, d4] }
  | _ => none }
def checkScopeRow : OpenClaim := { program := "ytencfmpapdnnaaa", sum := "34308bcc8f20bd3ea5af1d6298371c967c62683734ae7a0a1113c50c9bde1f03", func := "pastern/pasternlaw10.CheckScope", spec := "checkScope", inPlace := ["internal/reflectlite.TypeOf"], unfollowed := true, recurses := true, apart := false }
def CheckScopeSaid : Prop := checkScopeRow.holds Try.pinned (OpenSpec.ofChange checkScopeSpec)

/-- ITS FALSE NEIGHBOUR: 'it returns false'. Refute it at one input. -/
def checkScopeWrong : ChangeSpec := { name := "checkScope", fn := fun _ => fun
  | [d1, d2, d3, d4] => { results := [.lit (.bool false)], args := [d1, d2, d3, d4] }
  | _ => none }
def CheckScopeWrongFalsely : Prop := checkScopeRow.holds Try.pinned (OpenSpec.ofChange checkScopeWrong)

/-- 'pasternlaw10.CheckBy': WHATEVER THE INPUT: true; the input reads as it did. -/
def checkBySpec : ChangeSpec := { name := "checkBy", fn := fun _ => fun
  | [d1, d2] => { results := [.lit (.bool true)], args := [d1, d2] }
  | _ => none }
def checkByRow : OpenClaim := { program := "ytencfmpapdnnaaa", sum := "34308bcc8f20bd3ea5af1d6298371c967c62683734ae7a0a1113c50c9bde1f03", func := "pastern/pasternlaw10.CheckBy", spec := "checkBy", inPlace := ["internal/reflectlite.TypeOf"], unfollowed := true, recurses := true, apart := false }
def CheckBySaid : Prop := checkByRow.holds Try.pinned (OpenSpec.ofChange checkBySpec)

/-- ITS FALSE NEIGHBOUR: 'it returns false'. Refute it at one input. -/
def checkByWrong : ChangeSpec := { name := "checkBy", fn := fun _ => fun
  | [d1, d2] => { results := [.lit (.bool false)], args := [d1, d2] }
  | _ => none }
def CheckByWrongFalsely : Prop := checkByRow.holds Try.pinned (OpenSpec.ofChange checkByWrong)

/-- 'pasternlaw11.EvalOver': WHATEVER THE INPUT: true; the input reads as it did. -/
def evalOverSpec : ChangeSpec := { name := "evalOver", fn := fun _ => fun
  | [d1, d2, d3] => { results := [.lit (.bool true)], args := [d1, d2, d3] }
  | _ => none }
def evalOverRow : OpenClaim := { program := "ytencfmpapdnnaaa", sum := "34308bcc8f20bd3ea5af1d6298371c967c62683734ae7a0a1113c50c9bde1f03", func := "pastern/pasternlaw11.EvalOver", spec := "evalOver", inPlace := ["internal/reflectlite.TypeOf"], unfollowed := true, recurses := true, apart := false }
def EvalOverSaid : Prop := evalOverRow.holds Try.pinned (OpenSpec.ofChange evalOverSpec)

/-- ITS FALSE NEIGHBOUR: 'it returns false'. Refute it at one input. -/
def evalOverWrong : ChangeSpec := { name := "evalOver", fn := fun _ => fun
  | [d1, d2, d3] => { results := [.lit (.bool false)], args := [d1, d2, d3] }
  | _ => none }
def EvalOverWrongFalsely : Prop := evalOverRow.holds Try.pinned (OpenSpec.ofChange evalOverWrong)

/-- 'pasternlaw11.EvalLogic': WHATEVER THE INPUT: true; the input reads as it did. -/
def evalLogicSpec : ChangeSpec := { name := "evalLogic", fn := fun _ => fun
  | [d1, d2, d3] => { results := [.lit (.bool true)], args := [d1, d2, d3] }
  | _ => none }
def evalLogicRow : OpenClaim := { program := "ytencfmpapdnnaaa", sum := "34308bcc8f20bd3ea5af1d6298371c967c62683734ae7a0a1113c50c9bde1f03", func := "pastern/pasternlaw11.EvalLogic", spec := "evalLogic", inPlace := ["internal/reflectlite.TypeOf"], unfollowed := true, recurses := true, apart := false }
def EvalLogicSaid : Prop := evalLogicRow.holds Try.pinned (OpenSpec.ofChange evalLogicSpec)

/-- ITS FALSE NEIGHBOUR: 'it returns false'. Refute it at one input. -/
def evalLogicWrong : ChangeSpec := { name := "evalLogic", fn := fun _ => fun
  | [d1, d2, d3] => { results := [.lit (.bool false)], args := [d1, d2, d3] }
  | _ => none }
def EvalLogicWrongFalsely : Prop := evalLogicRow.holds Try.pinned (OpenSpec.ofChange evalLogicWrong)

/-- 'pasternlaw11.EvalChecked': WHATEVER THE INPUT: true; the input reads as it did. -/
def evalCheckedSpec : ChangeSpec := { name := "evalChecked", fn := fun _ => fun
  | [d1, d2, d3, d4, d5] => { results := [.lit (.bool true)], args := [d1, d2, d3, d4, d5] }
  | _ => none }
def evalCheckedRow : OpenClaim := { program := "ytencfmpapdnnaaa", sum := "34308bcc8f20bd3ea5af1d6298371c967c62683734ae7a0a1113c50c9bde1f03", func := "pastern/pasternlaw11.EvalChecked", spec := "evalChecked", inPlace := ["internal/reflectlite.TypeOf"], unfollowed := true, recurses := true, loops := true, apart := false }
def EvalCheckedSaid : Prop := evalCheckedRow.holds Try.pinned (OpenSpec.ofChange evalCheckedSpec)

/-- ITS FALSE NEIGHBOUR: 'it returns false'. Refute it at one input. -/
def evalCheckedWrong : ChangeSpec := { name := "evalChecked", fn := fun _ => fun
  | [d1, d2, d3, d4, d5] => { results := [.lit (.bool false)], args := [d1, d2, d3, d4, d5] }
  | _ => none }
def EvalCheckedWrongFalsely : Prop := evalCheckedRow.holds Try.pinned (OpenSpec.ofChange evalCheckedWrong)

/-- 'pasternlaw11.EvalTexts': WHATEVER THE INPUT: true; the input reads as it did. -/
def evalTextsSpec : ChangeSpec := { name := "evalTexts", fn := fun _ => fun
  | [d1, d2, d3, d4, d5] => { results := [.lit (.bool true)], args := [d1, d2, d3, d4, d5] }
  | _ => none }
def evalTextsRow : OpenClaim := { program := "ytencfmpapdnnaaa", sum := "34308bcc8f20bd3ea5af1d6298371c967c62683734ae7a0a1113c50c9bde1f03", func := "pastern/pasternlaw11.EvalTexts", spec := "evalTexts", inPlace := ["internal/reflectlite.TypeOf"], unfollowed := true, recurses := true, apart := false }
def EvalTextsSaid : Prop := evalTextsRow.holds Try.pinned (OpenSpec.ofChange evalTextsSpec)

/-- ITS FALSE NEIGHBOUR: 'it returns false'. Refute it at one input. -/
def evalTextsWrong : ChangeSpec := { name := "evalTexts", fn := fun _ => fun
  | [d1, d2, d3, d4, d5] => { results := [.lit (.bool false)], args := [d1, d2, d3, d4, d5] }
  | _ => none }
def EvalTextsWrongFalsely : Prop := evalTextsRow.holds Try.pinned (OpenSpec.ofChange evalTextsWrong)

/-- 'pasternlaw11.EvalLast': WHATEVER THE INPUT: true; the input reads as it did. -/
def evalLastSpec : ChangeSpec := { name := "evalLast", fn := fun _ => fun
  | [d1, d2] => { results := [.lit (.bool true)], args := [d1, d2] }
  | _ => none }
def evalLastRow : OpenClaim := { program := "ytencfmpapdnnaaa", sum := "34308bcc8f20bd3ea5af1d6298371c967c62683734ae7a0a1113c50c9bde1f03", func := "pastern/pasternlaw11.EvalLast", spec := "evalLast", inPlace := ["internal/reflectlite.TypeOf"], unfollowed := true, recurses := true, apart := false }
def EvalLastSaid : Prop := evalLastRow.holds Try.pinned (OpenSpec.ofChange evalLastSpec)

/-- ITS FALSE NEIGHBOUR: 'it returns false'. Refute it at one input. -/
def evalLastWrong : ChangeSpec := { name := "evalLast", fn := fun _ => fun
  | [d1, d2] => { results := [.lit (.bool false)], args := [d1, d2] }
  | _ => none }
def EvalLastWrongFalsely : Prop := evalLastRow.holds Try.pinned (OpenSpec.ofChange evalLastWrong)

/- THE SECOND FORM. 'bulk': how many values and letters a reading holds, each counted each time it is reached (what is shared counts as often as it is met; a slice's spare places count too). A statement '..UptoSaid' is the law's where the arguments, and the package variables that the reading takes, are together of bulk at most 1048576: NARROWER than '..Said'. Prove '..Said' where nothing that the law and all that it calls make is longer than what came in: it says more and counts as full. Else prove '..UptoSaid'. A law counts once. -/
mutual
def uptoBulk {H : Type} : DataW H → Nat
  | .lit (.string bytes) => bytes.length + 1
  | .lit _ => 1
  | .nil => 1
  | .ptr d => uptoBulk d + 1
  | .slice elems spare => uptoBulkAll elems + uptoBulkAll spare + 1
  | .agg parts => uptoBulkAll parts + 1
  | .iface _ d => uptoBulk d + 1
  | .map entries => uptoBulkEntries entries + 1
  | .held _ => 1
def uptoBulkAll {H : Type} : List (DataW H) → Nat
  | [] => 0
  | d :: r => uptoBulk d + uptoBulkAll r
def uptoBulkEntries {H : Type} : List (Lit × DataW H) → Nat
  | [] => 0
  | x :: r => uptoBulkEntry x + uptoBulkEntries r
def uptoBulkEntry {H : Type} : Lit × DataW H → Nat
  | (.string bytes, d) => bytes.length + uptoBulk d + 1
  | (_, d) => uptoBulk d + 1
 end
def uptoSmall : (H : Type) → List (DataW H) → Bool := fun _ ds => decide (uptoBulkAll ds ≤ 1048576)
def OpenSpec.upto (s : _root_.Go.ChangeSpec) : _root_.Go.OpenSpec := { _root_.Go.OpenSpec.ofChange s with cond := some uptoSmall }

/-- 'pasternlaw10.CheckOps', WHERE WHAT IT READS IS OF BULK AT MOST 1048576: true; the input reads as it did. -/
def checkOpsUptoRow : OpenClaim := { program := "ytencfmpapdnnaaa", sum := "34308bcc8f20bd3ea5af1d6298371c967c62683734ae7a0a1113c50c9bde1f03", func := "pastern/pasternlaw10.CheckOps", spec := "checkOps", inPlace := ["internal/reflectlite.TypeOf"], unfollowed := true, recurses := true, apart := false, narrowed := true }
def CheckOpsUptoSaid : Prop := checkOpsUptoRow.holds Try.pinned (OpenSpec.upto checkOpsSpec)

/-- 'pasternlaw10.CheckScope', WHERE WHAT IT READS IS OF BULK AT MOST 1048576: true; the input reads as it did. -/
def checkScopeUptoRow : OpenClaim := { program := "ytencfmpapdnnaaa", sum := "34308bcc8f20bd3ea5af1d6298371c967c62683734ae7a0a1113c50c9bde1f03", func := "pastern/pasternlaw10.CheckScope", spec := "checkScope", inPlace := ["internal/reflectlite.TypeOf"], unfollowed := true, recurses := true, apart := false, narrowed := true }
def CheckScopeUptoSaid : Prop := checkScopeUptoRow.holds Try.pinned (OpenSpec.upto checkScopeSpec)

/-- 'pasternlaw10.CheckBy', WHERE WHAT IT READS IS OF BULK AT MOST 1048576: true; the input reads as it did. -/
def checkByUptoRow : OpenClaim := { program := "ytencfmpapdnnaaa", sum := "34308bcc8f20bd3ea5af1d6298371c967c62683734ae7a0a1113c50c9bde1f03", func := "pastern/pasternlaw10.CheckBy", spec := "checkBy", inPlace := ["internal/reflectlite.TypeOf"], unfollowed := true, recurses := true, apart := false, narrowed := true }
def CheckByUptoSaid : Prop := checkByUptoRow.holds Try.pinned (OpenSpec.upto checkBySpec)

/-- 'pasternlaw11.EvalOver', WHERE WHAT IT READS IS OF BULK AT MOST 1048576: true; the input reads as it did. -/
def evalOverUptoRow : OpenClaim := { program := "ytencfmpapdnnaaa", sum := "34308bcc8f20bd3ea5af1d6298371c967c62683734ae7a0a1113c50c9bde1f03", func := "pastern/pasternlaw11.EvalOver", spec := "evalOver", inPlace := ["internal/reflectlite.TypeOf"], unfollowed := true, recurses := true, apart := false, narrowed := true }
def EvalOverUptoSaid : Prop := evalOverUptoRow.holds Try.pinned (OpenSpec.upto evalOverSpec)

/-- 'pasternlaw11.EvalLogic', WHERE WHAT IT READS IS OF BULK AT MOST 1048576: true; the input reads as it did. -/
def evalLogicUptoRow : OpenClaim := { program := "ytencfmpapdnnaaa", sum := "34308bcc8f20bd3ea5af1d6298371c967c62683734ae7a0a1113c50c9bde1f03", func := "pastern/pasternlaw11.EvalLogic", spec := "evalLogic", inPlace := ["internal/reflectlite.TypeOf"], unfollowed := true, recurses := true, apart := false, narrowed := true }
def EvalLogicUptoSaid : Prop := evalLogicUptoRow.holds Try.pinned (OpenSpec.upto evalLogicSpec)

/-- 'pasternlaw11.EvalChecked', WHERE WHAT IT READS IS OF BULK AT MOST 1048576: true; the input reads as it did. -/
def evalCheckedUptoRow : OpenClaim := { program := "ytencfmpapdnnaaa", sum := "34308bcc8f20bd3ea5af1d6298371c967c62683734ae7a0a1113c50c9bde1f03", func := "pastern/pasternlaw11.EvalChecked", spec := "evalChecked", inPlace := ["internal/reflectlite.TypeOf"], unfollowed := true, recurses := true, loops := true, apart := false, narrowed := true }
def EvalCheckedUptoSaid : Prop := evalCheckedUptoRow.holds Try.pinned (OpenSpec.upto evalCheckedSpec)

/-- 'pasternlaw11.EvalTexts', WHERE WHAT IT READS IS OF BULK AT MOST 1048576: true; the input reads as it did. -/
def evalTextsUptoRow : OpenClaim := { program := "ytencfmpapdnnaaa", sum := "34308bcc8f20bd3ea5af1d6298371c967c62683734ae7a0a1113c50c9bde1f03", func := "pastern/pasternlaw11.EvalTexts", spec := "evalTexts", inPlace := ["internal/reflectlite.TypeOf"], unfollowed := true, recurses := true, apart := false, narrowed := true }
def EvalTextsUptoSaid : Prop := evalTextsUptoRow.holds Try.pinned (OpenSpec.upto evalTextsSpec)

/-- 'pasternlaw11.EvalLast', WHERE WHAT IT READS IS OF BULK AT MOST 1048576: true; the input reads as it did. -/
def evalLastUptoRow : OpenClaim := { program := "ytencfmpapdnnaaa", sum := "34308bcc8f20bd3ea5af1d6298371c967c62683734ae7a0a1113c50c9bde1f03", func := "pastern/pasternlaw11.EvalLast", spec := "evalLast", inPlace := ["internal/reflectlite.TypeOf"], unfollowed := true, recurses := true, apart := false, narrowed := true }
def EvalLastUptoSaid : Prop := evalLastUptoRow.holds Try.pinned (OpenSpec.upto evalLastSpec)

end Rows
end Go.Proofs.Ytencfmpapdnnaaa
