/-
  NARROWER THAN 'FOR EVERY INPUT', by the rows' own cells (each row's printed sentence says how): EventTells: laid · EvolveTells: laid · ChainNews: laid · ChainParts: laid.
  DERIVED. THE GIVEN ROWS OF THIS SEAT. 4 by the template 'for every input the law returns true; each argument reads behind the call as it read before'; 0 by the template 'total and deterministic' (their statements: YtchpllgeahnmmaaDoorTotals.lean).
  GIVEN WITH THE SEED: the statements are not yours to turn. If you find one false, say at which input.
  Laid BY PROGRAM, IN A SANDBOX (cutbox-rows.mjs): the forced cells as the released guide's own fill.sh prints them over the translation a269893fe9cca425… (all of the seat's roots in one cut). By AI agents, Wed Nov 11 2026. No macro, syntax, notation, axiom, sorry.
-/
import Derived.Test.YtchpllgeahnmmaaDoorChecked
import GoSem.Claim
import GoSem.ClaimJoined
import GoSem.ClaimMapViews
import Derived.JoinedTies
import Derived.KernelRfl
namespace Go.Proofs.YtchpllgeahnmmaaDoor
/- THE CELL 'sum', in the pinned program and in every row, IS THE sha256 OF THE DUMP (.gsa) THAT YtchpllgeahnmmaaDoorProg.lean LOADS. Nothing in Lean hashes anything: it is a label: what it is worth is what the hold of that sum in a sandbox is worth. -/
noncomputable def Tryd.pinned : Pinned := { name := "ytchpllgeahnmmaadoor", sum := "a269893fe9cca4250add88f1e88cb4353cd244a23f6ba22ef37f0add56c1b9aa", checked := Tryd.checked }
namespace Rows
def none {H : Type} : Left H := { results := [], args := [] }

/- WHAT THE LISTED PACKAGE-LEVEL VARIABLES READ AS WHEN THE CALL BEGINS. Each datum BY PROGRAM (the guide's laid-datum.mjs) off the statement by which the dump's own 'gosem.cut.vars' lays the variable. In a bare row this is a premise. The card (YtchpllgeahnmmaaDoorCards.lean) ties it to the program's text. -/
def laid_errors_errorType {H : Type} : DataW H := .iface "internal/reflectlite.rtype" (.agg [.ptr (.lit (.string [101, 114, 114, 111, 114]))])

/-- 'pasternlaw3.EventTells': WHATEVER THE INPUT: true; the input reads as it did. -/
def eventTellsSpec : ChangeSpec := { name := "eventTells", fn := fun _ => fun
  | [d1, d2, d3, d4] => { results := [.lit (.bool true)], args := [d1, d2, d3, d4] }
  | _ => none }
def eventTellsRow : OpenClaim := { program := "ytchpllgeahnmmaadoor", sum := "a269893fe9cca4250add88f1e88cb4353cd244a23f6ba22ef37f0add56c1b9aa", func := "pastern/pasternlaw3.EventTells", spec := "eventTells", inPlace := ["internal/reflectlite.TypeOf", "internal/reflectlite.ValueOf", "(internal/reflectlite.Value).Type", "(internal/reflectlite.Value).IsNil", "(internal/reflectlite.Value).Elem", "(internal/reflectlite.Value).Set"], unfollowed := true, recurses := true, named := ["errors.errorType"], apart := false, laid := [("errors.errorType", laid_errors_errorType)] }
def EventTellsSaid : Prop := eventTellsRow.holds Tryd.pinned (OpenSpec.ofChange eventTellsSpec)

/-- ITS FALSE NEIGHBOUR: 'it returns false'. Refute it at one input. -/
def eventTellsWrong : ChangeSpec := { name := "eventTells", fn := fun _ => fun
  | [d1, d2, d3, d4] => { results := [.lit (.bool false)], args := [d1, d2, d3, d4] }
  | _ => none }
def EventTellsWrongFalsely : Prop := eventTellsRow.holds Tryd.pinned (OpenSpec.ofChange eventTellsWrong)

/-- 'pasternlaw4.EvolveTells': WHATEVER THE INPUT: true; the input reads as it did. -/
def evolveTellsSpec : ChangeSpec := { name := "evolveTells", fn := fun _ => fun
  | [d1, d2, d3, d4] => { results := [.lit (.bool true)], args := [d1, d2, d3, d4] }
  | _ => none }
def evolveTellsRow : OpenClaim := { program := "ytchpllgeahnmmaadoor", sum := "a269893fe9cca4250add88f1e88cb4353cd244a23f6ba22ef37f0add56c1b9aa", func := "pastern/pasternlaw4.EvolveTells", spec := "evolveTells", inPlace := ["slices.overlaps[pastern/api.Type]", "internal/reflectlite.TypeOf", "internal/reflectlite.ValueOf", "(internal/reflectlite.Value).Type", "(internal/reflectlite.Value).IsNil", "(internal/reflectlite.Value).Elem", "(internal/reflectlite.Value).Set"], unfollowed := true, recurses := true, named := ["errors.errorType"], apart := false, laid := [("errors.errorType", laid_errors_errorType)] }
def EvolveTellsSaid : Prop := evolveTellsRow.holds Tryd.pinned (OpenSpec.ofChange evolveTellsSpec)

/-- ITS FALSE NEIGHBOUR: 'it returns false'. Refute it at one input. -/
def evolveTellsWrong : ChangeSpec := { name := "evolveTells", fn := fun _ => fun
  | [d1, d2, d3, d4] => { results := [.lit (.bool false)], args := [d1, d2, d3, d4] }
  | _ => none }
def EvolveTellsWrongFalsely : Prop := evolveTellsRow.holds Tryd.pinned (OpenSpec.ofChange evolveTellsWrong)

/-- 'pasternlaw5.ChainNews': WHATEVER THE INPUT: true; the input reads as it did. -/
def chainNewsSpec : ChangeSpec := { name := "chainNews", fn := fun _ => fun
  | [d1, d2] => { results := [.lit (.bool true)], args := [d1, d2] }
  | _ => none }
def chainNewsRow : OpenClaim := { program := "ytchpllgeahnmmaadoor", sum := "a269893fe9cca4250add88f1e88cb4353cd244a23f6ba22ef37f0add56c1b9aa", func := "pastern/pasternlaw5.ChainNews", spec := "chainNews", inPlace := ["slices.overlaps[pastern/api.Type]", "internal/reflectlite.TypeOf", "internal/reflectlite.ValueOf", "(internal/reflectlite.Value).Type", "(internal/reflectlite.Value).IsNil", "(internal/reflectlite.Value).Elem", "(internal/reflectlite.Value).Set"], unfollowed := true, recurses := true, named := ["errors.errorType"], apart := false, laid := [("errors.errorType", laid_errors_errorType)] }
def ChainNewsSaid : Prop := chainNewsRow.holds Tryd.pinned (OpenSpec.ofChange chainNewsSpec)

/-- ITS FALSE NEIGHBOUR: 'it returns false'. Refute it at one input. -/
def chainNewsWrong : ChangeSpec := { name := "chainNews", fn := fun _ => fun
  | [d1, d2] => { results := [.lit (.bool false)], args := [d1, d2] }
  | _ => none }
def ChainNewsWrongFalsely : Prop := chainNewsRow.holds Tryd.pinned (OpenSpec.ofChange chainNewsWrong)

/-- 'pasternlaw5.ChainParts': WHATEVER THE INPUT: true; the input reads as it did. -/
def chainPartsSpec : ChangeSpec := { name := "chainParts", fn := fun _ => fun
  | [d1, d2, d3, d4] => { results := [.lit (.bool true)], args := [d1, d2, d3, d4] }
  | _ => none }
def chainPartsRow : OpenClaim := { program := "ytchpllgeahnmmaadoor", sum := "a269893fe9cca4250add88f1e88cb4353cd244a23f6ba22ef37f0add56c1b9aa", func := "pastern/pasternlaw5.ChainParts", spec := "chainParts", inPlace := ["slices.overlaps[pastern/api.Type]", "internal/reflectlite.TypeOf", "internal/reflectlite.ValueOf", "(internal/reflectlite.Value).Type", "(internal/reflectlite.Value).IsNil", "(internal/reflectlite.Value).Elem", "(internal/reflectlite.Value).Set"], unfollowed := true, recurses := true, named := ["errors.errorType"], apart := false, laid := [("errors.errorType", laid_errors_errorType)] }
def ChainPartsSaid : Prop := chainPartsRow.holds Tryd.pinned (OpenSpec.ofChange chainPartsSpec)

/-- ITS FALSE NEIGHBOUR: 'it returns false'. Refute it at one input. -/
def chainPartsWrong : ChangeSpec := { name := "chainParts", fn := fun _ => fun
  | [d1, d2, d3, d4] => { results := [.lit (.bool false)], args := [d1, d2, d3, d4] }
  | _ => none }
def ChainPartsWrongFalsely : Prop := chainPartsRow.holds Tryd.pinned (OpenSpec.ofChange chainPartsWrong)

/- THE SECOND FORM. 'bulk': how many values and letters a reading holds, each counted each time it is reached (what is shared counts as often as it is met; a slice's spare places count too). A statement '..UptoSaid' is the law's where the arguments, and the package variables that the reading takes, are together of bulk at most 1048576: NARROWER than '..Said'. Prove '..Said' where nothing that the law and all that it calls make is longer than what came in: it says more and counts as full. Else prove '..UptoSaid'. A law counts once. -/
mutual
def uptoBulk {H : Type} : DataW H → Nat
  | .lit (.string bytes) => bytes.length + 1
  | .lit _ => 1
  | .nil => 1
  | .ptr d => uptoBulk d + 1
  | .slice elems spare => uptoBulkAll elems + uptoBulkAll spare + 1
  | .agg parts => uptoBulkAll parts + 1
  | .iface _ d => uptoBulk d + 1
  | .map entries => uptoBulkEntries entries + 1
  | .held _ => 1
def uptoBulkAll {H : Type} : List (DataW H) → Nat
  | [] => 0
  | d :: r => uptoBulk d + uptoBulkAll r
def uptoBulkEntries {H : Type} : List (Lit × DataW H) → Nat
  | [] => 0
  | x :: r => uptoBulkEntry x + uptoBulkEntries r
def uptoBulkEntry {H : Type} : Lit × DataW H → Nat
  | (.string bytes, d) => bytes.length + uptoBulk d + 1
  | (_, d) => uptoBulk d + 1
 end
def uptoSmall : (H : Type) → List (DataW H) → Bool := fun _ ds => decide (uptoBulkAll ds ≤ 1048576)
def OpenSpec.upto (s : _root_.Go.ChangeSpec) : _root_.Go.OpenSpec := { _root_.Go.OpenSpec.ofChange s with cond := some uptoSmall }

/-- 'pasternlaw3.EventTells', WHERE WHAT IT READS IS OF BULK AT MOST 1048576: true; the input reads as it did. -/
def eventTellsUptoRow : OpenClaim := { program := "ytchpllgeahnmmaadoor", sum := "a269893fe9cca4250add88f1e88cb4353cd244a23f6ba22ef37f0add56c1b9aa", func := "pastern/pasternlaw3.EventTells", spec := "eventTells", inPlace := ["internal/reflectlite.TypeOf", "internal/reflectlite.ValueOf", "(internal/reflectlite.Value).Type", "(internal/reflectlite.Value).IsNil", "(internal/reflectlite.Value).Elem", "(internal/reflectlite.Value).Set"], unfollowed := true, recurses := true, named := ["errors.errorType"], apart := false, laid := [("errors.errorType", laid_errors_errorType)], narrowed := true }
def EventTellsUptoSaid : Prop := eventTellsUptoRow.holds Tryd.pinned (OpenSpec.upto eventTellsSpec)

/-- 'pasternlaw4.EvolveTells', WHERE WHAT IT READS IS OF BULK AT MOST 1048576: true; the input reads as it did. -/
def evolveTellsUptoRow : OpenClaim := { program := "ytchpllgeahnmmaadoor", sum := "a269893fe9cca4250add88f1e88cb4353cd244a23f6ba22ef37f0add56c1b9aa", func := "pastern/pasternlaw4.EvolveTells", spec := "evolveTells", inPlace := ["slices.overlaps[pastern/api.Type]", "internal/reflectlite.TypeOf", "internal/reflectlite.ValueOf", "(internal/reflectlite.Value).Type", "(internal/reflectlite.Value).IsNil", "(internal/reflectlite.Value).Elem", "(internal/reflectlite.Value).Set"], unfollowed := true, recurses := true, named := ["errors.errorType"], apart := false, laid := [("errors.errorType", laid_errors_errorType)], narrowed := true }
def EvolveTellsUptoSaid : Prop := evolveTellsUptoRow.holds Tryd.pinned (OpenSpec.upto evolveTellsSpec)

/-- 'pasternlaw5.ChainNews', WHERE WHAT IT READS IS OF BULK AT MOST 1048576: true; the input reads as it did. -/
def chainNewsUptoRow : OpenClaim := { program := "ytchpllgeahnmmaadoor", sum := "a269893fe9cca4250add88f1e88cb4353cd244a23f6ba22ef37f0add56c1b9aa", func := "pastern/pasternlaw5.ChainNews", spec := "chainNews", inPlace := ["slices.overlaps[pastern/api.Type]", "internal/reflectlite.TypeOf", "internal/reflectlite.ValueOf", "(internal/reflectlite.Value).Type", "(internal/reflectlite.Value).IsNil", "(internal/reflectlite.Value).Elem", "(internal/reflectlite.Value).Set"], unfollowed := true, recurses := true, named := ["errors.errorType"], apart := false, laid := [("errors.errorType", laid_errors_errorType)], narrowed := true }
def ChainNewsUptoSaid : Prop := chainNewsUptoRow.holds Tryd.pinned (OpenSpec.upto chainNewsSpec)

/-- 'pasternlaw5.ChainParts', WHERE WHAT IT READS IS OF BULK AT MOST 1048576: true; the input reads as it did. -/
def chainPartsUptoRow : OpenClaim := { program := "ytchpllgeahnmmaadoor", sum := "a269893fe9cca4250add88f1e88cb4353cd244a23f6ba22ef37f0add56c1b9aa", func := "pastern/pasternlaw5.ChainParts", spec := "chainParts", inPlace := ["slices.overlaps[pastern/api.Type]", "internal/reflectlite.TypeOf", "internal/reflectlite.ValueOf", "(internal/reflectlite.Value).Type", "(internal/reflectlite.Value).IsNil", "(internal/reflectlite.Value).Elem", "(internal/reflectlite.Value).Set"], unfollowed := true, recurses := true, named := ["errors.errorType"], apart := false, laid := [("errors.errorType", laid_errors_errorType)], narrowed := true }
def ChainPartsUptoSaid : Prop := chainPartsUptoRow.holds Tryd.pinned (OpenSpec.upto chainPartsSpec)

end Rows
end Go.Proofs.YtchpllgeahnmmaaDoor
