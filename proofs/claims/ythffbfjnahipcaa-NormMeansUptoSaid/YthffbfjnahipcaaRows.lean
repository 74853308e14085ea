/-
  NARROWER THAN 'FOR EVERY INPUT', by the rows' own cells (each row's printed sentence says how): NormTells: loops · NormMeans: loops · NormOnce: loops · NormAliases: loops.
  DERIVED. THE GIVEN ROWS OF THIS SEAT. 8 by the template 'for every input the law returns true; each argument reads behind the call as it read before'; 0 by the template 'total and deterministic' (their statements: YthffbfjnahipcaaTotals.lean).
  GIVEN WITH THE SEED: the statements are not yours to turn. If you find one false, say at which input.
  Laid BY PROGRAM, IN A SANDBOX (cutbox-rows.mjs): the forced cells as the released guide's own fill.sh prints them over the translation 4c83785ccb79e3ea… (all of the seat's roots in one cut). By AI agents, Wed Nov 11 2026. No macro, syntax, notation, axiom, sorry.
-/
import Derived.Test.YthffbfjnahipcaaChecked
import GoSem.Claim
import GoSem.ClaimJoined
import GoSem.ClaimMapViews
import Derived.JoinedTies
import Derived.KernelRfl
namespace Go.Proofs.Ythffbfjnahipcaa
/- THE CELL 'sum', in the pinned program and in every row, IS THE sha256 OF THE DUMP (.gsa) THAT YthffbfjnahipcaaProg.lean LOADS. Nothing in Lean hashes anything: it is a label: what it is worth is what the hold of that sum in a sandbox is worth. -/
noncomputable def Try.pinned : Pinned := { name := "ythffbfjnahipcaa", sum := "4c83785ccb79e3ead608ff6be88e8a29bf22ae18eff39dcc28ca9a7365afe87d", checked := Try.checked }
namespace Rows
def none {H : Type} : Left H := { results := [], args := [] }

/-- 'pasternlaw6.ExprDeep': WHATEVER THE INPUT: true; the input reads as it did. -/
def exprDeepSpec : ChangeSpec := { name := "exprDeep", fn := fun _ => fun
  | [d1, d2] => { results := [.lit (.bool true)], args := [d1, d2] }
  | _ => none }
def exprDeepRow : OpenClaim := { program := "ythffbfjnahipcaa", sum := "4c83785ccb79e3ead608ff6be88e8a29bf22ae18eff39dcc28ca9a7365afe87d", func := "pastern/pasternlaw6.ExprDeep", spec := "exprDeep", unfollowed := true, recurses := true, apart := false }
def ExprDeepSaid : Prop := exprDeepRow.holds Try.pinned (OpenSpec.ofChange exprDeepSpec)

/-- ITS FALSE NEIGHBOUR: 'it returns false'. Refute it at one input. -/
def exprDeepWrong : ChangeSpec := { name := "exprDeep", fn := fun _ => fun
  | [d1, d2] => { results := [.lit (.bool false)], args := [d1, d2] }
  | _ => none }
def ExprDeepWrongFalsely : Prop := exprDeepRow.holds Try.pinned (OpenSpec.ofChange exprDeepWrong)

/-- 'pasternlaw6.PatternRules': WHATEVER THE INPUT: true; the input reads as it did. -/
def patternRulesSpec : ChangeSpec := { name := "patternRules", fn := fun _ => fun
  | [d1, d2] => { results := [.lit (.bool true)], args := [d1, d2] }
  | _ => none }
def patternRulesRow : OpenClaim := { program := "ythffbfjnahipcaa", sum := "4c83785ccb79e3ead608ff6be88e8a29bf22ae18eff39dcc28ca9a7365afe87d", func := "pastern/pasternlaw6.PatternRules", spec := "patternRules", unfollowed := true, recurses := true, apart := false }
def PatternRulesSaid : Prop := patternRulesRow.holds Try.pinned (OpenSpec.ofChange patternRulesSpec)

/-- ITS FALSE NEIGHBOUR: 'it returns false'. Refute it at one input. -/
def patternRulesWrong : ChangeSpec := { name := "patternRules", fn := fun _ => fun
  | [d1, d2] => { results := [.lit (.bool false)], args := [d1, d2] }
  | _ => none }
def PatternRulesWrongFalsely : Prop := patternRulesRow.holds Try.pinned (OpenSpec.ofChange patternRulesWrong)

/-- 'pasternlaw6.ExprShapes': WHATEVER THE INPUT: true; the input reads as it did. -/
def exprShapesSpec : ChangeSpec := { name := "exprShapes", fn := fun _ => fun
  | [d1, d2, d3, d4] => { results := [.lit (.bool true)], args := [d1, d2, d3, d4] }
  | _ => none }
def exprShapesRow : OpenClaim := { program := "ythffbfjnahipcaa", sum := "4c83785ccb79e3ead608ff6be88e8a29bf22ae18eff39dcc28ca9a7365afe87d", func := "pastern/pasternlaw6.ExprShapes", spec := "exprShapes", unfollowed := true, recurses := true, apart := false }
def ExprShapesSaid : Prop := exprShapesRow.holds Try.pinned (OpenSpec.ofChange exprShapesSpec)

/-- ITS FALSE NEIGHBOUR: 'it returns false'. Refute it at one input. -/
def exprShapesWrong : ChangeSpec := { name := "exprShapes", fn := fun _ => fun
  | [d1, d2, d3, d4] => { results := [.lit (.bool false)], args := [d1, d2, d3, d4] }
  | _ => none }
def ExprShapesWrongFalsely : Prop := exprShapesRow.holds Try.pinned (OpenSpec.ofChange exprShapesWrong)

/-- 'pasternlaw6.PatternLimits': WHATEVER THE INPUT: true; the input reads as it did. -/
def patternLimitsSpec : ChangeSpec := { name := "patternLimits", fn := fun _ => fun
  | [d1, d2, d3] => { results := [.lit (.bool true)], args := [d1, d2, d3] }
  | _ => none }
def patternLimitsRow : OpenClaim := { program := "ythffbfjnahipcaa", sum := "4c83785ccb79e3ead608ff6be88e8a29bf22ae18eff39dcc28ca9a7365afe87d", func := "pastern/pasternlaw6.PatternLimits", spec := "patternLimits", unfollowed := true, recurses := true, apart := false }
def PatternLimitsSaid : Prop := patternLimitsRow.holds Try.pinned (OpenSpec.ofChange patternLimitsSpec)

/-- ITS FALSE NEIGHBOUR: 'it returns false'. Refute it at one input. -/
def patternLimitsWrong : ChangeSpec := { name := "patternLimits", fn := fun _ => fun
  | [d1, d2, d3] => { results := [.lit (.bool false)], args := [d1, d2, d3] }
  | _ => none }
def PatternLimitsWrongFalsely : Prop := patternLimitsRow.holds Try.pinned (OpenSpec.ofChange patternLimitsWrong)

/-- 'pasternlaw12.NormTells': WHATEVER THE INPUT: true; the input reads as it did. -/
def normTellsSpec : ChangeSpec := { name := "normTells", fn := fun _ => fun
  | [d1, d2, d3] => { results := [.lit (.bool true)], args := [d1, d2, d3] }
  | _ => none }
def normTellsRow : OpenClaim := { program := "ythffbfjnahipcaa", sum := "4c83785ccb79e3ead608ff6be88e8a29bf22ae18eff39dcc28ca9a7365afe87d", func := "pastern/pasternlaw12.NormTells", spec := "normTells", unfollowed := true, recurses := true, loops := true, apart := false }
def NormTellsSaid : Prop := normTellsRow.holds Try.pinned (OpenSpec.ofChange normTellsSpec)

/-- ITS FALSE NEIGHBOUR: 'it returns false'. Refute it at one input. -/
def normTellsWrong : ChangeSpec := { name := "normTells", fn := fun _ => fun
  | [d1, d2, d3] => { results := [.lit (.bool false)], args := [d1, d2, d3] }
  | _ => none }
def NormTellsWrongFalsely : Prop := normTellsRow.holds Try.pinned (OpenSpec.ofChange normTellsWrong)

/-- 'pasternlaw12.NormMeans': WHATEVER THE INPUT: true; the input reads as it did. -/
def normMeansSpec : ChangeSpec := { name := "normMeans", fn := fun _ => fun
  | [d1, d2, d3, d4] => { results := [.lit (.bool true)], args := [d1, d2, d3, d4] }
  | _ => none }
def normMeansRow : OpenClaim := { program := "ythffbfjnahipcaa", sum := "4c83785ccb79e3ead608ff6be88e8a29bf22ae18eff39dcc28ca9a7365afe87d", func := "pastern/pasternlaw12.NormMeans", spec := "normMeans", unfollowed := true, recurses := true, loops := true, apart := false }
def NormMeansSaid : Prop := normMeansRow.holds Try.pinned (OpenSpec.ofChange normMeansSpec)

/-- ITS FALSE NEIGHBOUR: 'it returns false'. Refute it at one input. -/
def normMeansWrong : ChangeSpec := { name := "normMeans", fn := fun _ => fun
  | [d1, d2, d3, d4] => { results := [.lit (.bool false)], args := [d1, d2, d3, d4] }
  | _ => none }
def NormMeansWrongFalsely : Prop := normMeansRow.holds Try.pinned (OpenSpec.ofChange normMeansWrong)

/-- 'pasternlaw12.NormOnce': WHATEVER THE INPUT: true; the input reads as it did. -/
def normOnceSpec : ChangeSpec := { name := "normOnce", fn := fun _ => fun
  | [d1, d2] => { results := [.lit (.bool true)], args := [d1, d2] }
  | _ => none }
def normOnceRow : OpenClaim := { program := "ythffbfjnahipcaa", sum := "4c83785ccb79e3ead608ff6be88e8a29bf22ae18eff39dcc28ca9a7365afe87d", func := "pastern/pasternlaw12.NormOnce", spec := "normOnce", unfollowed := true, recurses := true, loops := true, apart := false }
def NormOnceSaid : Prop := normOnceRow.holds Try.pinned (OpenSpec.ofChange normOnceSpec)

/-- ITS FALSE NEIGHBOUR: 'it returns false'. Refute it at one input. -/
def normOnceWrong : ChangeSpec := { name := "normOnce", fn := fun _ => fun
  | [d1, d2] => { results := [.lit (.bool false)], args := [d1, d2] }
  | _ => none }
def NormOnceWrongFalsely : Prop := normOnceRow.holds Try.pinned (OpenSpec.ofChange normOnceWrong)

/-- 'pasternlaw12.NormAliases': WHATEVER THE INPUT: true; the input reads as it did. -/
def normAliasesSpec : ChangeSpec := { name := "normAliases", fn := fun _ => fun
  | [d1, d2, d3] => { results := [.lit (.bool true)], args := [d1, d2, d3] }
  | _ => none }
def normAliasesRow : OpenClaim := { program := "ythffbfjnahipcaa", sum := "4c83785ccb79e3ead608ff6be88e8a29bf22ae18eff39dcc28ca9a7365afe87d", func := "pastern/pasternlaw12.NormAliases", spec := "normAliases", unfollowed := true, recurses := true, loops := true, apart := false }
def NormAliasesSaid : Prop := normAliasesRow.holds Try.pinned (OpenSpec.ofChange normAliasesSpec)

/-- ITS FALSE NEIGHBOUR: 'it returns false'. Refute it at one input. -/
def normAliasesWrong : ChangeSpec := { name := "normAliases", fn := fun _ => fun
  | [d1, d2, d3] => { results := [.lit (.bool false)], args := [d1, d2, d3] }
  | _ => none }
def NormAliasesWrongFalsely : Prop := normAliasesRow.holds Try.pinned (OpenSpec.ofChange normAliasesWrong)

/- THE SECOND FORM. 'bulk': how many values and letters a reading holds, each counted each time it is reached (what is shared counts as often as it is met; a slice's spare places count too). A statement '..UptoSaid' is the law's where the arguments, and the package variables that the reading takes, are together of bulk at most 1048576: NARROWER than '..Said'. Prove '..Said' where nothing that the law and all that it calls make is longer than what came in: it says more and counts as full. Else prove '..UptoSaid'. A law counts once. -/
mutual
def uptoBulk {H : Type} : DataW H → Nat
  | .lit (.string bytes) => bytes.length + 1
  | .lit _ => 1
  | .nil => 1
  | .ptr d => uptoBulk d + 1
  | .slice elems spare => uptoBulkAll elems + uptoBulkAll spare + 1
  | .agg parts => uptoBulkAll parts + 1
  | .iface _ d => uptoBulk d + 1
  | .map entries => uptoBulkEntries entries + 1
  | .held _ => 1
def uptoBulkAll {H : Type} : List (DataW H) → Nat
  | [] => 0
  | d :: r => uptoBulk d + uptoBulkAll r
def uptoBulkEntries {H : Type} : List (Lit × DataW H) → Nat
  | [] => 0
  | x :: r => uptoBulkEntry x + uptoBulkEntries r
def uptoBulkEntry {H : Type} : Lit × DataW H → Nat
  | (.string bytes, d) => bytes.length + uptoBulk d + 1
  | (_, d) => uptoBulk d + 1
 end
def uptoSmall : (H : Type) → List (DataW H) → Bool := fun _ ds => decide (uptoBulkAll ds ≤ 1048576)
def OpenSpec.upto (s : _root_.Go.ChangeSpec) : _root_.Go.OpenSpec := { _root_.Go.OpenSpec.ofChange s with cond := some uptoSmall }

/-- 'pasternlaw6.ExprDeep', WHERE WHAT IT READS IS OF BULK AT MOST 1048576: true; the input reads as it did. -/
def exprDeepUptoRow : OpenClaim := { program := "ythffbfjnahipcaa", sum := "4c83785ccb79e3ead608ff6be88e8a29bf22ae18eff39dcc28ca9a7365afe87d", func := "pastern/pasternlaw6.ExprDeep", spec := "exprDeep", unfollowed := true, recurses := true, apart := false, narrowed := true }
def ExprDeepUptoSaid : Prop := exprDeepUptoRow.holds Try.pinned (OpenSpec.upto exprDeepSpec)

/-- 'pasternlaw6.PatternRules', WHERE WHAT IT READS IS OF BULK AT MOST 1048576: true; the input reads as it did. -/
def patternRulesUptoRow : OpenClaim := { program := "ythffbfjnahipcaa", sum := "4c83785ccb79e3ead608ff6be88e8a29bf22ae18eff39dcc28ca9a7365afe87d", func := "pastern/pasternlaw6.PatternRules", spec := "patternRules", unfollowed := true, recurses := true, apart := false, narrowed := true }
def PatternRulesUptoSaid : Prop := patternRulesUptoRow.holds Try.pinned (OpenSpec.upto patternRulesSpec)

/-- 'pasternlaw6.ExprShapes', WHERE WHAT IT READS IS OF BULK AT MOST 1048576: true; the input reads as it did. -/
def exprShapesUptoRow : OpenClaim := { program := "ythffbfjnahipcaa", sum := "4c83785ccb79e3ead608ff6be88e8a29bf22ae18eff39dcc28ca9a7365afe87d", func := "pastern/pasternlaw6.ExprShapes", spec := "exprShapes", unfollowed := true, recurses := true, apart := false, narrowed := true }
def ExprShapesUptoSaid : Prop := exprShapesUptoRow.holds Try.pinned (OpenSpec.upto exprShapesSpec)

/-- 'pasternlaw6.PatternLimits', WHERE WHAT IT READS IS OF BULK AT MOST 1048576: true; the input reads as it did. -/
def patternLimitsUptoRow : OpenClaim := { program := "ythffbfjnahipcaa", sum := "4c83785ccb79e3ead608ff6be88e8a29bf22ae18eff39dcc28ca9a7365afe87d", func := "pastern/pasternlaw6.PatternLimits", spec := "patternLimits", unfollowed := true, recurses := true, apart := false, narrowed := true }
def PatternLimitsUptoSaid : Prop := patternLimitsUptoRow.holds Try.pinned (OpenSpec.upto patternLimitsSpec)

/-- 'pasternlaw12.NormTells', WHERE WHAT IT READS IS OF BULK AT MOST 1048576: true; the input reads as it did. -/
def normTellsUptoRow : OpenClaim := { program := "ythffbfjnahipcaa", sum := "4c83785ccb79e3ead608ff6be88e8a29bf22ae18eff39dcc28ca9a7365afe87d", func := "pastern/pasternlaw12.NormTells", spec := "normTells", unfollowed := true, recurses := true, loops := true, apart := false, narrowed := true }
def NormTellsUptoSaid : Prop := normTellsUptoRow.holds Try.pinned (OpenSpec.upto normTellsSpec)

/-- 'pasternlaw12.NormMeans', WHERE WHAT IT READS IS OF BULK AT MOST 1048576: true; the input reads as it did. -/
def normMeansUptoRow : OpenClaim := { program := "ythffbfjnahipcaa", sum := "4c83785ccb79e3ead608ff6be88e8a29bf22ae18eff39dcc28ca9a7365afe87d", func := "pastern/pasternlaw12.NormMeans", spec := "normMeans", unfollowed := true, recurses := true, loops := true, apart := false, narrowed := true }
def NormMeansUptoSaid : Prop := normMeansUptoRow.holds Try.pinned (OpenSpec.upto normMeansSpec)

/-- 'pasternlaw12.NormOnce', WHERE WHAT IT READS IS OF BULK AT MOST 1048576: true; the input reads as it did. -/
def normOnceUptoRow : OpenClaim := { program := "ythffbfjnahipcaa", sum := "4c83785ccb79e3ead608ff6be88e8a29bf22ae18eff39dcc28ca9a7365afe87d", func := "pastern/pasternlaw12.NormOnce", spec := "normOnce", unfollowed := true, recurses := true, loops := true, apart := false, narrowed := true }
def NormOnceUptoSaid : Prop := normOnceUptoRow.holds Try.pinned (OpenSpec.upto normOnceSpec)

/-- 'pasternlaw12.NormAliases', WHERE WHAT IT READS IS OF BULK AT MOST 1048576: true; the input reads as it did. -/
def normAliasesUptoRow : OpenClaim := { program := "ythffbfjnahipcaa", sum := "4c83785ccb79e3ead608ff6be88e8a29bf22ae18eff39dcc28ca9a7365afe87d", func := "pastern/pasternlaw12.NormAliases", spec := "normAliases", unfollowed := true, recurses := true, loops := true, apart := false, narrowed := true }
def NormAliasesUptoSaid : Prop := normAliasesUptoRow.holds Try.pinned (OpenSpec.upto normAliasesSpec)

end Rows
end Go.Proofs.Ythffbfjnahipcaa
