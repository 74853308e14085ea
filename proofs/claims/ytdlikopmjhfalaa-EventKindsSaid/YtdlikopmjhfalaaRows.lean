/-
  No cell of these rows narrows 'for every input' (looked for: loops, veiled, ifaces, maps, wideKeys, modest, calm, conditions, laid).
  DERIVED. THE GIVEN ROWS OF THIS SEAT. 9 by the template 'for every input the law returns true; each argument reads behind the call as it read before'; 0 by the template 'total and deterministic' (their statements: YtdlikopmjhfalaaTotals.lean).
  GIVEN WITH THE SEED: the statements are not yours to turn. If you find one false, say at which input.
  Laid BY PROGRAM, IN A SANDBOX (cutbox-rows.mjs): the forced cells as the released guide's own fill.sh prints them over the translation 8a3f83a5fd88774b… (all of the seat's roots in one cut). By AI agents, Wed Nov 11 2026. No macro, syntax, notation, axiom, sorry.
-/
import Derived.Test.YtdlikopmjhfalaaChecked
import GoSem.Claim
import GoSem.ClaimJoined
import GoSem.ClaimMapViews
import Derived.JoinedTies
import Derived.KernelRfl
namespace Go.Proofs.Ytdlikopmjhfalaa
/- THE CELL 'sum', in the pinned program and in every row, IS THE sha256 OF THE DUMP (.gsa) THAT YtdlikopmjhfalaaProg.lean LOADS. Nothing in Lean hashes anything: it is a label: what it is worth is what the hold of that sum in a sandbox is worth. -/
noncomputable def Try.pinned : Pinned := { name := "ytdlikopmjhfalaa", sum := "8a3f83a5fd88774b77fbdaa758f89ca77a9dabcca979956df2492debe0d943e7", checked := Try.checked }
namespace Rows
def none {H : Type} : Left H := { results := [], args := [] }

/-- 'pasternlaw2.SchemaLimits': WHATEVER THE INPUT: true; the input reads as it did. -/
def schemaLimitsSpec : ChangeSpec := { name := "schemaLimits", fn := fun _ => fun
  | [d1, d2, d3] => { results := [.lit (.bool true)], args := [d1, d2, d3] }
  | _ => none }
def schemaLimitsRow : OpenClaim := { program := "ytdlikopmjhfalaa", sum := "8a3f83a5fd88774b77fbdaa758f89ca77a9dabcca979956df2492debe0d943e7", func := "pastern/pasternlaw2.SchemaLimits", spec := "schemaLimits", unfollowed := true, recurses := true, apart := false }
def SchemaLimitsSaid : Prop := schemaLimitsRow.holds Try.pinned (OpenSpec.ofChange schemaLimitsSpec)

/-- ITS FALSE NEIGHBOUR: 'it returns false'. Refute it at one input. -/
def schemaLimitsWrong : ChangeSpec := { name := "schemaLimits", fn := fun _ => fun
  | [d1, d2, d3] => { results := [.lit (.bool false)], args := [d1, d2, d3] }
  | _ => none }
def SchemaLimitsWrongFalsely : Prop := schemaLimitsRow.holds Try.pinned (OpenSpec.ofChange schemaLimitsWrong)

/-- 'pasternlaw2.SchemaFinds': WHATEVER THE INPUT: true; the input reads as it did. -/
def schemaFindsSpec : ChangeSpec := { name := "schemaFinds", fn := fun _ => fun
  | [d1, d2] => { results := [.lit (.bool true)], args := [d1, d2] }
  | _ => none }
def schemaFindsRow : OpenClaim := { program := "ytdlikopmjhfalaa", sum := "8a3f83a5fd88774b77fbdaa758f89ca77a9dabcca979956df2492debe0d943e7", func := "pastern/pasternlaw2.SchemaFinds", spec := "schemaFinds", unfollowed := true, recurses := true, apart := false }
def SchemaFindsSaid : Prop := schemaFindsRow.holds Try.pinned (OpenSpec.ofChange schemaFindsSpec)

/-- ITS FALSE NEIGHBOUR: 'it returns false'. Refute it at one input. -/
def schemaFindsWrong : ChangeSpec := { name := "schemaFinds", fn := fun _ => fun
  | [d1, d2] => { results := [.lit (.bool false)], args := [d1, d2] }
  | _ => none }
def SchemaFindsWrongFalsely : Prop := schemaFindsRow.holds Try.pinned (OpenSpec.ofChange schemaFindsWrong)

/-- 'pasternlaw3.EventKinds': WHATEVER THE INPUT: true; the input reads as it did. -/
def eventKindsSpec : ChangeSpec := { name := "eventKinds", fn := fun _ => fun
  | [d1, d2, d3, d4] => { results := [.lit (.bool true)], args := [d1, d2, d3, d4] }
  | _ => none }
def eventKindsRow : OpenClaim := { program := "ytdlikopmjhfalaa", sum := "8a3f83a5fd88774b77fbdaa758f89ca77a9dabcca979956df2492debe0d943e7", func := "pastern/pasternlaw3.EventKinds", spec := "eventKinds", inPlace := ["internal/reflectlite.TypeOf"], unfollowed := true, recurses := true, apart := false }
def EventKindsSaid : Prop := eventKindsRow.holds Try.pinned (OpenSpec.ofChange eventKindsSpec)

/-- ITS FALSE NEIGHBOUR: 'it returns false'. Refute it at one input. -/
def eventKindsWrong : ChangeSpec := { name := "eventKinds", fn := fun _ => fun
  | [d1, d2, d3, d4] => { results := [.lit (.bool false)], args := [d1, d2, d3, d4] }
  | _ => none }
def EventKindsWrongFalsely : Prop := eventKindsRow.holds Try.pinned (OpenSpec.ofChange eventKindsWrong)

/-- 'pasternlaw3.EventCopies': WHATEVER THE INPUT: true; the input reads as it did. -/
def eventCopiesSpec : ChangeSpec := { name := "eventCopies", fn := fun _ => fun
  | [d1, d2, d3] => { results := [.lit (.bool true)], args := [d1, d2, d3] }
  | _ => none }
def eventCopiesRow : OpenClaim := { program := "ytdlikopmjhfalaa", sum := "8a3f83a5fd88774b77fbdaa758f89ca77a9dabcca979956df2492debe0d943e7", func := "pastern/pasternlaw3.EventCopies", spec := "eventCopies", inPlace := ["internal/reflectlite.TypeOf"], unfollowed := true, recurses := true, apart := false }
def EventCopiesSaid : Prop := eventCopiesRow.holds Try.pinned (OpenSpec.ofChange eventCopiesSpec)

/-- ITS FALSE NEIGHBOUR: 'it returns false'. Refute it at one input. -/
def eventCopiesWrong : ChangeSpec := { name := "eventCopies", fn := fun _ => fun
  | [d1, d2, d3] => { results := [.lit (.bool false)], args := [d1, d2, d3] }
  | _ => none }
def EventCopiesWrongFalsely : Prop := eventCopiesRow.holds Try.pinned (OpenSpec.ofChange eventCopiesWrong)

/-- 'pasternlaw1.ValueTells': WHATEVER THE INPUT: true; the input reads as it did. -/
def valueTellsSpec : ChangeSpec := { name := "valueTells", fn := fun _ => fun
  | [d1, d2, d3, d4] => { results := [.lit (.bool true)], args := [d1, d2, d3, d4] }
  | _ => none }
def valueTellsRow : OpenClaim := { program := "ytdlikopmjhfalaa", sum := "8a3f83a5fd88774b77fbdaa758f89ca77a9dabcca979956df2492debe0d943e7", func := "pastern/pasternlaw1.ValueTells", spec := "valueTells", inPlace := ["slices.overlaps[string]"], unfollowed := true, recurses := true, apart := false }
def ValueTellsSaid : Prop := valueTellsRow.holds Try.pinned (OpenSpec.ofChange valueTellsSpec)

/-- ITS FALSE NEIGHBOUR: 'it returns false'. Refute it at one input. -/
def valueTellsWrong : ChangeSpec := { name := "valueTells", fn := fun _ => fun
  | [d1, d2, d3, d4] => { results := [.lit (.bool false)], args := [d1, d2, d3, d4] }
  | _ => none }
def ValueTellsWrongFalsely : Prop := valueTellsRow.holds Try.pinned (OpenSpec.ofChange valueTellsWrong)

/-- 'pasternlaw1.ValueRows': WHATEVER THE INPUT: true; the input reads as it did. -/
def valueRowsSpec : ChangeSpec := { name := "valueRows", fn := fun _ => fun
  | [d1, d2] => { results := [.lit (.bool true)], args := [d1, d2] }
  | _ => none }
def valueRowsRow : OpenClaim := { program := "ytdlikopmjhfalaa", sum := "8a3f83a5fd88774b77fbdaa758f89ca77a9dabcca979956df2492debe0d943e7", func := "pastern/pasternlaw1.ValueRows", spec := "valueRows", inPlace := ["slices.overlaps[string]"], unfollowed := true, recurses := true, apart := false }
def ValueRowsSaid : Prop := valueRowsRow.holds Try.pinned (OpenSpec.ofChange valueRowsSpec)

/-- ITS FALSE NEIGHBOUR: 'it returns false'. Refute it at one input. -/
def valueRowsWrong : ChangeSpec := { name := "valueRows", fn := fun _ => fun
  | [d1, d2] => { results := [.lit (.bool false)], args := [d1, d2] }
  | _ => none }
def ValueRowsWrongFalsely : Prop := valueRowsRow.holds Try.pinned (OpenSpec.ofChange valueRowsWrong)

/-- 'pasternlaw1.ValueTexts': WHATEVER THE INPUT: true; the input reads as it did. -/
def valueTextsSpec : ChangeSpec := { name := "valueTexts", fn := fun _ => fun
  | [d1, d2, d3] => { results := [.lit (.bool true)], args := [d1, d2, d3] }
  | _ => none }
def valueTextsRow : OpenClaim := { program := "ytdlikopmjhfalaa", sum := "8a3f83a5fd88774b77fbdaa758f89ca77a9dabcca979956df2492debe0d943e7", func := "pastern/pasternlaw1.ValueTexts", spec := "valueTexts", inPlace := ["slices.overlaps[string]"], unfollowed := true, recurses := true, apart := false }
def ValueTextsSaid : Prop := valueTextsRow.holds Try.pinned (OpenSpec.ofChange valueTextsSpec)

/-- ITS FALSE NEIGHBOUR: 'it returns false'. Refute it at one input. -/
def valueTextsWrong : ChangeSpec := { name := "valueTexts", fn := fun _ => fun
  | [d1, d2, d3] => { results := [.lit (.bool false)], args := [d1, d2, d3] }
  | _ => none }
def ValueTextsWrongFalsely : Prop := valueTextsRow.holds Try.pinned (OpenSpec.ofChange valueTextsWrong)

/-- 'pasternlaw1.ValueNames': WHATEVER THE INPUT: true; the input reads as it did. -/
def valueNamesSpec : ChangeSpec := { name := "valueNames", fn := fun _ => fun
  | [d1, d2, d3] => { results := [.lit (.bool true)], args := [d1, d2, d3] }
  | _ => none }
def valueNamesRow : OpenClaim := { program := "ytdlikopmjhfalaa", sum := "8a3f83a5fd88774b77fbdaa758f89ca77a9dabcca979956df2492debe0d943e7", func := "pastern/pasternlaw1.ValueNames", spec := "valueNames", inPlace := ["slices.overlaps[string]"], unfollowed := true, recurses := true, apart := false }
def ValueNamesSaid : Prop := valueNamesRow.holds Try.pinned (OpenSpec.ofChange valueNamesSpec)

/-- ITS FALSE NEIGHBOUR: 'it returns false'. Refute it at one input. -/
def valueNamesWrong : ChangeSpec := { name := "valueNames", fn := fun _ => fun
  | [d1, d2, d3] => { results := [.lit (.bool false)], args := [d1, d2, d3] }
  | _ => none }
def ValueNamesWrongFalsely : Prop := valueNamesRow.holds Try.pinned (OpenSpec.ofChange valueNamesWrong)

/-- 'pasternlaw1.ValueZeros': WHATEVER THE INPUT: true; the input reads as it did. -/
def valueZerosSpec : ChangeSpec := { name := "valueZeros", fn := fun _ => fun
  | [d] => { results := [.lit (.bool true)], args := [d] }
  | _ => none }
def valueZerosRow : OpenClaim := { program := "ytdlikopmjhfalaa", sum := "8a3f83a5fd88774b77fbdaa758f89ca77a9dabcca979956df2492debe0d943e7", func := "pastern/pasternlaw1.ValueZeros", spec := "valueZeros", inPlace := ["slices.overlaps[string]"], unfollowed := true, recurses := true, apart := false }
def ValueZerosSaid : Prop := valueZerosRow.holds Try.pinned (OpenSpec.ofChange valueZerosSpec)

/-- ITS FALSE NEIGHBOUR: 'it returns false'. Refute it at one input. -/
def valueZerosWrong : ChangeSpec := { name := "valueZeros", fn := fun _ => fun
  | [d] => { results := [.lit (.bool false)], args := [d] }
  | _ => none }
def ValueZerosWrongFalsely : Prop := valueZerosRow.holds Try.pinned (OpenSpec.ofChange valueZerosWrong)

/- THE SECOND FORM. 'bulk': how many values and letters a reading holds, each counted each time it is reached (what is shared counts as often as it is met; a slice's spare places count too). A statement '..UptoSaid' is the law's where the arguments, and the package variables that the reading takes, are together of bulk at most 1048576: NARROWER than '..Said'. Prove '..Said' where nothing that the law and all that it calls make is longer than what came in: it says more and counts as full. Else prove '..UptoSaid'. A law counts once. -/
mutual
def uptoBulk {H : Type} : DataW H → Nat
  | .lit (.string bytes) => bytes.length + 1
  | .lit _ => 1
  | .nil => 1
  | .ptr d => uptoBulk d + 1
  | .slice elems spare => uptoBulkAll elems + uptoBulkAll spare + 1
  | .agg parts => uptoBulkAll parts + 1
  | .iface _ d => uptoBulk d + 1
  | .map entries => uptoBulkEntries entries + 1
  | .held _ => 1
def uptoBulkAll {H : Type} : List (DataW H) → Nat
  | [] => 0
  | d :: r => uptoBulk d + uptoBulkAll r
def uptoBulkEntries {H : Type} : List (Lit × DataW H) → Nat
  | [] => 0
  | x :: r => uptoBulkEntry x + uptoBulkEntries r
def uptoBulkEntry {H : Type} : Lit × DataW H → Nat
  | (.string bytes, d) => bytes.length + uptoBulk d + 1
  | (_, d) => uptoBulk d + 1
 end
def uptoSmall : (H : Type) → List (DataW H) → Bool := fun _ ds => decide (uptoBulkAll ds ≤ 1048576)
def OpenSpec.upto (s : _root_.Go.ChangeSpec) : _root_.Go.OpenSpec := { _root_.Go.OpenSpec.ofChange s with cond := some uptoSmall }

/-- 'pasternlaw2.SchemaLimits', WHERE WHAT IT READS IS OF BULK AT MOST 1048576: true; the input reads as it did. -/
def schemaLimitsUptoRow : OpenClaim := { program := "ytdlikopmjhfalaa", sum := "8a3f83a5fd88774b77fbdaa758f89ca77a9dabcca979956df2492debe0d943e7", func := "pastern/pasternlaw2.SchemaLimits", spec := "schemaLimits", unfollowed := true, recurses := true, apart := false, narrowed := true }
def SchemaLimitsUptoSaid : Prop := schemaLimitsUptoRow.holds Try.pinned (OpenSpec.upto schemaLimitsSpec)

/-- 'pasternlaw2.SchemaFinds', WHERE WHAT IT READS IS OF BULK AT MOST 1048576: true; the input reads as it did. -/
def schemaFindsUptoRow : OpenClaim := { program := "ytdlikopmjhfalaa", sum := "8a3f83a5fd88774b77fbdaa758f89ca77a9dabcca979956df2492debe0d943e7", func := "pastern/pasternlaw2.SchemaFinds", spec := "schemaFinds", unfollowed := true, recurses := true, apart := false, narrowed := true }
def SchemaFindsUptoSaid : Prop := schemaFindsUptoRow.holds Try.pinned (OpenSpec.upto schemaFindsSpec)

/-- 'pasternlaw3.EventKinds', WHERE WHAT IT READS IS OF BULK AT MOST 1048576: true; the input reads as it did. -/
def eventKindsUptoRow : OpenClaim := { program := "ytdlikopmjhfalaa", sum := "8a3f83a5fd88774b77fbdaa758f89ca77a9dabcca979956df2492debe0d943e7", func := "pastern/pasternlaw3.EventKinds", spec := "eventKinds", inPlace := ["internal/reflectlite.TypeOf"], unfollowed := true, recurses := true, apart := false, narrowed := true }
def EventKindsUptoSaid : Prop := eventKindsUptoRow.holds Try.pinned (OpenSpec.upto eventKindsSpec)

/-- 'pasternlaw3.EventCopies', WHERE WHAT IT READS IS OF BULK AT MOST 1048576: true; the input reads as it did. -/
def eventCopiesUptoRow : OpenClaim := { program := "ytdlikopmjhfalaa", sum := "8a3f83a5fd88774b77fbdaa758f89ca77a9dabcca979956df2492debe0d943e7", func := "pastern/pasternlaw3.EventCopies", spec := "eventCopies", inPlace := ["internal/reflectlite.TypeOf"], unfollowed := true, recurses := true, apart := false, narrowed := true }
def EventCopiesUptoSaid : Prop := eventCopiesUptoRow.holds Try.pinned (OpenSpec.upto eventCopiesSpec)

/-- 'pasternlaw1.ValueTells', WHERE WHAT IT READS IS OF BULK AT MOST 1048576: true; the input reads as it did. -/
def valueTellsUptoRow : OpenClaim := { program := "ytdlikopmjhfalaa", sum := "8a3f83a5fd88774b77fbdaa758f89ca77a9dabcca979956df2492debe0d943e7", func := "pastern/pasternlaw1.ValueTells", spec := "valueTells", inPlace := ["slices.overlaps[string]"], unfollowed := true, recurses := true, apart := false, narrowed := true }
def ValueTellsUptoSaid : Prop := valueTellsUptoRow.holds Try.pinned (OpenSpec.upto valueTellsSpec)

/-- 'pasternlaw1.ValueRows', WHERE WHAT IT READS IS OF BULK AT MOST 1048576: true; the input reads as it did. -/
def valueRowsUptoRow : OpenClaim := { program := "ytdlikopmjhfalaa", sum := "8a3f83a5fd88774b77fbdaa758f89ca77a9dabcca979956df2492debe0d943e7", func := "pastern/pasternlaw1.ValueRows", spec := "valueRows", inPlace := ["slices.overlaps[string]"], unfollowed := true, recurses := true, apart := false, narrowed := true }
def ValueRowsUptoSaid : Prop := valueRowsUptoRow.holds Try.pinned (OpenSpec.upto valueRowsSpec)

/-- 'pasternlaw1.ValueTexts', WHERE WHAT IT READS IS OF BULK AT MOST 1048576: true; the input reads as it did. -/
def valueTextsUptoRow : OpenClaim := { program := "ytdlikopmjhfalaa", sum := "8a3f83a5fd88774b77fbdaa758f89ca77a9dabcca979956df2492debe0d943e7", func := "pastern/pasternlaw1.ValueTexts", spec := "valueTexts", inPlace := ["slices.overlaps[string]"], unfollowed := true, recurses := true, apart := false, narrowed := true }
def ValueTextsUptoSaid : Prop := valueTextsUptoRow.holds Try.pinned (OpenSpec.upto valueTextsSpec)

/-- 'pasternlaw1.ValueNames', WHERE WHAT IT READS IS OF BULK AT MOST 1048576: true; the input reads as it did. -/
def valueNamesUptoRow : OpenClaim := { program := "ytdlikopmjhfalaa", sum := "8a3f83a5fd88774b77fbdaa758f89ca77a9dabcca979956df2492debe0d943e7", func := "pastern/pasternlaw1.ValueNames", spec := "valueNames", inPlace := ["slices.overlaps[string]"], unfollowed := true, recurses := true, apart := false, narrowed := true }
def ValueNamesUptoSaid : Prop := valueNamesUptoRow.holds Try.pinned (OpenSpec.upto valueNamesSpec)

/-- 'pasternlaw1.ValueZeros', WHERE WHAT IT READS IS OF BULK AT MOST 1048576: true; the input reads as it did. -/
def valueZerosUptoRow : OpenClaim := { program := "ytdlikopmjhfalaa", sum := "8a3f83a5fd88774b77fbdaa758f89ca77a9dabcca979956df2492debe0d943e7", func := "pastern/pasternlaw1.ValueZeros", spec := "valueZeros", inPlace := ["slices.overlaps[string]"], unfollowed := true, recurses := true, apart := false, narrowed := true }
def ValueZerosUptoSaid : Prop := valueZerosUptoRow.holds Try.pinned (OpenSpec.upto valueZerosSpec)

end Rows
end Go.Proofs.Ytdlikopmjhfalaa
