/-
  No cell of these rows narrows 'for every input' (looked for: loops, veiled, ifaces, maps, wideKeys, modest, calm, conditions, laid).
  DERIVED. THE GIVEN ROWS OF THIS SEAT. 6 by the template 'for every input the law returns true; each argument reads behind the call as it read before'; 0 by the template 'total and deterministic' (their statements: YtchpllgeahnmmaaTotals.lean).
  GIVEN WITH THE SEED: the statements are not yours to turn. If you find one false, say at which input.
  Laid BY PROGRAM, IN A SANDBOX (cutbox-rows.mjs): the forced cells as the released guide's own fill.sh prints them over the translation 3f1e97163a397bb6… (all of the seat's roots in one cut). By AI agents, Wed Nov 11 2026. No macro, syntax, notation, axiom, sorry.
-/
import Derived.Test.YtchpllgeahnmmaaChecked
import GoSem.Claim
import GoSem.ClaimJoined
import GoSem.ClaimMapViews
import Derived.JoinedTies
import Derived.KernelRfl
namespace Go.Proofs.Ytchpllgeahnmmaa
/- THE CELL 'sum', in the pinned program and in every row, IS THE sha256 OF THE DUMP (.gsa) THAT YtchpllgeahnmmaaProg.lean LOADS. Nothing in Lean hashes anything: it is a label: what it is worth is what the hold of that sum in a sandbox is worth. -/
noncomputable def Try.pinned : Pinned := { name := "ytchpllgeahnmmaa", sum := "3f1e97163a397bb61014a3fa36bfc96a082292046109c58a85aedb2effd6e40a", checked := Try.checked }
namespace Rows
def none {H : Type} : Left H := { results := [], args := [] }

/-- 'pasternlaw2.SchemaLimits': WHATEVER THE INPUT: true; the input reads as it did. -/
def schemaLimitsSpec : ChangeSpec := { name := "schemaLimits", fn := fun _ => fun
  | [d1, d2, d3] => { results := [.lit (.bool true)], args := [d1, d2, d3] }
  | _ => none }
def schemaLimitsRow : OpenClaim := { program := "ytchpllgeahnmmaa", sum := "3f1e97163a397bb61014a3fa36bfc96a082292046109c58a85aedb2effd6e40a", func := "pastern/pasternlaw2.SchemaLimits", spec := "schemaLimits", unfollowed := true, recurses := true, apart := false }
def SchemaLimitsSaid : Prop := schemaLimitsRow.holds Try.pinned (OpenSpec.ofChange schemaLimitsSpec)

/-- ITS FALSE NEIGHBOUR: 'it returns false'. Refute it at one input. -/
def schemaLimitsWrong : ChangeSpec := { name := "schemaLimits", fn := fun _ => fun
  | [d1, d2, d3] => { results := [.lit (.bool false)], args := [d1, d2, d3] }
  | _ => none }
def SchemaLimitsWrongFalsely : Prop := schemaLimitsRow.holds Try.pinned (OpenSpec.ofChange schemaLimitsWrong)

/-- 'pasternlaw4.EvolveRight': WHATEVER THE INPUT: true; the input reads as it did. -/
def evolveRightSpec : ChangeSpec := { name := "evolveRight", fn := fun _ => fun
  | [d1, d2, d3] => { results := [.lit (.bool true)], args := [d1, d2, d3] }
  | _ => none }
def evolveRightRow : OpenClaim := { program := "ytchpllgeahnmmaa", sum := "3f1e97163a397bb61014a3fa36bfc96a082292046109c58a85aedb2effd6e40a", func := "pastern/pasternlaw4.EvolveRight", spec := "evolveRight", inPlace := ["slices.overlaps[pastern/api.Type]", "internal/reflectlite.TypeOf"], unfollowed := true, recurses := true, apart := false }
def EvolveRightSaid : Prop := evolveRightRow.holds Try.pinned (OpenSpec.ofChange evolveRightSpec)

/-- ITS FALSE NEIGHBOUR: 'it returns false'. Refute it at one input. -/
def evolveRightWrong : ChangeSpec := { name := "evolveRight", fn := fun _ => fun
  | [d1, d2, d3] => { results := [.lit (.bool false)], args := [d1, d2, d3] }
  | _ => none }
def EvolveRightWrongFalsely : Prop := evolveRightRow.holds Try.pinned (OpenSpec.ofChange evolveRightWrong)

/-- 'pasternlaw4.EvolveKeeps': WHATEVER THE INPUT: true; the input reads as it did. -/
def evolveKeepsSpec : ChangeSpec := { name := "evolveKeeps", fn := fun _ => fun
  | [d1, d2, d3] => { results := [.lit (.bool true)], args := [d1, d2, d3] }
  | _ => none }
def evolveKeepsRow : OpenClaim := { program := "ytchpllgeahnmmaa", sum := "3f1e97163a397bb61014a3fa36bfc96a082292046109c58a85aedb2effd6e40a", func := "pastern/pasternlaw4.EvolveKeeps", spec := "evolveKeeps", inPlace := ["slices.overlaps[pastern/api.Type]", "internal/reflectlite.TypeOf"], unfollowed := true, recurses := true, apart := false }
def EvolveKeepsSaid : Prop := evolveKeepsRow.holds Try.pinned (OpenSpec.ofChange evolveKeepsSpec)

/-- ITS FALSE NEIGHBOUR: 'it returns false'. Refute it at one input. -/
def evolveKeepsWrong : ChangeSpec := { name := "evolveKeeps", fn := fun _ => fun
  | [d1, d2, d3] => { results := [.lit (.bool false)], args := [d1, d2, d3] }
  | _ => none }
def EvolveKeepsWrongFalsely : Prop := evolveKeepsRow.holds Try.pinned (OpenSpec.ofChange evolveKeepsWrong)

/-- 'pasternlaw4.EvolveRound': WHATEVER THE INPUT: true; the input reads as it did. -/
def evolveRoundSpec : ChangeSpec := { name := "evolveRound", fn := fun _ => fun
  | [d1, d2, d3, d4] => { results := [.lit (.bool true)], args := [d1, d2, d3, d4] }
  | _ => none }
def evolveRoundRow : OpenClaim := { program := "ytchpllgeahnmmaa", sum := "3f1e97163a397bb61014a3fa36bfc96a082292046109c58a85aedb2effd6e40a", func := "pastern/pasternlaw4.EvolveRound", spec := "evolveRound", inPlace := ["slices.overlaps[pastern/api.Type]", "internal/reflectlite.TypeOf"], unfollowed := true, recurses := true, apart := false }
def EvolveRoundSaid : Prop := evolveRoundRow.holds Try.pinned (OpenSpec.ofChange evolveRoundSpec)

/-- ITS FALSE NEIGHBOUR: 'it returns false'. Refute it at one input. -/
def evolveRoundWrong : ChangeSpec := { name := "evolveRound", fn := fun _ => fun
  | [d1, d2, d3, d4] => { results := [.lit (.bool false)], args := [d1, d2, d3, d4] }
  | _ => none }
def EvolveRoundWrongFalsely : Prop := evolveRoundRow.holds Try.pinned (OpenSpec.ofChange evolveRoundWrong)

/-- 'pasternlaw5.ChainMany': WHATEVER THE INPUT: true; the input reads as it did. -/
def chainManySpec : ChangeSpec := { name := "chainMany", fn := fun _ => fun
  | [d] => { results := [.lit (.bool true)], args := [d] }
  | _ => none }
def chainManyRow : OpenClaim := { program := "ytchpllgeahnmmaa", sum := "3f1e97163a397bb61014a3fa36bfc96a082292046109c58a85aedb2effd6e40a", func := "pastern/pasternlaw5.ChainMany", spec := "chainMany", inPlace := ["slices.overlaps[pastern/api.Type]", "internal/reflectlite.TypeOf"], unfollowed := true, recurses := true, apart := false }
def ChainManySaid : Prop := chainManyRow.holds Try.pinned (OpenSpec.ofChange chainManySpec)

/-- ITS FALSE NEIGHBOUR: 'it returns false'. Refute it at one input. -/
def chainManyWrong : ChangeSpec := { name := "chainMany", fn := fun _ => fun
  | [d] => { results := [.lit (.bool false)], args := [d] }
  | _ => none }
def ChainManyWrongFalsely : Prop := chainManyRow.holds Try.pinned (OpenSpec.ofChange chainManyWrong)

/-- 'pasternlaw5.ChainBack': WHATEVER THE INPUT: true; the input reads as it did. -/
def chainBackSpec : ChangeSpec := { name := "chainBack", fn := fun _ => fun
  | [d1, d2] => { results := [.lit (.bool true)], args := [d1, d2] }
  | _ => none }
def chainBackRow : OpenClaim := { program := "ytchpllgeahnmmaa", sum := "3f1e97163a397bb61014a3fa36bfc96a082292046109c58a85aedb2effd6e40a", func := "pastern/pasternlaw5.ChainBack", spec := "chainBack", inPlace := ["slices.overlaps[pastern/api.Type]", "internal/reflectlite.TypeOf"], unfollowed := true, recurses := true, apart := false }
def ChainBackSaid : Prop := chainBackRow.holds Try.pinned (OpenSpec.ofChange chainBackSpec)

/-- ITS FALSE NEIGHBOUR: 'it returns false'. Refute it at one input. -/
def chainBackWrong : ChangeSpec := { name := "chainBack", fn := fun _ => fun
  | [d1, d2] => { results := [.lit (.bool false)], args := [d1, d2] }
  | _ => none }
def ChainBackWrongFalsely : Prop := chainBackRow.holds Try.pinned (OpenSpec.ofChange chainBackWrong)

/- THE SECOND FORM. 'bulk': how many values and letters a reading holds, each counted each time it is reached (what is shared counts as often as it is met; a slice's spare places count too). A statement '..UptoSaid' is the law's where the arguments, and the package variables that the reading takes, are together of bulk at most 1048576: NARROWER than '..Said'. Prove '..Said' where nothing that the law and all that it calls make is longer than what came in: it says more and counts as full. Else prove '..UptoSaid'. A law counts once. -/
mutual
def uptoBulk {H : Type} : DataW H → Nat
  | .lit (.string bytes) => bytes.length + 1
  | .lit _ => 1
  | .nil => 1
  | .ptr d => uptoBulk d + 1
  | .slice elems spare => uptoBulkAll elems + uptoBulkAll spare + 1
  | .agg parts => uptoBulkAll parts + 1
  | .iface _ d => uptoBulk d + 1
  | .map entries => uptoBulkEntries entries + 1
  | .held _ => 1
def uptoBulkAll {H : Type} : List (DataW H) → Nat
  | [] => 0
  | d :: r => uptoBulk d + uptoBulkAll r
def uptoBulkEntries {H : Type} : List (Lit × DataW H) → Nat
  | [] => 0
  | x :: r => uptoBulkEntry x + uptoBulkEntries r
def uptoBulkEntry {H : Type} : Lit × DataW H → Nat
  | (.string bytes, d) => bytes.length + uptoBulk d + 1
  | (_, d) => uptoBulk d + 1
 end
def uptoSmall : (H : Type) → List (DataW H) → Bool := fun _ ds => decide (uptoBulkAll ds ≤ 1048576)
def OpenSpec.upto (s : _root_.Go.ChangeSpec) : _root_.Go.OpenSpec := { _root_.Go.OpenSpec.ofChange s with cond := some uptoSmall }

/-- 'pasternlaw2.SchemaLimits', WHERE WHAT IT READS IS OF BULK AT MOST 1048576: true; the input reads as it did. -/
def schemaLimitsUptoRow : OpenClaim := { program := "ytchpllgeahnmmaa", sum := "3f1e97163a397bb61014a3fa36bfc96a082292046109c58a85aedb2effd6e40a", func := "pastern/pasternlaw2.SchemaLimits", spec := "schemaLimits", unfollowed := true, recurses := true, apart := false, narrowed := true }
def SchemaLimitsUptoSaid : Prop := schemaLimitsUptoRow.holds Try.pinned (OpenSpec.upto schemaLimitsSpec)

/-- 'pasternlaw4.EvolveRight', WHERE WHAT IT READS IS OF BULK AT MOST 1048576: true; the input reads as it did. -/
def evolveRightUptoRow : OpenClaim := { program := "ytchpllgeahnmmaa", sum := "3f1e97163a397bb61014a3fa36bfc96a082292046109c58a85aedb2effd6e40a", func := "pastern/pasternlaw4.EvolveRight", spec := "evolveRight", inPlace := ["slices.overlaps[pastern/api.Type]", "internal/reflectlite.TypeOf"], unfollowed := true, recurses := true, apart := false, narrowed := true }
def EvolveRightUptoSaid : Prop := evolveRightUptoRow.holds Try.pinned (OpenSpec.upto evolveRightSpec)

/-- 'pasternlaw4.EvolveKeeps', WHERE WHAT IT READS IS OF BULK AT MOST 1048576: true; the input reads as it did. -/
def evolveKeepsUptoRow : OpenClaim := { program := "ytchpllgeahnmmaa", sum := "3f1e97163a397bb61014a3fa36bfc96a082292046109c58a85aedb2effd6e40a", func := "pastern/pasternlaw4.EvolveKeeps", spec := "evolveKeeps", inPlace := ["slices.overlaps[pastern/api.Type]", "internal/reflectlite.TypeOf"], unfollowed := true, recurses := true, apart := false, narrowed := true }
def EvolveKeepsUptoSaid : Prop := evolveKeepsUptoRow.holds Try.pinned (OpenSpec.upto evolveKeepsSpec)

/-- 'pasternlaw4.EvolveRound', WHERE WHAT IT READS IS OF BULK AT MOST 1048576: true; the input reads as it did. -/
def evolveRoundUptoRow : OpenClaim := { program := "ytchpllgeahnmmaa", sum := "3f1e97163a397bb61014a3fa36bfc96a082292046109c58a85aedb2effd6e40a", func := "pastern/pasternlaw4.EvolveRound", spec := "evolveRound", inPlace := ["slices.overlaps[pastern/api.Type]", "internal/reflectlite.TypeOf"], unfollowed := true, recurses := true, apart := false, narrowed := true }
def EvolveRoundUptoSaid : Prop := evolveRoundUptoRow.holds Try.pinned (OpenSpec.upto evolveRoundSpec)

/-- 'pasternlaw5.ChainMany', WHERE WHAT IT READS IS OF BULK AT MOST 1048576: true; the input reads as it did. -/
def chainManyUptoRow : OpenClaim := { program := "ytchpllgeahnmmaa", sum := "3f1e97163a397bb61014a3fa36bfc96a082292046109c58a85aedb2effd6e40a", func := "pastern/pasternlaw5.ChainMany", spec := "chainMany", inPlace := ["slices.overlaps[pastern/api.Type]", "internal/reflectlite.TypeOf"], unfollowed := true, recurses := true, apart := false, narrowed := true }
def ChainManyUptoSaid : Prop := chainManyUptoRow.holds Try.pinned (OpenSpec.upto chainManySpec)

/-- 'pasternlaw5.ChainBack', WHERE WHAT IT READS IS OF BULK AT MOST 1048576: true; the input reads as it did. -/
def chainBackUptoRow : OpenClaim := { program := "ytchpllgeahnmmaa", sum := "3f1e97163a397bb61014a3fa36bfc96a082292046109c58a85aedb2effd6e40a", func := "pastern/pasternlaw5.ChainBack", spec := "chainBack", inPlace := ["slices.overlaps[pastern/api.Type]", "internal/reflectlite.TypeOf"], unfollowed := true, recurses := true, apart := false, narrowed := true }
def ChainBackUptoSaid : Prop := chainBackUptoRow.holds Try.pinned (OpenSpec.upto chainBackSpec)

end Rows
end Go.Proofs.Ytchpllgeahnmmaa
