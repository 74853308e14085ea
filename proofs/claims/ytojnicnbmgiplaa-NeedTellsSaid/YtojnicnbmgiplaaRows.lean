/-
  NARROWER THAN 'FOR EVERY INPUT', by the rows' own cells (each row's printed sentence says how): NeedTells: loops · NeedEnough: loops · NeedTwice: loops · KeepWindow: loops.
  DERIVED. THE GIVEN ROWS OF THIS SEAT. 6 by the template 'for every input the law returns true; each argument reads behind the call as it read before'; 0 by the template 'total and deterministic' (their statements: YtojnicnbmgiplaaTotals.lean).
  GIVEN WITH THE SEED: the statements are not yours to turn. If you find one false, say at which input.
  Laid BY PROGRAM, IN A SANDBOX (cutbox-rows.mjs): the forced cells as the released guide's own fill.sh prints them over the translation b003862c88b7b482… (all of the seat's roots in one cut). By AI agents, Wed Nov 11 2026. No macro, syntax, notation, axiom, sorry.
-/
import Derived.Test.YtojnicnbmgiplaaChecked
import GoSem.Claim
import GoSem.ClaimJoined
import GoSem.ClaimMapViews
import Derived.JoinedTies
import Derived.KernelRfl
namespace Go.Proofs.Ytojnicnbmgiplaa
/- THE CELL 'sum', in the pinned program and in every row, IS THE sha256 OF THE DUMP (.gsa) THAT YtojnicnbmgiplaaProg.lean LOADS. Nothing in Lean hashes anything: it is a label: what it is worth is what the hold of that sum in a sandbox is worth. -/
noncomputable def Try.pinned : Pinned := { name := "ytojnicnbmgiplaa", sum := "b003862c88b7b4826fc37b75e71d9b5fa4bc100dc1f2a9072e7335cb12e3a6f2", checked := Try.checked }
namespace Rows
def none {H : Type} : Left H := { results := [], args := [] }

/-- 'pasternlaw13.NeedTells': WHATEVER THE INPUT: true; the input reads as it did. -/
def needTellsSpec : ChangeSpec := { name := "needTells", fn := fun _ => fun
  | [d1, d2, d3, d4] => { results := [.lit (.bool true)], args := [d1, d2, d3, d4] }
  | _ => none }
def needTellsRow : OpenClaim := { program := "ytojnicnbmgiplaa", sum := "b003862c88b7b4826fc37b75e71d9b5fa4bc100dc1f2a9072e7335cb12e3a6f2", func := "pastern/pasternlaw13.NeedTells", spec := "needTells", unfollowed := true, recurses := true, loops := true, apart := false }
def NeedTellsSaid : Prop := needTellsRow.holds Try.pinned (OpenSpec.ofChange needTellsSpec)

/-- ITS FALSE NEIGHBOUR: 'it returns false'. Refute it at one input. -/
def needTellsWrong : ChangeSpec := { name := "needTells", fn := fun _ => fun
  | [d1, d2, d3, d4] => { results := [.lit (.bool false)], args := [d1, d2, d3, d4] }
  | _ => none }
def NeedTellsWrongFalsely : Prop := needTellsRow.holds Try.pinned (OpenSpec.ofChange needTellsWrong)

/-- 'pasternlaw13.NeedEnough': WHATEVER THE INPUT: true; the input reads as it did. -/
def needEnoughSpec : ChangeSpec := { name := "needEnough", fn := fun _ => fun
  | [d1, d2] => { results := [.lit (.bool true)], args := [d1, d2] }
  | _ => none }
def needEnoughRow : OpenClaim := { program := "ytojnicnbmgiplaa", sum := "b003862c88b7b4826fc37b75e71d9b5fa4bc100dc1f2a9072e7335cb12e3a6f2", func := "pastern/pasternlaw13.NeedEnough", spec := "needEnough", unfollowed := true, recurses := true, loops := true, apart := false }
def NeedEnoughSaid : Prop := needEnoughRow.holds Try.pinned (OpenSpec.ofChange needEnoughSpec)

/-- ITS FALSE NEIGHBOUR: 'it returns false'. Refute it at one input. -/
def needEnoughWrong : ChangeSpec := { name := "needEnough", fn := fun _ => fun
  | [d1, d2] => { results := [.lit (.bool false)], args := [d1, d2] }
  | _ => none }
def NeedEnoughWrongFalsely : Prop := needEnoughRow.holds Try.pinned (OpenSpec.ofChange needEnoughWrong)

/-- 'pasternlaw13.NeedTwice': WHATEVER THE INPUT: true; the input reads as it did. -/
def needTwiceSpec : ChangeSpec := { name := "needTwice", fn := fun _ => fun
  | [d1, d2, d3] => { results := [.lit (.bool true)], args := [d1, d2, d3] }
  | _ => none }
def needTwiceRow : OpenClaim := { program := "ytojnicnbmgiplaa", sum := "b003862c88b7b4826fc37b75e71d9b5fa4bc100dc1f2a9072e7335cb12e3a6f2", func := "pastern/pasternlaw13.NeedTwice", spec := "needTwice", unfollowed := true, recurses := true, loops := true, apart := false }
def NeedTwiceSaid : Prop := needTwiceRow.holds Try.pinned (OpenSpec.ofChange needTwiceSpec)

/-- ITS FALSE NEIGHBOUR: 'it returns false'. Refute it at one input. -/
def needTwiceWrong : ChangeSpec := { name := "needTwice", fn := fun _ => fun
  | [d1, d2, d3] => { results := [.lit (.bool false)], args := [d1, d2, d3] }
  | _ => none }
def NeedTwiceWrongFalsely : Prop := needTwiceRow.holds Try.pinned (OpenSpec.ofChange needTwiceWrong)

/-- 'pasternlaw14.DenoteNots': WHATEVER THE INPUT: true; the input reads as it did. -/
def denoteNotsSpec : ChangeSpec := { name := "denoteNots", fn := fun _ => fun
  | [d] => { results := [.lit (.bool true)], args := [d] }
  | _ => none }
def denoteNotsRow : OpenClaim := { program := "ytojnicnbmgiplaa", sum := "b003862c88b7b4826fc37b75e71d9b5fa4bc100dc1f2a9072e7335cb12e3a6f2", func := "pastern/pasternlaw14.DenoteNots", spec := "denoteNots", unfollowed := true, recurses := true, apart := false }
def DenoteNotsSaid : Prop := denoteNotsRow.holds Try.pinned (OpenSpec.ofChange denoteNotsSpec)

/-- ITS FALSE NEIGHBOUR: 'it returns false'. Refute it at one input. -/
def denoteNotsWrong : ChangeSpec := { name := "denoteNots", fn := fun _ => fun
  | [d] => { results := [.lit (.bool false)], args := [d] }
  | _ => none }
def DenoteNotsWrongFalsely : Prop := denoteNotsRow.holds Try.pinned (OpenSpec.ofChange denoteNotsWrong)

/-- 'pasternlaw14.DenotePlus': WHATEVER THE INPUT: true; the input reads as it did. -/
def denotePlusSpec : ChangeSpec := { name := "denotePlus", fn := fun _ => fun
  | [d] => { results := [.lit (.bool true)], args := [d] }
  | _ => none }
def denotePlusRow : OpenClaim := { program := "ytojnicnbmgiplaa", sum := "b003862c88b7b4826fc37b75e71d9b5fa4bc100dc1f2a9072e7335cb12e3a6f2", func := "pastern/pasternlaw14.DenotePlus", spec := "denotePlus", unfollowed := true, recurses := true, apart := false }
def DenotePlusSaid : Prop := denotePlusRow.holds Try.pinned (OpenSpec.ofChange denotePlusSpec)

/-- ITS FALSE NEIGHBOUR: 'it returns false'. Refute it at one input. -/
def denotePlusWrong : ChangeSpec := { name := "denotePlus", fn := fun _ => fun
  | [d] => { results := [.lit (.bool false)], args := [d] }
  | _ => none }
def DenotePlusWrongFalsely : Prop := denotePlusRow.holds Try.pinned (OpenSpec.ofChange denotePlusWrong)

/-- 'pasternlaw17.KeepWindow': WHATEVER THE INPUT: true; the input reads as it did. -/
def keepWindowSpec : ChangeSpec := { name := "keepWindow", fn := fun _ => fun
  | [d1, d2] => { results := [.lit (.bool true)], args := [d1, d2] }
  | _ => none }
def keepWindowRow : OpenClaim := { program := "ytojnicnbmgiplaa", sum := "b003862c88b7b4826fc37b75e71d9b5fa4bc100dc1f2a9072e7335cb12e3a6f2", func := "pastern/pasternlaw17.KeepWindow", spec := "keepWindow", unfollowed := true, recurses := true, loops := true, apart := false }
def KeepWindowSaid : Prop := keepWindowRow.holds Try.pinned (OpenSpec.ofChange keepWindowSpec)

/-- ITS FALSE NEIGHBOUR: 'it returns false'. Refute it at one input. -/
def keepWindowWrong : ChangeSpec := { name := "keepWindow", fn := fun _ => fun
  | [d1, d2] => { results := [.lit (.bool false)], args := [d1, d2] }
  | _ => none }
def KeepWindowWrongFalsely : Prop := keepWindowRow.holds Try.pinned (OpenSpec.ofChange keepWindowWrong)

/- THE SECOND FORM. 'bulk': how many values and letters a reading holds, each counted each time it is reached (what is shared counts as often as it is met; a slice's spare places count too). A statement '..UptoSaid' is the law's where the arguments, and the package variables that the reading takes, are together of bulk at most 1048576: NARROWER than '..Said'. Prove '..Said' where nothing that the law and all that it calls make is longer than what came in: it says more and counts as full. Else prove '..UptoSaid'. A law counts once. -/
mutual
def uptoBulk {H : Type} : DataW H → Nat
  | .lit (.string bytes) => bytes.length + 1
  | .lit _ => 1
  | .nil => 1
  | .ptr d => uptoBulk d + 1
  | .slice elems spare => uptoBulkAll elems + uptoBulkAll spare + 1
  | .agg parts => uptoBulkAll parts + 1
  | .iface _ d => uptoBulk d + 1
  | .map entries => uptoBulkEntries entries + 1
  | .held _ => 1
def uptoBulkAll {H : Type} : List (DataW H) → Nat
  | [] => 0
  | d :: r => uptoBulk d + uptoBulkAll r
def uptoBulkEntries {H : Type} : List (Lit × DataW H) → Nat
  | [] => 0
  | x :: r => uptoBulkEntry x + uptoBulkEntries r
def uptoBulkEntry {H : Type} : Lit × DataW H → Nat
  | (.string bytes, d) => bytes.length + uptoBulk d + 1
  | (_, d) => uptoBulk d + 1
 end
def uptoSmall : (H : Type) → List (DataW H) → Bool := fun _ ds => decide (uptoBulkAll ds ≤ 1048576)
def OpenSpec.upto (s : _root_.Go.ChangeSpec) : _root_.Go.OpenSpec := { _root_.Go.OpenSpec.ofChange s with cond := some uptoSmall }

/-- 'pasternlaw13.NeedTells', WHERE WHAT IT READS IS OF BULK AT MOST 1048576: true; the input reads as it did. -/
def needTellsUptoRow : OpenClaim := { program := "ytojnicnbmgiplaa", sum := "b003862c88b7b4826fc37b75e71d9b5fa4bc100dc1f2a9072e7335cb12e3a6f2", func := "pastern/pasternlaw13.NeedTells", spec := "needTells", unfollowed := true, recurses := true, loops := true, apart := false, narrowed := true }
def NeedTellsUptoSaid : Prop := needTellsUptoRow.holds Try.pinned (OpenSpec.upto needTellsSpec)

/-- 'pasternlaw13.NeedEnough', WHERE WHAT IT READS IS OF BULK AT MOST 1048576: true; the input reads as it did. -/
def needEnoughUptoRow : OpenClaim := { program := "ytojnicnbmgiplaa", sum := "b003862c88b7b4826fc37b75e71d9b5fa4bc100dc1f2a9072e7335cb12e3a6f2", func := "pastern/pasternlaw13.NeedEnough", spec := "needEnough", unfollowed := true, recurses := true, loops := true, apart := false, narrowed := true }
def NeedEnoughUptoSaid : Prop := needEnoughUptoRow.holds Try.pinned (OpenSpec.upto needEnoughSpec)

/-- 'pasternlaw13.NeedTwice', WHERE WHAT IT READS IS OF BULK AT MOST 1048576: true; the input reads as it did. -/
def needTwiceUptoRow : OpenClaim := { program := "ytojnicnbmgiplaa", sum := "b003862c88b7b4826fc37b75e71d9b5fa4bc100dc1f2a9072e7335cb12e3a6f2", func := "pastern/pasternlaw13.NeedTwice", spec := "needTwice", unfollowed := true, recurses := true, loops := true, apart := false, narrowed := true }
def NeedTwiceUptoSaid : Prop := needTwiceUptoRow.holds Try.pinned (OpenSpec.upto needTwiceSpec)

/-- 'pasternlaw14.DenoteNots', WHERE WHAT IT READS IS OF BULK AT MOST 1048576: true; the input reads as it did. -/
def denoteNotsUptoRow : OpenClaim := { program := "ytojnicnbmgiplaa", sum := "b003862c88b7b4826fc37b75e71d9b5fa4bc100dc1f2a9072e7335cb12e3a6f2", func := "pastern/pasternlaw14.DenoteNots", spec := "denoteNots", unfollowed := true, recurses := true, apart := false, narrowed := true }
def DenoteNotsUptoSaid : Prop := denoteNotsUptoRow.holds Try.pinned (OpenSpec.upto denoteNotsSpec)

/-- 'pasternlaw14.DenotePlus', WHERE WHAT IT READS IS OF BULK AT MOST 1048576: true; the input reads as it did. -/
def denotePlusUptoRow : OpenClaim := { program := "ytojnicnbmgiplaa", sum := "b003862c88b7b4826fc37b75e71d9b5fa4bc100dc1f2a9072e7335cb12e3a6f2", func := "pastern/pasternlaw14.DenotePlus", spec := "denotePlus", unfollowed := true, recurses := true, apart := false, narrowed := true }
def DenotePlusUptoSaid : Prop := denotePlusUptoRow.holds Try.pinned (OpenSpec.upto denotePlusSpec)

/-- 'pasternlaw17.KeepWindow', WHERE WHAT IT READS IS OF BULK AT MOST 1048576: true; the input reads as it did. -/
def keepWindowUptoRow : OpenClaim := { program := "ytojnicnbmgiplaa", sum := "b003862c88b7b4826fc37b75e71d9b5fa4bc100dc1f2a9072e7335cb12e3a6f2", func := "pastern/pasternlaw17.KeepWindow", spec := "keepWindow", unfollowed := true, recurses := true, loops := true, apart := false, narrowed := true }
def KeepWindowUptoSaid : Prop := keepWindowUptoRow.holds Try.pinned (OpenSpec.upto keepWindowSpec)

end Rows
end Go.Proofs.Ytojnicnbmgiplaa
