/-
  DERIVED. GIVEN WITH THE SEED: THE CARDS: each row of YtchpllgeahnmmaaGreatDoorRows.lean that lists a variable, with what it lists TIED to the program's text (the seventh form; the later family's looks); each row that meets fmt, with fmt's text TOLD by the authors' own Lean function (tested against real Go, not proved from fmt's source: count such statements apart). THE CARD IS WHAT COUNTS. Prove the row's statement (the work); the ties are given (YtchpllgeahnmmaaGreatDoorTie.lean); close each card by the builder's one call (the guide's Derived/Test/ToyasCard.lean, 'card_holds'). Laid BY PROGRAM, IN A SANDBOX (cutbox-door.mjs). By AI agents, Wed Nov 11 2026. No macro, syntax, notation, axiom, sorry.
-/
import Derived.Test.YtchpllgeahnmmaaGreatDoorRows
import GoSem.ClaimSeven
namespace Go.Proofs.YtchpllgeahnmmaaGreatDoor
namespace Rows

/-- THE TIED CARD OF 'pasternlaw5.ChainTells'. -/
def chainTellsCard : Claim7 := { stood := { row := chainTellsRow, standIns := [], harness := (true, "9a793f35cd0ff16d5d87386aecacb7329a8125e09e643b7f804f5763fa5fd2c5"), looks := true }, kinds := [], alts := [], laidByText := true, laidKinds := [.handle], laidTests := true, laidLooks := .later }
def ChainTellsCardSaid : Prop := Claim7.holds Tryz.pinned (.plain (OpenSpec.ofChange chainTellsSpec)) chainTellsCard

/-- THE SECOND FORM's CARD OF 'pasternlaw5.ChainTells'. -/
def chainTellsUptoCard : Claim7 := { stood := { row := chainTellsUptoRow, standIns := [], harness := (true, "9a793f35cd0ff16d5d87386aecacb7329a8125e09e643b7f804f5763fa5fd2c5"), looks := true }, kinds := [], alts := [], laidByText := true, laidKinds := [.handle], laidTests := true, laidLooks := .later }
def ChainTellsUptoCardSaid : Prop := Claim7.holds Tryz.pinned (.plain (OpenSpec.upto chainTellsSpec)) chainTellsUptoCard
end Rows
end Go.Proofs.YtchpllgeahnmmaaGreatDoor
