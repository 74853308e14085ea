/-
  DERIVED. GIVEN WITH THE SEED: THE CARDS: each row of YtjiknbjkbakegaaDoorRows.lean that lists a variable, with what it lists TIED to the program's text (the seventh form; the later family's looks); each row that meets fmt, with fmt's text TOLD by the authors' own Lean function (tested against real Go, not proved from fmt's source: count such statements apart). THE CARD IS WHAT COUNTS. Prove the row's statement (the work); the ties are given (YtjiknbjkbakegaaDoorTie.lean); close each card by the builder's one call (the guide's Derived/Test/ToyasCard.lean, 'card_holds'). Laid BY PROGRAM, IN A SANDBOX (cutbox-door.mjs). By AI agents, Wed Nov 11 2026. No macro, syntax, notation, axiom, sorry.
-/
import Derived.Test.YtjiknbjkbakegaaDoorRows
import GoSem.ClaimSeven
namespace Go.Proofs.YtjiknbjkbakegaaDoor
namespace Rows

/-- THE TIED CARD OF 'pasternlaw19.DiffTells'. -/
def diffTellsCard : Claim7 := { stood := { row := diffTellsRow, standIns := [], harness := (true, "6630019223c9045d2e3250e2db020799e15b48d8d741e1ebffd63c1f150d00b1"), looks := false }, kinds := [], alts := [], laidByText := true, laidKinds := [.data, .data, .data], laidTests := true, laidLooks := .later }
def DiffTellsCardSaid : Prop := Claim7.holds Tryd.pinned (.plain (OpenSpec.ofChange diffTellsSpec)) diffTellsCard

/-- THE TIED CARD OF 'pasternlaw19.DiffSame'. -/
def diffSameCard : Claim7 := { stood := { row := diffSameRow, standIns := [], harness := (true, "6630019223c9045d2e3250e2db020799e15b48d8d741e1ebffd63c1f150d00b1"), looks := false }, kinds := [], alts := [], laidByText := true, laidKinds := [.data, .data, .data], laidTests := true, laidLooks := .later }
def DiffSameCardSaid : Prop := Claim7.holds Tryd.pinned (.plain (OpenSpec.ofChange diffSameSpec)) diffSameCard

/-- THE TIED CARD OF 'pasternlaw19.DiffOne'. -/
def diffOneCard : Claim7 := { stood := { row := diffOneRow, standIns := [], harness := (true, "6630019223c9045d2e3250e2db020799e15b48d8d741e1ebffd63c1f150d00b1"), looks := false }, kinds := [], alts := [], laidByText := true, laidKinds := [.data, .data, .data], laidTests := true, laidLooks := .later }
def DiffOneCardSaid : Prop := Claim7.holds Tryd.pinned (.plain (OpenSpec.ofChange diffOneSpec)) diffOneCard

/-- THE SECOND FORM's CARD OF 'pasternlaw19.DiffTells'. -/
def diffTellsUptoCard : Claim7 := { stood := { row := diffTellsUptoRow, standIns := [], harness := (true, "6630019223c9045d2e3250e2db020799e15b48d8d741e1ebffd63c1f150d00b1"), looks := false }, kinds := [], alts := [], laidByText := true, laidKinds := [.data, .data, .data], laidTests := true, laidLooks := .later }
def DiffTellsUptoCardSaid : Prop := Claim7.holds Tryd.pinned (.plain (OpenSpec.upto diffTellsSpec)) diffTellsUptoCard

/-- THE SECOND FORM's CARD OF 'pasternlaw19.DiffSame'. -/
def diffSameUptoCard : Claim7 := { stood := { row := diffSameUptoRow, standIns := [], harness := (true, "6630019223c9045d2e3250e2db020799e15b48d8d741e1ebffd63c1f150d00b1"), looks := false }, kinds := [], alts := [], laidByText := true, laidKinds := [.data, .data, .data], laidTests := true, laidLooks := .later }
def DiffSameUptoCardSaid : Prop := Claim7.holds Tryd.pinned (.plain (OpenSpec.upto diffSameSpec)) diffSameUptoCard

/-- THE SECOND FORM's CARD OF 'pasternlaw19.DiffOne'. -/
def diffOneUptoCard : Claim7 := { stood := { row := diffOneUptoRow, standIns := [], harness := (true, "6630019223c9045d2e3250e2db020799e15b48d8d741e1ebffd63c1f150d00b1"), looks := false }, kinds := [], alts := [], laidByText := true, laidKinds := [.data, .data, .data], laidTests := true, laidLooks := .later }
def DiffOneUptoCardSaid : Prop := Claim7.holds Tryd.pinned (.plain (OpenSpec.upto diffOneSpec)) diffOneUptoCard
end Rows
end Go.Proofs.YtjiknbjkbakegaaDoor
