/-
  DERIVED. GIVEN WITH THE SEED: THE CARDS: each row of YtchpllgeahnmmaaDoorRows.lean that lists a variable, with what it lists TIED to the program's text (the seventh form; the later family's looks); each row that meets fmt, with fmt's text TOLD by the authors' own Lean function (tested against real Go, not proved from fmt's source: count such statements apart). THE CARD IS WHAT COUNTS. Prove the row's statement (the work); the ties are given (YtchpllgeahnmmaaDoorTie.lean); close each card by the builder's one call (the guide's Derived/Test/ToyasCard.lean, 'card_holds'). Laid BY PROGRAM, IN A SANDBOX (cutbox-door.mjs). By AI agents, Wed Nov 11 2026. No macro, syntax, notation, axiom, sorry.
-/
import Derived.Test.YtchpllgeahnmmaaDoorRows
import GoSem.ClaimSeven
namespace Go.Proofs.YtchpllgeahnmmaaDoor
namespace Rows

/-- THE TIED CARD OF 'pasternlaw3.EventTells'. -/
def eventTellsCard : Claim7 := { stood := { row := eventTellsRow, standIns := [], harness := (true, "a7d893448c3ba6a3a5e49eab0aa7d890cd70934c9cd8949f7c7aec6bb5739f1f"), looks := true }, kinds := [], alts := [], laidByText := true, laidKinds := [.handle], laidTests := true, laidLooks := .later }
def EventTellsCardSaid : Prop := Claim7.holds Tryd.pinned (.plain (OpenSpec.ofChange eventTellsSpec)) eventTellsCard

/-- THE TIED CARD OF 'pasternlaw4.EvolveTells'. -/
def evolveTellsCard : Claim7 := { stood := { row := evolveTellsRow, standIns := [], harness := (true, "a7d893448c3ba6a3a5e49eab0aa7d890cd70934c9cd8949f7c7aec6bb5739f1f"), looks := true }, kinds := [], alts := [], laidByText := true, laidKinds := [.handle], laidTests := true, laidLooks := .later }
def EvolveTellsCardSaid : Prop := Claim7.holds Tryd.pinned (.plain (OpenSpec.ofChange evolveTellsSpec)) evolveTellsCard

/-- THE TIED CARD OF 'pasternlaw5.ChainNews'. -/
def chainNewsCard : Claim7 := { stood := { row := chainNewsRow, standIns := [], harness := (true, "a7d893448c3ba6a3a5e49eab0aa7d890cd70934c9cd8949f7c7aec6bb5739f1f"), looks := true }, kinds := [], alts := [], laidByText := true, laidKinds := [.handle], laidTests := true, laidLooks := .later }
def ChainNewsCardSaid : Prop := Claim7.holds Tryd.pinned (.plain (OpenSpec.ofChange chainNewsSpec)) chainNewsCard

/-- THE TIED CARD OF 'pasternlaw5.ChainParts'. -/
def chainPartsCard : Claim7 := { stood := { row := chainPartsRow, standIns := [], harness := (true, "a7d893448c3ba6a3a5e49eab0aa7d890cd70934c9cd8949f7c7aec6bb5739f1f"), looks := true }, kinds := [], alts := [], laidByText := true, laidKinds := [.handle], laidTests := true, laidLooks := .later }
def ChainPartsCardSaid : Prop := Claim7.holds Tryd.pinned (.plain (OpenSpec.ofChange chainPartsSpec)) chainPartsCard

/-- THE SECOND FORM's CARD OF 'pasternlaw3.EventTells'. -/
def eventTellsUptoCard : Claim7 := { stood := { row := eventTellsUptoRow, standIns := [], harness := (true, "a7d893448c3ba6a3a5e49eab0aa7d890cd70934c9cd8949f7c7aec6bb5739f1f"), looks := true }, kinds := [], alts := [], laidByText := true, laidKinds := [.handle], laidTests := true, laidLooks := .later }
def EventTellsUptoCardSaid : Prop := Claim7.holds Tryd.pinned (.plain (OpenSpec.upto eventTellsSpec)) eventTellsUptoCard

/-- THE SECOND FORM's CARD OF 'pasternlaw4.EvolveTells'. -/
def evolveTellsUptoCard : Claim7 := { stood := { row := evolveTellsUptoRow, standIns := [], harness := (true, "a7d893448c3ba6a3a5e49eab0aa7d890cd70934c9cd8949f7c7aec6bb5739f1f"), looks := true }, kinds := [], alts := [], laidByText := true, laidKinds := [.handle], laidTests := true, laidLooks := .later }
def EvolveTellsUptoCardSaid : Prop := Claim7.holds Tryd.pinned (.plain (OpenSpec.upto evolveTellsSpec)) evolveTellsUptoCard

/-- THE SECOND FORM's CARD OF 'pasternlaw5.ChainNews'. -/
def chainNewsUptoCard : Claim7 := { stood := { row := chainNewsUptoRow, standIns := [], harness := (true, "a7d893448c3ba6a3a5e49eab0aa7d890cd70934c9cd8949f7c7aec6bb5739f1f"), looks := true }, kinds := [], alts := [], laidByText := true, laidKinds := [.handle], laidTests := true, laidLooks := .later }
def ChainNewsUptoCardSaid : Prop := Claim7.holds Tryd.pinned (.plain (OpenSpec.upto chainNewsSpec)) chainNewsUptoCard

/-- THE SECOND FORM's CARD OF 'pasternlaw5.ChainParts'. -/
def chainPartsUptoCard : Claim7 := { stood := { row := chainPartsUptoRow, standIns := [], harness := (true, "a7d893448c3ba6a3a5e49eab0aa7d890cd70934c9cd8949f7c7aec6bb5739f1f"), looks := true }, kinds := [], alts := [], laidByText := true, laidKinds := [.handle], laidTests := true, laidLooks := .later }
def ChainPartsUptoCardSaid : Prop := Claim7.holds Tryd.pinned (.plain (OpenSpec.upto chainPartsSpec)) chainPartsUptoCard
end Rows
end Go.Proofs.YtchpllgeahnmmaaDoor
