/-
  DERIVED. GIVEN WITH THE SEED: THE CARDS: each row of YtjdkigkknhefpaaDoorRows.lean that lists a variable, with what it lists TIED to the program's text (the seventh form; the later family's looks); each row that meets fmt, with fmt's text TOLD by the authors' own Lean function (tested against real Go, not proved from fmt's source: count such statements apart). THE CARD IS WHAT COUNTS. Prove the row's statement (the work); the ties are given (YtjdkigkknhefpaaDoorTie.lean); close each card by the builder's one call (the guide's Derived/Test/ToyasCard.lean, 'card_holds'). Laid BY PROGRAM, IN A SANDBOX (cutbox-door.mjs). By AI agents, Wed Nov 11 2026. No macro, syntax, notation, axiom, sorry.
-/
import Derived.Test.YtjdkigkknhefpaaDoorRows
import GoSem.ClaimSeven
namespace Go.Proofs.YtjdkigkknhefpaaDoor
namespace Rows

/-- THE TIED CARD OF 'bulkheadlaw10.CoreNames'. -/
def coreNamesCard : Claim7 := { stood := { row := coreNamesRow, standIns := [], harness := (true, "d97cfa810e6fc5ce102747464e9d2a443c46836db30e5e881368d8cf3610981d"), looks := false }, kinds := [], alts := [], laidByText := true, laidKinds := [.data], laidTests := true, laidLooks := .later }
def CoreNamesCardSaid : Prop := Claim7.holds Tryd.pinned (.plain (OpenSpec.ofChange coreNamesSpec)) coreNamesCard

/-- THE TIED CARD OF 'bulkheadlaw10.CoreWalls'. -/
def coreWallsCard : Claim7 := { stood := { row := coreWallsRow, standIns := [], harness := (true, "d97cfa810e6fc5ce102747464e9d2a443c46836db30e5e881368d8cf3610981d"), looks := false }, kinds := [], alts := [], laidByText := true, laidKinds := [.data], laidTests := true, laidLooks := .later }
def CoreWallsCardSaid : Prop := Claim7.holds Tryd.pinned (.plain (OpenSpec.ofChange coreWallsSpec)) coreWallsCard

/-- THE TIED CARD OF 'bulkheadlaw10.CoreBlind'. -/
def coreBlindCard : Claim7 := { stood := { row := coreBlindRow, standIns := [], harness := (true, "d97cfa810e6fc5ce102747464e9d2a443c46836db30e5e881368d8cf3610981d"), looks := false }, kinds := [], alts := [], laidByText := true, laidKinds := [.data], laidTests := true, laidLooks := .later }
def CoreBlindCardSaid : Prop := Claim7.holds Tryd.pinned (.plain (OpenSpec.ofChange coreBlindSpec)) coreBlindCard

/-- THE TIED CARD OF 'bulkheadlaw10.CoreCosts'. -/
def coreCostsCard : Claim7 := { stood := { row := coreCostsRow, standIns := [], harness := (true, "d97cfa810e6fc5ce102747464e9d2a443c46836db30e5e881368d8cf3610981d"), looks := false }, kinds := [], alts := [], laidByText := true, laidKinds := [.data], laidTests := true, laidLooks := .later }
def CoreCostsCardSaid : Prop := Claim7.holds Tryd.pinned (.plain (OpenSpec.ofChange coreCostsSpec)) coreCostsCard

/-- THE SECOND FORM's CARD OF 'bulkheadlaw10.CoreNames'. -/
def coreNamesUptoCard : Claim7 := { stood := { row := coreNamesUptoRow, standIns := [], harness := (true, "d97cfa810e6fc5ce102747464e9d2a443c46836db30e5e881368d8cf3610981d"), looks := false }, kinds := [], alts := [], laidByText := true, laidKinds := [.data], laidTests := true, laidLooks := .later }
def CoreNamesUptoCardSaid : Prop := Claim7.holds Tryd.pinned (.plain (OpenSpec.upto coreNamesSpec)) coreNamesUptoCard

/-- THE SECOND FORM's CARD OF 'bulkheadlaw10.CoreWalls'. -/
def coreWallsUptoCard : Claim7 := { stood := { row := coreWallsUptoRow, standIns := [], harness := (true, "d97cfa810e6fc5ce102747464e9d2a443c46836db30e5e881368d8cf3610981d"), looks := false }, kinds := [], alts := [], laidByText := true, laidKinds := [.data], laidTests := true, laidLooks := .later }
def CoreWallsUptoCardSaid : Prop := Claim7.holds Tryd.pinned (.plain (OpenSpec.upto coreWallsSpec)) coreWallsUptoCard

/-- THE SECOND FORM's CARD OF 'bulkheadlaw10.CoreBlind'. -/
def coreBlindUptoCard : Claim7 := { stood := { row := coreBlindUptoRow, standIns := [], harness := (true, "d97cfa810e6fc5ce102747464e9d2a443c46836db30e5e881368d8cf3610981d"), looks := false }, kinds := [], alts := [], laidByText := true, laidKinds := [.data], laidTests := true, laidLooks := .later }
def CoreBlindUptoCardSaid : Prop := Claim7.holds Tryd.pinned (.plain (OpenSpec.upto coreBlindSpec)) coreBlindUptoCard

/-- THE SECOND FORM's CARD OF 'bulkheadlaw10.CoreCosts'. -/
def coreCostsUptoCard : Claim7 := { stood := { row := coreCostsUptoRow, standIns := [], harness := (true, "d97cfa810e6fc5ce102747464e9d2a443c46836db30e5e881368d8cf3610981d"), looks := false }, kinds := [], alts := [], laidByText := true, laidKinds := [.data], laidTests := true, laidLooks := .later }
def CoreCostsUptoCardSaid : Prop := Claim7.holds Tryd.pinned (.plain (OpenSpec.upto coreCostsSpec)) coreCostsUptoCard
end Rows
end Go.Proofs.YtjdkigkknhefpaaDoor
