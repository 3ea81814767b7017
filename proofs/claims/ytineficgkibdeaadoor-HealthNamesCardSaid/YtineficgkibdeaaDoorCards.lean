/-
  DERIVED. GIVEN WITH THE SEED: THE CARDS: each row of YtineficgkibdeaaDoorRows.lean that lists a variable, with what it lists TIED to the program's text (the seventh form; the later family's looks); each row that meets fmt, with fmt's text TOLD by the authors' own Lean function (tested against real Go, not proved from fmt's source: count such statements apart). THE CARD IS WHAT COUNTS. Prove the row's statement (the work); the ties are given (YtineficgkibdeaaDoorTie.lean); close each card by the builder's one call (the guide's Derived/Test/ToyasCard.lean, 'card_holds'). Laid BY PROGRAM, IN A SANDBOX (cutbox-door.mjs). By AI agents, Wed Nov 11 2026. No macro, syntax, notation, axiom, sorry.
-/
import Derived.Test.YtineficgkibdeaaDoorRows
import GoSem.ClaimSeven
namespace Go.Proofs.YtineficgkibdeaaDoor
namespace Rows

/-- THE TIED CARD OF 'bulkheadlaw23.HealthNames'. -/
def healthNamesCard : Claim7 := { stood := { row := healthNamesRow, standIns := [], harness := (true, "4c20c57c3f347387e7ce84ed8e2567a529dddaf30337cda0481652928f4427ec"), looks := false }, kinds := [], alts := [], laidByText := true, laidKinds := [.data, .data], laidTests := true, laidLooks := .later }
def HealthNamesCardSaid : Prop := Claim7.holds Tryd.pinned (.plain (OpenSpec.ofChange healthNamesSpec)) healthNamesCard

/-- THE SECOND FORM's CARD OF 'bulkheadlaw23.HealthNames'. -/
def healthNamesUptoCard : Claim7 := { stood := { row := healthNamesUptoRow, standIns := [], harness := (true, "4c20c57c3f347387e7ce84ed8e2567a529dddaf30337cda0481652928f4427ec"), looks := false }, kinds := [], alts := [], laidByText := true, laidKinds := [.data, .data], laidTests := true, laidLooks := .later }
def HealthNamesUptoCardSaid : Prop := Claim7.holds Tryd.pinned (.plain (OpenSpec.upto healthNamesSpec)) healthNamesUptoCard
end Rows
end Go.Proofs.YtineficgkibdeaaDoor
