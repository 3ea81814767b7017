/-
  DERIVED. GIVEN WITH THE SEED: THE CARDS: each row of YtlccogilgegnfaaDoorRows.lean that lists a variable, with what it lists TIED to the program's text (the seventh form; the later family's looks); each row that meets fmt, with fmt's text TOLD by the authors' own Lean function (tested against real Go, not proved from fmt's source: count such statements apart). THE CARD IS WHAT COUNTS. Prove the row's statement (the work); the ties are given (YtlccogilgegnfaaDoorTie.lean); close each card by the builder's one call (the guide's Derived/Test/ToyasCard.lean, 'card_holds'). Laid BY PROGRAM, IN A SANDBOX (cutbox-door.mjs). By AI agents, Wed Nov 11 2026. No macro, syntax, notation, axiom, sorry.
-/
import Derived.Test.YtlccogilgegnfaaDoorRows
import GoSem.ClaimSeven
namespace Go.Proofs.YtlccogilgegnfaaDoor
namespace Rows

/-- THE TIED CARD OF 'bulkheadlaw23.HealthEnds'. -/
def healthEndsCard : Claim7 := { stood := { row := healthEndsRow, standIns := [], harness := (true, "de7a9fb23d14792e73aa5d3fc7673fd4fbd2894c19c2bdd98a6d76c032d1072d"), looks := false }, kinds := [], alts := [], laidByText := true, laidKinds := [.data, .data], laidTests := true, laidLooks := .later }
def HealthEndsCardSaid : Prop := Claim7.holds Tryd.pinned (.plain (OpenSpec.ofChange healthEndsSpec)) healthEndsCard

/-- THE TIED CARD OF 'bulkheadlaw23.HealthBack'. -/
def healthBackCard : Claim7 := { stood := { row := healthBackRow, standIns := [], harness := (true, "de7a9fb23d14792e73aa5d3fc7673fd4fbd2894c19c2bdd98a6d76c032d1072d"), looks := false }, kinds := [], alts := [], laidByText := true, laidKinds := [.data, .data], laidTests := true, laidLooks := .later }
def HealthBackCardSaid : Prop := Claim7.holds Tryd.pinned (.plain (OpenSpec.ofChange healthBackSpec)) healthBackCard

/-- THE TIED CARD OF 'bulkheadlaw23.HealthWalls'. -/
def healthWallsCard : Claim7 := { stood := { row := healthWallsRow, standIns := [], harness := (true, "de7a9fb23d14792e73aa5d3fc7673fd4fbd2894c19c2bdd98a6d76c032d1072d"), looks := false }, kinds := [], alts := [], laidByText := true, laidKinds := [.data, .data], laidTests := true, laidLooks := .later }
def HealthWallsCardSaid : Prop := Claim7.holds Tryd.pinned (.plain (OpenSpec.ofChange healthWallsSpec)) healthWallsCard

/-- THE SECOND FORM's CARD OF 'bulkheadlaw23.HealthEnds'. -/
def healthEndsUptoCard : Claim7 := { stood := { row := healthEndsUptoRow, standIns := [], harness := (true, "de7a9fb23d14792e73aa5d3fc7673fd4fbd2894c19c2bdd98a6d76c032d1072d"), looks := false }, kinds := [], alts := [], laidByText := true, laidKinds := [.data, .data], laidTests := true, laidLooks := .later }
def HealthEndsUptoCardSaid : Prop := Claim7.holds Tryd.pinned (.plain (OpenSpec.upto healthEndsSpec)) healthEndsUptoCard

/-- THE SECOND FORM's CARD OF 'bulkheadlaw23.HealthBack'. -/
def healthBackUptoCard : Claim7 := { stood := { row := healthBackUptoRow, standIns := [], harness := (true, "de7a9fb23d14792e73aa5d3fc7673fd4fbd2894c19c2bdd98a6d76c032d1072d"), looks := false }, kinds := [], alts := [], laidByText := true, laidKinds := [.data, .data], laidTests := true, laidLooks := .later }
def HealthBackUptoCardSaid : Prop := Claim7.holds Tryd.pinned (.plain (OpenSpec.upto healthBackSpec)) healthBackUptoCard

/-- THE SECOND FORM's CARD OF 'bulkheadlaw23.HealthWalls'. -/
def healthWallsUptoCard : Claim7 := { stood := { row := healthWallsUptoRow, standIns := [], harness := (true, "de7a9fb23d14792e73aa5d3fc7673fd4fbd2894c19c2bdd98a6d76c032d1072d"), looks := false }, kinds := [], alts := [], laidByText := true, laidKinds := [.data, .data], laidTests := true, laidLooks := .later }
def HealthWallsUptoCardSaid : Prop := Claim7.holds Tryd.pinned (.plain (OpenSpec.upto healthWallsSpec)) healthWallsUptoCard
end Rows
end Go.Proofs.YtlccogilgegnfaaDoor
