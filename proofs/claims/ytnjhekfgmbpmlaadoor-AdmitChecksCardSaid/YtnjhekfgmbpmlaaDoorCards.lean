/-
  DERIVED. GIVEN WITH THE SEED: THE CARDS: each row of YtnjhekfgmbpmlaaDoorRows.lean that lists a variable, with what it lists TIED to the program's text (the seventh form; the later family's looks); each row that meets fmt, with fmt's text TOLD by the authors' own Lean function (tested against real Go, not proved from fmt's source: count such statements apart). THE CARD IS WHAT COUNTS. Prove the row's statement (the work); the ties are given (YtnjhekfgmbpmlaaDoorTie.lean); close each card by the builder's one call (the guide's Derived/Test/ToyasCard.lean, 'card_holds'). Laid BY PROGRAM, IN A SANDBOX (cutbox-door.mjs). By AI agents, Wed Nov 11 2026. No macro, syntax, notation, axiom, sorry.
-/
import Derived.Test.YtnjhekfgmbpmlaaDoorRows
import GoSem.ClaimSeven
namespace Go.Proofs.YtnjhekfgmbpmlaaDoor
namespace Rows

/-- THE TIED CARD OF 'bulkheadlaw16.AdmitChecks'. -/
def admitChecksCard : Claim7 := { stood := { row := admitChecksRow, standIns := [], harness := (true, "a65812a0de1d5ada2ff801806917c41f7fa860da439233d69c329dc9bfc007ec"), looks := false }, kinds := [], alts := [], laidByText := true, laidKinds := [.data, .data], laidTests := true, laidLooks := .later }
def AdmitChecksCardSaid : Prop := Claim7.holds Tryd.pinned (.plain (OpenSpec.ofChange admitChecksSpec)) admitChecksCard

/-- THE TIED CARD OF 'bulkheadlaw16.AdmitHolds'. -/
def admitHoldsCard : Claim7 := { stood := { row := admitHoldsRow, standIns := [], harness := (true, "a65812a0de1d5ada2ff801806917c41f7fa860da439233d69c329dc9bfc007ec"), looks := false }, kinds := [], alts := [], laidByText := true, laidKinds := [.data, .data], laidTests := true, laidLooks := .later }
def AdmitHoldsCardSaid : Prop := Claim7.holds Tryd.pinned (.plain (OpenSpec.ofChange admitHoldsSpec)) admitHoldsCard

/-- THE TIED CARD OF 'bulkheadlaw16.AdmitOrder'. -/
def admitOrderCard : Claim7 := { stood := { row := admitOrderRow, standIns := [], harness := (true, "a65812a0de1d5ada2ff801806917c41f7fa860da439233d69c329dc9bfc007ec"), looks := false }, kinds := [], alts := [], laidByText := true, laidKinds := [.data, .data], laidTests := true, laidLooks := .later }
def AdmitOrderCardSaid : Prop := Claim7.holds Tryd.pinned (.plain (OpenSpec.ofChange admitOrderSpec)) admitOrderCard

/-- THE TIED CARD OF 'bulkheadlaw16.AdmitOne'. -/
def admitOneCard : Claim7 := { stood := { row := admitOneRow, standIns := [], harness := (true, "a65812a0de1d5ada2ff801806917c41f7fa860da439233d69c329dc9bfc007ec"), looks := false }, kinds := [], alts := [], laidByText := true, laidKinds := [.data, .data], laidTests := true, laidLooks := .later }
def AdmitOneCardSaid : Prop := Claim7.holds Tryd.pinned (.plain (OpenSpec.ofChange admitOneSpec)) admitOneCard

/-- THE SECOND FORM's CARD OF 'bulkheadlaw16.AdmitChecks'. -/
def admitChecksUptoCard : Claim7 := { stood := { row := admitChecksUptoRow, standIns := [], harness := (true, "a65812a0de1d5ada2ff801806917c41f7fa860da439233d69c329dc9bfc007ec"), looks := false }, kinds := [], alts := [], laidByText := true, laidKinds := [.data, .data], laidTests := true, laidLooks := .later }
def AdmitChecksUptoCardSaid : Prop := Claim7.holds Tryd.pinned (.plain (OpenSpec.upto admitChecksSpec)) admitChecksUptoCard

/-- THE SECOND FORM's CARD OF 'bulkheadlaw16.AdmitHolds'. -/
def admitHoldsUptoCard : Claim7 := { stood := { row := admitHoldsUptoRow, standIns := [], harness := (true, "a65812a0de1d5ada2ff801806917c41f7fa860da439233d69c329dc9bfc007ec"), looks := false }, kinds := [], alts := [], laidByText := true, laidKinds := [.data, .data], laidTests := true, laidLooks := .later }
def AdmitHoldsUptoCardSaid : Prop := Claim7.holds Tryd.pinned (.plain (OpenSpec.upto admitHoldsSpec)) admitHoldsUptoCard

/-- THE SECOND FORM's CARD OF 'bulkheadlaw16.AdmitOrder'. -/
def admitOrderUptoCard : Claim7 := { stood := { row := admitOrderUptoRow, standIns := [], harness := (true, "a65812a0de1d5ada2ff801806917c41f7fa860da439233d69c329dc9bfc007ec"), looks := false }, kinds := [], alts := [], laidByText := true, laidKinds := [.data, .data], laidTests := true, laidLooks := .later }
def AdmitOrderUptoCardSaid : Prop := Claim7.holds Tryd.pinned (.plain (OpenSpec.upto admitOrderSpec)) admitOrderUptoCard

/-- THE SECOND FORM's CARD OF 'bulkheadlaw16.AdmitOne'. -/
def admitOneUptoCard : Claim7 := { stood := { row := admitOneUptoRow, standIns := [], harness := (true, "a65812a0de1d5ada2ff801806917c41f7fa860da439233d69c329dc9bfc007ec"), looks := false }, kinds := [], alts := [], laidByText := true, laidKinds := [.data, .data], laidTests := true, laidLooks := .later }
def AdmitOneUptoCardSaid : Prop := Claim7.holds Tryd.pinned (.plain (OpenSpec.upto admitOneSpec)) admitOneUptoCard
end Rows
end Go.Proofs.YtnjhekfgmbpmlaaDoor
