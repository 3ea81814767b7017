/-
  DERIVED. GIVEN WITH THE SEED: THE CARDS: each row of YtjdmhijaanmccaaDoorRows.lean that lists a variable, with what it lists TIED to the program's text (the seventh form; the later family's looks); each row that meets fmt, with fmt's text TOLD by the authors' own Lean function (tested against real Go, not proved from fmt's source: count such statements apart). THE CARD IS WHAT COUNTS. Prove the row's statement (the work); the ties are given (YtjdmhijaanmccaaDoorTie.lean); close each card by the builder's one call (the guide's Derived/Test/ToyasCard.lean, 'card_holds'). Laid BY PROGRAM, IN A SANDBOX (cutbox-door.mjs). By AI agents, Wed Nov 11 2026. No macro, syntax, notation, axiom, sorry.
-/
import Derived.Test.YtjdmhijaanmccaaDoorRows
import GoSem.ClaimSeven
namespace Go.Proofs.YtjdmhijaanmccaaDoor
namespace Rows

/-- THE TIED CARD OF 'bulkheadlaw22.DeviceMany'. -/
def deviceManyCard : Claim7 := { stood := { row := deviceManyRow, standIns := [], harness := (true, "9a5a782631d71c7007f62487888227cdd6c69545ac1808a3966f6c53055f2edc"), looks := false }, kinds := [], alts := [], laidByText := true, laidKinds := [.data, .data], laidTests := true, laidLooks := .later }
def DeviceManyCardSaid : Prop := Claim7.holds Tryd.pinned (.plain (OpenSpec.ofChange deviceManySpec)) deviceManyCard

/-- THE TIED CARD OF 'bulkheadlaw22.DeviceHears'. -/
def deviceHearsCard : Claim7 := { stood := { row := deviceHearsRow, standIns := [], harness := (true, "9a5a782631d71c7007f62487888227cdd6c69545ac1808a3966f6c53055f2edc"), looks := false }, kinds := [], alts := [], laidByText := true, laidKinds := [.data, .data], laidTests := true, laidLooks := .later }
def DeviceHearsCardSaid : Prop := Claim7.holds Tryd.pinned (.plain (OpenSpec.ofChange deviceHearsSpec)) deviceHearsCard

/-- THE TIED CARD OF 'bulkheadlaw22.DeviceNone'. -/
def deviceNoneCard : Claim7 := { stood := { row := deviceNoneRow, standIns := [], harness := (true, "9a5a782631d71c7007f62487888227cdd6c69545ac1808a3966f6c53055f2edc"), looks := false }, kinds := [], alts := [], laidByText := true, laidKinds := [.data, .data], laidTests := true, laidLooks := .later }
def DeviceNoneCardSaid : Prop := Claim7.holds Tryd.pinned (.plain (OpenSpec.ofChange deviceNoneSpec)) deviceNoneCard

/-- THE SECOND FORM's CARD OF 'bulkheadlaw22.DeviceMany'. -/
def deviceManyUptoCard : Claim7 := { stood := { row := deviceManyUptoRow, standIns := [], harness := (true, "9a5a782631d71c7007f62487888227cdd6c69545ac1808a3966f6c53055f2edc"), looks := false }, kinds := [], alts := [], laidByText := true, laidKinds := [.data, .data], laidTests := true, laidLooks := .later }
def DeviceManyUptoCardSaid : Prop := Claim7.holds Tryd.pinned (.plain (OpenSpec.upto deviceManySpec)) deviceManyUptoCard

/-- THE SECOND FORM's CARD OF 'bulkheadlaw22.DeviceHears'. -/
def deviceHearsUptoCard : Claim7 := { stood := { row := deviceHearsUptoRow, standIns := [], harness := (true, "9a5a782631d71c7007f62487888227cdd6c69545ac1808a3966f6c53055f2edc"), looks := false }, kinds := [], alts := [], laidByText := true, laidKinds := [.data, .data], laidTests := true, laidLooks := .later }
def DeviceHearsUptoCardSaid : Prop := Claim7.holds Tryd.pinned (.plain (OpenSpec.upto deviceHearsSpec)) deviceHearsUptoCard

/-- THE SECOND FORM's CARD OF 'bulkheadlaw22.DeviceNone'. -/
def deviceNoneUptoCard : Claim7 := { stood := { row := deviceNoneUptoRow, standIns := [], harness := (true, "9a5a782631d71c7007f62487888227cdd6c69545ac1808a3966f6c53055f2edc"), looks := false }, kinds := [], alts := [], laidByText := true, laidKinds := [.data, .data], laidTests := true, laidLooks := .later }
def DeviceNoneUptoCardSaid : Prop := Claim7.holds Tryd.pinned (.plain (OpenSpec.upto deviceNoneSpec)) deviceNoneUptoCard
end Rows
end Go.Proofs.YtjdmhijaanmccaaDoor
