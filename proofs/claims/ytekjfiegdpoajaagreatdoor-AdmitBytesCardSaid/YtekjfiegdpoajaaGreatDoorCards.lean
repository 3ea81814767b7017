/-
  DERIVED. GIVEN WITH THE SEED: THE CARDS: each row of YtekjfiegdpoajaaGreatDoorRows.lean that lists a variable, with what it lists TIED to the program's text (the seventh form; the later family's looks); each row that meets fmt, with fmt's text TOLD by the authors' own Lean function (tested against real Go, not proved from fmt's source: count such statements apart). THE CARD IS WHAT COUNTS. Prove the row's statement (the work); the ties are given (YtekjfiegdpoajaaGreatDoorTie.lean); close each card by the builder's one call (the guide's Derived/Test/ToyasCard.lean, 'card_holds'). Laid BY PROGRAM, IN A SANDBOX (cutbox-door.mjs). By AI agents, Wed Nov 11 2026. No macro, syntax, notation, axiom, sorry.
-/
import Derived.Test.YtekjfiegdpoajaaGreatDoorRows
import GoSem.ClaimSeven
namespace Go.Proofs.YtekjfiegdpoajaaGreatDoor
namespace Rows

/-- THE TIED CARD OF 'bulkheadlaw16.AdmitReads'. -/
def admitReadsCard : Claim7 := { stood := { row := admitReadsRow, standIns := [], harness := (true, "9745db6a0f101f274b628d30cb7a6af2d0edb3bdc9c0d11f2afe21ab0adaa117"), looks := true }, kinds := [], alts := [], laidByText := true, laidKinds := [.data, .data], laidTests := true, laidLooks := .later }
def AdmitReadsCardSaid : Prop := Claim7.holds Tryz.pinned (.plain (OpenSpec.ofChange admitReadsSpec)) admitReadsCard

/-- THE TIED CARD OF 'bulkheadlaw16.AdmitBytes'. -/
def admitBytesCard : Claim7 := { stood := { row := admitBytesRow, standIns := [], harness := (true, "9745db6a0f101f274b628d30cb7a6af2d0edb3bdc9c0d11f2afe21ab0adaa117"), looks := true }, kinds := [], alts := [], laidByText := true, laidKinds := [.data, .data], laidTests := true, laidLooks := .later }
def AdmitBytesCardSaid : Prop := Claim7.holds Tryz.pinned (.plain (OpenSpec.ofChange admitBytesSpec)) admitBytesCard

/-- THE SECOND FORM's CARD OF 'bulkheadlaw16.AdmitReads'. -/
def admitReadsUptoCard : Claim7 := { stood := { row := admitReadsUptoRow, standIns := [], harness := (true, "9745db6a0f101f274b628d30cb7a6af2d0edb3bdc9c0d11f2afe21ab0adaa117"), looks := true }, kinds := [], alts := [], laidByText := true, laidKinds := [.data, .data], laidTests := true, laidLooks := .later }
def AdmitReadsUptoCardSaid : Prop := Claim7.holds Tryz.pinned (.plain (OpenSpec.upto admitReadsSpec)) admitReadsUptoCard

/-- THE SECOND FORM's CARD OF 'bulkheadlaw16.AdmitBytes'. -/
def admitBytesUptoCard : Claim7 := { stood := { row := admitBytesUptoRow, standIns := [], harness := (true, "9745db6a0f101f274b628d30cb7a6af2d0edb3bdc9c0d11f2afe21ab0adaa117"), looks := true }, kinds := [], alts := [], laidByText := true, laidKinds := [.data, .data], laidTests := true, laidLooks := .later }
def AdmitBytesUptoCardSaid : Prop := Claim7.holds Tryz.pinned (.plain (OpenSpec.upto admitBytesSpec)) admitBytesUptoCard
end Rows
end Go.Proofs.YtekjfiegdpoajaaGreatDoor
