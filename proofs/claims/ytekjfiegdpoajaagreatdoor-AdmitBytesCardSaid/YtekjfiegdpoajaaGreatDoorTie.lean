/-
  DERIVED. GIVEN WITH THE SEED: THE PROGRAM's TIES (one call each: nine closed facts by the kernel) AND EACH ROW's TIE, after the 31st guide's Derived/Test/Toyas{Tie, Card}.lean. No idea stands in it: it is a product of the set-up. Laid BY PROGRAM, IN A SANDBOX (cutbox-door.mjs). By AI agents, Wed Nov 11 2026. No macro, syntax, notation, axiom, sorry.
-/
import Derived.Test.YtekjfiegdpoajaaGreatDoorRows
import Derived.LaidByTextLater
import Derived.SevenTiedAt
import Derived.LaidSub
import Derived.LaidOnce
namespace Go.Proofs.YtekjfiegdpoajaaGreatDoor
open Go
set_option maxRecDepth 100000
theorem seatTie1 : Tryz.prog.laidByTextLater [("bulkhead/admit.nowhere", Rows.laid_bulkhead_admit_nowhere), ("bulkhead/admit.fine", Rows.laid_bulkhead_admit_fine)] [.data, .data] true :=
  Program.laidByTextLater_by_one 19 8 4 (by kernel_rfl) (by kernel_rfl) (by kernel_rfl) (by kernel_rfl) (by kernel_rfl) (by kernel_rfl) (fun _ _ => by kernel_rfl)
theorem noOwnUnsafe : Tryz.pinned.checked.prog.headLifts.contains "ownunsafe" = false := by kernel_rfl
theorem tie : Tryz.prog.laidByTextLater [("bulkhead/admit.nowhere", Rows.laid_bulkhead_admit_nowhere), ("bulkhead/admit.fine", Rows.laid_bulkhead_admit_fine)] [.data, .data] true :=
  Program.laidByTextLater.sub seatTie1 ["bulkhead/admit.nowhere", "bulkhead/admit.fine"] (by kernel_rfl) (by kernel_rfl)
theorem admitReads_row_tie : Rows.admitReadsRow.laidByTextAt .later Tryz.pinned [.data, .data] true :=
  OpenClaim.laidByTextAt_later rfl rfl tie noOwnUnsafe
theorem admitBytes_row_tie : Rows.admitBytesRow.laidByTextAt .later Tryz.pinned [.data, .data] true :=
  OpenClaim.laidByTextAt_later rfl rfl tie noOwnUnsafe
theorem admitReadsUpto_row_tie : Rows.admitReadsUptoRow.laidByTextAt .later Tryz.pinned [.data, .data] true :=
  OpenClaim.laidByTextAt_later rfl rfl tie noOwnUnsafe
theorem admitBytesUpto_row_tie : Rows.admitBytesUptoRow.laidByTextAt .later Tryz.pinned [.data, .data] true :=
  OpenClaim.laidByTextAt_later rfl rfl tie noOwnUnsafe
end Go.Proofs.YtekjfiegdpoajaaGreatDoor
